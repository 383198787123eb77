/- A part of the proof: what it holds is said by each theorem. -/
import Derived.IntWalk
import Derived.Test.YtlkhmflligkbkaaGreatProg
import Derived.ProofKit
import Derived.OpenShut
import Derived.ChangeOld
import Derived.Below
import Derived.Test.YtlkhmflligkbkaaGreatP0
set_option linter.unusedVariables false
set_option linter.defProp false
set_option linter.unusedSimpArgs false
namespace Gx
open Go
def A2m:Nat→List Oper→List (Nat×Oper)
 | _,[]=>[]
 | n,o::r=>(n,o)::A2m (n+1) r
theorem zj:∀ {l:List Oper} {n:Nat} {p:Nat×Oper},p ∈ A2m n l↔n≤p.1∧l[p.1 - n]?=some p.2
 | [],n,p=>by simp[A2m]
 | o::r,n,p=>by
  rw[A2m,List.mem_cons,zj]
  constructor
  ·rintro(rfl | ⟨C,k⟩)
   ·simp
   ·refine⟨by omega,?_⟩
    rw[show p.1 - n=(p.1 - (n+1))+1 by omega];simpa using k
  ·rintro⟨C,k⟩
   by_cases e:p.1=n
   ·left
    rw[e] at k;simp at k
    obtain⟨a,b⟩:=p
    simp at e k;subst e k;rfl
   ·right
    refine⟨by omega,?_⟩
    rw[show p.1 - n=(p.1 - (n+1))+1 by omega] at k;simpa using k
theorem Aa1:∀ (l:List Oper) (n:Nat),(A2m n l).Pairwise (fun a b=>a.1<b.1)
 | [],n=>List.Pairwise.nil
 | o::r,n=>by
  rw[A2m]
  refine List.pairwise_cons.2 ⟨fun p k=>?_,Aa1 r (n+1)⟩
  have:=(zj.1 k).1
  show n<p.1;omega
section
variable {R:Type} {r:R} {Z:Start} {E:Env} {ops:Array Oper}
def RunL (E:Env) (ops:Array Oper):List Oper→List Foot→St→St→Prop
 | [],[],st,e=>st=e
 | o::l,f::fs,st,e=>∃ st' q,Eqv st st'∧Vo E ops o st'=some q∧q.2.2=f∧RunL E ops l fs (after E o st' q) e
 | _,_,_,_=>False
theorem At2:∀ {l:List Oper} {st:St} {tr:List Foot} {k:St→List Foot→O R},zy E ops l st tr k=some r→∃ fs e,k e (fs.reverse++tr)=some r∧RunL E ops l fs st e
 | [],st,tr,k,h=>⟨[],st,by simpa[zy] using h,rfl⟩
 | o::l,st,tr,k,h=>by
  rw[zy] at h
  obtain⟨st',C,h⟩:=Aap h
  rw[fb] at h
  obtain⟨q,D,F⟩:=ub h
  obtain⟨fs,e,G,I⟩:=At2 F
  exact⟨q.2.2::fs,e,by simpa using G,st',q,C,D,rfl,I⟩
theorem RunL.length:∀ {l:List Oper} {fs:List Foot} {st e:St},RunL E ops l fs st e→fs.length=l.length
 | [],[],_,_,_=>rfl
 | [],_::_,_,_,h=>h.elim
 | _::_,[],_,_,h=>h.elim
 | o::l,f::fs,st,e,⟨_,q,_,_,_,h⟩=>by simp[RunL.length h]
theorem RunL.runF {fp:Nat→Foot}:∀ {l:List Oper} {fs:List Foot} {n:Nat} {st e:St},RunL E ops l fs st e→(∀ (j:Nat) (f:Foot),fs[j]?=some f→fp (n+j)=f)→RunF E ops fp (A2m n l) st e
 | [],[],n,st,e,h,_=>by subst h;exact Eqv.refl _
 | [],_::_,_,_,_,h,_=>h.elim
 | _::_,[],_,_,_,h,_=>h.elim
 | o::l,f::fs,n,st,e,⟨st',q,C,D,F,G⟩,k=>by
  rw[A2m]
  refine RunF.congr ?_ C.symm
  rw[RunF]
  refine⟨q,D,by rw[F];exact(k 0 f (by simp)).symm,RunL.runF G (fun j g I=>?_)⟩
  have:=k (j+1) g (by simpa using I)
  rwa [show n+(j+1)=n+1+j by omega] at this
theorem uf {f:Foot} {anc:List Nat}:∀ {seen:List Foot} {i:Nat},mt f anc i seen=true→∀ (j:Nat) (g:Foot),seen[j]?=some g→(i+j) ∈ anc∨uN g f=true
 | [],i,_,j,g,k=>by simp at k
 | x::r,i,h,j,g,k=>by
  rw[mt] at h;simp only[Bool.and_eq_true,Bool.or_eq_true] at h
  cases j with
  | zero =>
   simp at k;subst k
   rcases h.1 with C | C
   ·exact .inl (Mm.1 C)
   ·exact .inr C
  | succ j =>
   have:=uf h.2 j g (by simpa using k)
   rwa [show i+1+j=i+(j+1) by omega] at this
theorem Aa2:∀ {fs:List Foot} {az9:List (List Nat)} {seen:List Foot},fY fs az9 seen=true→∀ (i:Nat) (f:Foot),fs[i]?=some f →
  ∃ a,az9[i]?=some a∧∀ (j:Nat) (g:Foot),(seen++fs)[j]?=some g→j<seen.length+i→j ∈ a∨uN g f=true
 | [],az9,seen,_,i,f,k=>by simp at k
 | x::r,[],seen,h,i,f,k=>by simp[fY] at h
 | x::r,a::az9,seen,h,i,f,k=>by
  rw[fY] at h;simp only[Bool.and_eq_true] at h
  cases i with
  | zero =>
   simp at k;subst k
   refine⟨a,by simp,fun j g C D=>?_⟩
   rw[List.getElem?_append,if_pos (by omega)] at C
   simpa using uf h.1 j g C
  | succ i =>
   obtain⟨F,G,I⟩:=Aa2 h.2 i f (by simpa using k)
   refine⟨F,by simpa using G,fun j g C D=>I j g ?_ (by simp;omega)⟩
   simpa using C
theorem LU:∀ {l:List Oper} {k:List (List Nat)} {i:Nat},i<k.length→(Hb l k)[i]?=k[i]?
 | [],k,i,_=>rfl
 | o::r,k,i,hi=>by
  rw[Hb,MV,LU (by simp;omega),List.getElem?_append,if_pos hi]
theorem SA:∀ {l:List Oper} {C:List (List Nat)} {i:Nat} {a:List Nat},(Hb l C)[i]?=some a→C.length≤i→∃ o,l[i - C.length]?=some o ∧
  ∀ k ∈ a,k ∈ RT o∨∃ j G,j ∈ RT o∧j<i∧(Hb l C)[j]?=some G∧k ∈ G
 | [],C,i,a,h,hi=>by
  rw[Hb,List.getElem?_eq_none hi] at h;cases h
 | o::r,C,i,a,h,hi=>by
  by_cases e:i=C.length
  ·subst e
   rw[Hb,MV,LU (by simp)] at h
   simp only[List.getElem?_concat_length,Option.some.injEq] at h
   refine⟨o,by simp,fun k D=>?_⟩
   rw[←h,M_] at D
   replace D:=D.resolve_right (by simp)
   rcases List.mem_append.1 D with D | D
   ·exact .inl D
   ·right
    obtain⟨j,M,D⟩:=List.mem_flatMap.1 D
    cases I:C[j]? with
    | none=>rw[I] at D;simp at D
    | some G =>
     rw[I] at D;simp at D
     have F:j<C.length:=(List.getElem?_eq_some_iff.1 I).1
     exact⟨j,G,M,F,by rw[LU F];exact I,D⟩
  ·rw[Hb,MV] at h
   obtain⟨o',L,S⟩:=SA h (by simp;omega)
   refine⟨o',?_,fun k D=>?_⟩
   ·simp at L
    rw[show i - C.length=(i - (C.length+1))+1 by omega];simpa using L
   ·rw[Hb,MV];exact S k D
theorem nF:∀ {l:List Oper} {n i:Nat} {o:Oper},CZ n l=true→l[i]?=some o→∀ e ∈ o.after,aG e=true→e.on<n+i
 | [],n,i,o,_,hi,_,_,_=>by simp at hi
 | x::r,n,i,o,h,hi,e,k,C=>by
  rw[CZ] at h;simp only[Bool.and_eq_true] at h
  cases i with
  | zero =>
   simp at hi;subst hi
   have:=List.all_eq_true.1 h.1 e (by simpa using k)
   rw[C] at this;simpa using this
  | succ i =>
   have:=nF h.2 (by simpa using hi) e k C
   omega
theorem Al4 (e:Edge):Region.binds .any e=aG e:=by
 unfold Region.binds aG
 cases e.ground<;>rfl
theorem Ayo {listed:Array Bool} (hclosed:∀ (j:Nat) (o:Oper),ops[j]?=some o→listed.getD j true=true→∀ k ∈ RT o,listed.getD k false=true) :
  ∀ (i:Nat) (a:List Nat) (o:Oper),(Hb ops.toList [])[i]?=some a→ops[i]?=some o→(∀ k ∈ RT o,listed.getD k false=true)→∀ k ∈ a,listed.getD k false=true:=by
 intro i
 induction i using Nat.strongRecOn with
 | _ i T =>
  intro a o U V L k Y
  obtain⟨o',F,h2⟩:=SA U (by simp)
  simp at F
  rw[V] at F;simp at F;subst F
  rcases h2 k Y with G | ⟨j,a',G,h4,M,h6⟩
  ·exact L k G
  ·have C:=L j G
   obtain⟨oj,D,_⟩:=SA M (by simp)
   simp at D
   have I:listed.getD j true=true:=by
    rw[Array.getD_eq_getD_getElem?] at C ⊢
    cases S:listed[j]? with
    | none=>rw[S] at C;simp at C
    | some b=>rw[S] at C;simpa using C
   exact T j h4 a' oj M D (hclosed j oj D I) k h6
def Vl (ops:Array Oper) (listed:Array Bool):List (Nat×Oper):=(A2m 0 ops.toList).filter fun p=>!listed.getD p.1 true
theorem aR (listed:Array Bool):(Vl ops listed).Pairwise (fun a b=>a.1<b.1):=(Aa1 _ _).filter _
theorem M' {listed:Array Bool} {p:Nat×Oper}:p ∈ Vl ops listed↔ops[p.1]?=some p.2∧listed.getD p.1 true=false:=by
 unfold Vl
 rw[List.mem_filter,zj]
 simp
theorem At3 {listed:Array Bool} {i:Nat} {o:Oper} {A B:List (Nat×Oper)} (h:Vl ops listed=A++(i,o)::B):Vl ops (listed.setIfInBounds i true)=A++B:=by
 have hi:(i,o) ∈ Vl ops listed:=by rw[h];simp
 have k:=(M'.1 hi).2
 have D:i<listed.size:=by
  rw[Array.getD_eq_getD_getElem?] at k
  rcases Nat.lt_or_ge i listed.size with F | F
  ·exact F
  ·rw[Array.getElem?_eq_none F] at k;simp at k
 have I:Vl ops (listed.setIfInBounds i true)=(Vl ops listed).filter fun p=>!Nat.beq p.1 i:=by
  unfold Vl
  rw[List.filter_filter]
  congr 1;funext p
  by_cases e:p.1=i
  ·rw[e];simp[D]
  ·rw[getD_set_ne true (fun e'=>e e'.symm),gV e];simp
 rw[I,h,List.filter_append,List.filter_cons]
 have hs:=aR (ops:=ops) listed
 rw[h] at hs
 have C:=List.pairwise_append.1 hs
 have hB:=List.pairwise_cons.1 C.2.1
 have e1:A.filter (fun p=>!Nat.beq p.1 i)=A:=List.filter_eq_self.2 (fun p G=>by
  have:p.1<i:=C.2.2 p G (i,o) (by simp)
  rw[gV (by omega)];rfl)
 have L:B.filter (fun p=>!Nat.beq p.1 i)=B:=List.filter_eq_self.2 (fun p G=>by
  have:i<p.1:=hB.1 p G
  rw[gV (by omega)];rfl)
 rw[e1,L];simp
theorem A38 (hC:kw E) {Q:Exit→Act→World→Prop} {fp:Nat→Foot} {e:St} (hfw:CZ 0 ops.toList=true)
  (hord:∀ (i j:Nat) (o:Oper),ops[i]?=some o→j<i→∃ a,(Hb ops.toList [])[i]?=some a∧(j ∈ a∨uN (fp j) (fp i)=true))
  (hQ:∀ a' w' J' β',Inv Z E.nt J' β' e a' w'→Q .normal a' w') :
  ∀ (fuel:Nat) (listed:Array Bool) {st:St} {a:Act} {w:World} {J:Bool→Nat→Prop} {β:C1},listed.size=ops.size→(Vl ops listed).length=fuel →
   (∀ (j:Nat) (o:Oper),ops[j]?=some o→listed.getD j true=true→∀ k ∈ RT o,listed.getD k false=true) →
   RunF E ops fp (Vl ops listed) st e→Inv Z E.nt J β st a w→wpAny E.P .any ops Q fuel listed a w:=by
 intro fuel
 have fin:∀ (listed:Array Bool) {st:St} {a:Act} {w:World} {J:Bool→Nat→Prop} {β:C1},Vl ops listed=[]→RunF E ops fp (Vl ops listed) st e→Inv Z E.nt J β st a w→Region.ready .any ops listed=[]∧Q .normal a w:=by
  intro listed st a w J β hr C I
  refine⟨List.eq_nil_iff_forall_not_mem.2 (fun i hi=>?_),?_⟩
  ·obtain⟨h1,o,L,_⟩:=mem_ready.1 hi
   have:(i,o) ∈ Vl ops listed:=M'.2 ⟨L,h1⟩
   rw[hr] at this;simp at this
  ·rw[hr,RunF] at C
   exact hQ _ _ J β (I.eqv C)
 induction fuel with
 | zero =>
  intro listed st a w J β _ D _ C I
  exact fin listed (List.length_eq_zero_iff.1 D) C I
 | succ fuel ih =>
  intro listed st a w J β hsz D hclosed C I
  refine⟨fun hnil=>?_,fun i hi=>?_⟩
  ·
   cases F:Vl ops listed with
   | nil=>rw[F] at D;simp at D
   | cons p r =>
    exfalso
    have hp:p ∈ Vl ops listed:=by rw[F];simp
    obtain⟨G,hl⟩:=M'.1 hp
    have hs:=aR (ops:=ops) listed
    rw[F] at hs
    have hmin:=(List.pairwise_cons.1 hs).1
    have:p.1 ∈ Region.ready .any ops listed:=mem_ready.2 ⟨hl,p.2,G,fun U Y hb=>by
     rw[Al4] at hb
     have S:=nF hfw (i:=p.1) (o:=p.2) (by simpa using G) U Y hb
     simp at S
     have hops:U.on<ops.size:=by have:=(Array.getElem?_eq_some_iff.1 G).1;omega
     cases hx:listed.getD U.on true with
     | true =>
      rw[Array.getD_eq_getD_getElem?] at hx ⊢
      rw[Array.getElem?_eq_getElem (by omega)] at hx ⊢
      simpa using hx
     | false =>
      have hm:(U.on,ops[U.on]) ∈ Vl ops listed:=M'.2 ⟨by simp[hops],hx⟩
      rw[F] at hm
      rcases List.mem_cons.1 hm with e1 | e1
      ·have:U.on=p.1:=by rw[←e1]
       omega
      ·have:=hmin _ e1
       simp at this;omega⟩
    rw[hnil] at this;simp at this
  ·obtain⟨hl,o,G,hall⟩:=mem_ready.1 hi
   have hmem:(i,o) ∈ Vl ops listed:=M'.2 ⟨G,hl⟩
   obtain⟨A,B,hAB⟩:=List.append_of_mem hmem
   have V:∀ k ∈ RT o,listed.getD k false=true:=by
    intro k hk
    unfold RT at hk
    obtain⟨U,Y,rfl⟩:=List.mem_map.1 hk
    obtain⟨h1,L⟩:=List.mem_filter.1 Y
    exact hall U (by simpa using h1) (by rw[Al4];exact L)
   have hs:=aR (ops:=ops) listed
   rw[hAB] at hs
   have hs':=List.pairwise_append.1 hs
   rw[hAB] at C
   obtain⟨q,g1,g2,g3⟩:=C.pull (fun jp hjp=>by
    have S:jp.1<i:=hs'.2.2 jp hjp (i,o) (by simp)
    obtain⟨an,h1,L⟩:=hord i jp.1 o G S
    rcases L with L | L
    ·exfalso
     have:=Ayo hclosed i an o h1 G V jp.1 L
     have hjm:jp ∈ Vl ops listed:=by rw[hAB];simp[hjp]
     have h3:=(M'.1 hjm).2
     rw[Array.getD_eq_getD_getElem?] at this h3
     cases hx:listed[jp.1]? with
     | none=>rw[hx] at this;simp at this
     | some b=>rw[hx] at this h3;simp at this h3;rw[this] at h3;cases h3
    ·exact L)
   have hone:Atf E ops o st (fun s f=>some (s,f))=some (after E o st q,q.2.2):=by rw[fb,g1];rfl
   obtain⟨st',f,h4,h5⟩:=Aao (K:=wpAny E.P .any ops Q fuel (listed.setIfInBounds i true)) (Q:=Q) hC I hone
   simp only[Option.some.injEq,Prod.mk.injEq] at h4
   obtain⟨rfl,rfl⟩:=h4
   have S:i<listed.size:=by rw[hsz];exact(Array.getElem?_eq_some_iff.1 G).1
   have:=h5 (fun a' w' J' β' I'=>ih (listed.setIfInBounds i true) (by simp[hsz]) (by
     rw[At3 hAB];rw[hAB] at D;simp at D ⊢;omega) (fun j oj T hj k hk=>?_) (by rw[At3 hAB];exact g3) I')
   ·unfold wpOp
    rw[G]
    simp only
    split
    ·rename_i hw;rw[if_pos hw] at this;exact .inl this
    ·rename_i hw;rw[if_neg hw] at this;exact this
   ·by_cases e1:j=i
    ·subst e1
     rw[G] at T;simp at T;subst T
     exact getD_set_true (V k hk)
    ·rw[getD_set_ne true (fun e'=>e1 e'.symm)] at hj
     exact getD_set_true (hclosed j oj T hj k hk)
end
end Gx

namespace Gx
open Go
section
variable {R:Type} {r:R} {Z:Start} {E:Env}
theorem Aiw (hC:kw E) (hm:E.P.follows .mixedOrders=true) {roots:List Nat} {id:Nat} {ops:Array Oper} {draw:Bool} {st:St} {k:St→O R} {a:Act} {w:World} {J:Bool→Nat→Prop} {β:C1} {Q:Exit→Act→World→Prop}
  (I:Inv Z E.nt J β st a w) (Y:fZ E roots ops draw st k=some r) (hQ:∀ st' D w' J' β',Inv Z E.nt J' β' st' D w'→k st'=some r→Q .normal D w'):(Code.region id ops draw).wp E.P Q a w:=by
 unfold fZ at Y
 have done:∀ {st':St} {tr:List Foot} {D:Act} {w':World} {J':Bool→Nat→Prop} {β':C1},Inv Z E.nt J' β' st' D w' →
   cond (!draw||(CZ 0 ops.toList&&fY tr.reverse (Hb ops.toList []) [])) ((clean (st'.s.map (·.1)) roots st').bind k) none=some r→Q .normal D w':=by
  intro st' tr D w' J' β' I' h'
  obtain⟨_,U⟩:=uc h'
  obtain⟨uU,V,h3⟩:=ub U
  obtain⟨β2,I2⟩:=Atw I' V
  exact hQ _ _ _ _ _ I2 h3
 cases draw with
 | false=>exact wp_region_list (Aaq hC _ I Y (fun st' tr' D w' J' β' I' h'=>done I' h'))
 | true =>
  obtain⟨fs,e,U,V⟩:=At2 Y
  obtain⟨hc,h3⟩:=uc U
  simp at hc
  obtain⟨hfw,L⟩:=hc
  have M:=V.length
  refine wp_region_any hm ?_
  have I':Inv Z E.nt J β st a w.drew:=I.step (Step.drew I.sim) (fun b x hx hn=>by rw[hx] at hn;cases hn)
  have C:Vl ops (Array.replicate ops.size false)=A2m 0 ops.toList:=by
   unfold Vl
   refine List.filter_eq_self.2 (fun p hp=>?_)
   have:=(zj.1 hp).2
   have F:p.1<ops.size:=by
    simp at this
    exact(Array.getElem?_eq_some_iff.1 this).1
   simp[F]
  have S:(A2m 0 ops.toList).length=ops.size:=by
   have:∀ (l:List Oper) (n:Nat),(A2m n l).length=l.length:=by
    intro l
    induction l with
    | nil=>intro n;rfl
    | cons o r ih=>intro n;simp[A2m,ih]
   rw[this];simp
  have T:RunF E ops (fun i=>fs.getD i { r:=[],w:=none,f:=[],u:=[] }) (A2m 0 ops.toList) st e:=V.runF (fun j f G=>by simp[G])
  refine A38 hC (fp:=fun i=>fs.getD i { r:=[],w:=none,f:=[],u:=[] }) (e:=e) hfw (fun i j o ho hji=>?_) (fun D w' J' β' Ie=>done (tr:=fs.reverse++[]) Ie U) ops.size _ (by simp) (by rw[C,S]) (fun j o ho G=>?_) (by rw[C];exact T) I'
  ·have hi:i<fs.length:=by rw[M];simpa using(Array.getElem?_eq_some_iff.1 ho).1
   obtain⟨an,g1,g2⟩:=Aa2 L i fs[i] (List.getElem?_eq_getElem hi)
   refine⟨an,g1,?_⟩
   have G:j<fs.length:=by omega
   have:=g2 j fs[j] (by simp[G]) (by simpa using hji)
   simpa[hi,G] using this
  ·exfalso
   have F:j<ops.size:=(Array.getElem?_eq_some_iff.1 ho).1
   simp[F] at G
end
end Gx

namespace Gx
open Go
theorem nG (ρ:Nat→Nat):∀ c:LA,(Z7 ρ c).length=c.length
 | []=>rfl
 | x::r=>by rw[Z7,List.length_cons,List.length_cons,nG ρ r]
theorem N6 (ρ:Nat→Nat) (x:Blk):(LM ρ x).cells.length=x.cells.length:=by
 unfold LM;cases x.pure
 ·simp;exact nG _ _
 ·rfl
theorem Al5 {ρ:Nat→Nat}:∀ {c:LA} {j:Nat} {y:AV},(Z7 ρ c)[j]?=some y→∃ x,c[j]?=some x∧y=gU ρ x
 | [],j,y,k=>by simp[Z7] at k
 | x::r,j,y,k=>by
  rw[Z7] at k
  cases j with
  | zero=>simp at k;exact⟨x,by simp,k.symm⟩
  | succ j=>obtain⟨x',C,D⟩:=Al5 (c:=r) (j:=j) (by simpa using k);exact⟨x',by simpa using C,D⟩
section
variable {R:Type} {r:R} {J J':Bool→Nat→Prop} {β β':C1} {h h':Am} {w w':World} {ids:List Nat} {ρ:Nat→Nat}
theorem Pn {g:B5}:∀ {ids:List Nat},(ids.map ρ).Nodup→∀ c y,Au (sub g ρ ids) c=some y→∃ b x,b ∈ ids∧ρ b=c∧g b=some x∧y=LM ρ x
 | [],_,c,y,k=>by simp[sub,Au] at k
 | b::r,hn,c,y,k=>by
  rw[List.map_cons,List.nodup_cons] at hn
  rw[sub] at k
  split at k
  ·rename_i x L
   rw[Ai] at k
   by_cases e:c=ρ b
   ·rw[if_pos e] at k;simp at k
    exact⟨b,x,by simp,e.symm,L,k.symm⟩
   ·rw[if_neg e] at k
    obtain⟨C,x',D,F,G,I⟩:=Pn hn.2 c y k
    exact⟨C,x',by simp[D],F,G,I⟩
  ·obtain⟨C,x',D,F,G,I⟩:=Pn hn.2 c y k
   exact⟨C,x',by simp[D],F,G,I⟩
theorem HP {g:B5}:∀ {ids:List Nat},(ids.map ρ).Nodup→∀ b x,b ∈ ids→g b=some x→Au (sub g ρ ids) (ρ b)=some (LM ρ x)
 | [],_,b,x,k,_=>by simp at k
 | F::r,hn,b,x,k,C=>by
  rw[List.map_cons,List.nodup_cons] at hn
  rw[sub]
  by_cases e:b=F
  ·subst e
   rw[C]
   simp only
   rw[Ai,if_pos rfl]
  ·have D:b ∈ r:=by simpa[e] using k
   have ne:ρ b≠ρ F:=fun h=>hn.1 (by rw[←h];exact List.mem_map.2 ⟨b,D,rfl⟩)
   split
   ·rw[Ai,if_neg ne];exact HP hn.2 b x D C
   ·exact HP hn.2 b x D C
def A7h (ρ:Nat→Nat) (ids:List Nat) (c:Nat):Option Nat:=ids.find? fun b=>Nat.beq (ρ b) c
theorem A7i (hn:(ids.map ρ).Nodup) {b:Nat} (k:b ∈ ids):A7h ρ ids (ρ b)=some b:=by
 induction ids with
 | nil=>simp at k
 | cons i r C =>
  rw[List.map_cons,List.nodup_cons] at hn
  unfold A7h at C ⊢
  rw[List.find?_cons]
  by_cases e:b=i
  ·subst e;simp
  ·have D:b ∈ r:=by simpa[e] using k
   have ne:ρ i≠ρ b:=fun h=>hn.1 (by rw[h];exact List.mem_map.2 ⟨b,D,rfl⟩)
   rw[gV ne];exact C hn.2 D
def VR (ρ:Nat→Nat) (ids:List Nat) (β:C1):C1:=fun c=>(A7h ρ ids c).bind β
theorem Hp (hn:(ids.map ρ).Nodup) {b:Nat} (k:b ∈ ids):VR ρ ids β (ρ b)=β b:=by
 unfold VR;rw[A7i hn k];rfl
mutual
theorem Rep.ren (hn:(ids.map ρ).Nodup):∀ {x:AV} {v:Value},(∀ b ∈ Hm x,b ∈ ids)→Rep J β h w x v→Rep J (VR ρ ids β) (sub (Au h) ρ ids) w (gU ρ x) v
 | .own b off n,v,hm,hr=>by
  rw[Rep] at hr
  obtain⟨x,A,cap,⟨hx,hmp⟩,h1,h2,h3⟩:=hr
  have hb:=hm b (by simp[Hm])
  rw[gU,Rep]
  refine⟨LM ρ x,A,cap,⟨HP hn b x hb hx,hmp⟩,h1,h2,?_⟩
  rw[N6,Hp hn hb]
  exact h3
 | .optr b off,v,hm,hr=>by
  rw[Rep] at hr
  obtain⟨x,k,o,⟨hx,hmp⟩,h1,h2⟩:=hr
  have hb:=hm b (by simp[Hm])
  rw[gU,Rep]
  refine⟨LM ρ x,k,o,⟨HP hn b x hb hx,hmp⟩,h1,?_⟩
  rw[Hp hn hb]
  exact h2
 | .omap b,v,hm,hr=>by
  rw[Rep] at hr
  obtain⟨x,k,⟨hx,hmp⟩,h1,h2⟩:=hr
  have hb:=hm b (by simp[Hm])
  rw[gU,Rep]
  refine⟨LM ρ x,k,⟨HP hn b x hb hx,hmp⟩,h1,?_⟩
  rw[Hp hn hb]
  exact h2
 | .agg c,v,hm,hr=>by
  rw[Rep] at hr
  obtain⟨cs,h1,h2⟩:=hr
  rw[gU,Rep]
  exact⟨cs,h1,Reps.ren hn (by simpa[Hm] using hm) h2⟩
 | .tup c,v,hm,hr=>by
  rw[Rep] at hr
  obtain⟨cs,h1,h2⟩:=hr
  rw[gU,Rep]
  exact⟨cs,h1,Reps.ren hn (by simpa[Hm] using hm) h2⟩
 | .fn f c,v,hm,hr=>by
  rw[Rep] at hr
  obtain⟨cs,h1,h2⟩:=hr
  rw[gU,Rep]
  exact⟨cs,h1,Reps.ren hn (by simpa[Hm] using hm) h2⟩
 | .pagg c o,v,hm,hr=>by show Rep J _ _ w (.pagg c o) v;rw[Rep] at hr ⊢;exact hr
 | .undef,v,hm,hr=>by show Rep J _ _ w (.undef) v;rw[Rep] at hr ⊢;exact hr
 | .imm c n sz t o,v,hm,hr=>by show Rep J _ _ w (.imm c n sz t o) v;rw[Rep] at hr ⊢;exact hr
 | .iptr c o,v,hm,hr=>by show Rep J _ _ w (.iptr c o) v;rw[Rep] at hr ⊢;exact hr
 | .int k n,v,hm,hr=>by show Rep J _ _ w (.int k n) v;rw[Rep] at hr ⊢;exact hr
 | .bool b,v,hm,hr=>by show Rep J _ _ w (.bool b) v;rw[Rep] at hr ⊢;exact hr
 | .str s,v,hm,hr=>by show Rep J _ _ w (.str s) v;rw[Rep] at hr ⊢;exact hr
 | .nsl,v,hm,hr=>by show Rep J _ _ w (.nsl) v;rw[Rep] at hr ⊢;exact hr
 | .nilptr,v,hm,hr=>by show Rep J _ _ w (.nilptr) v;rw[Rep] at hr ⊢;exact hr
 | .nilfn,v,hm,hr=>by show Rep J _ _ w (.nilfn) v;rw[Rep] at hr ⊢;exact hr
theorem Reps.ren (hn:(ids.map ρ).Nodup):∀ {c:List AV} {cs:List Value},(∀ b ∈ Jb c,b ∈ ids)→Reps J β h w c cs→Reps J (VR ρ ids β) (sub (Au h) ρ ids) w (Z7 ρ c) cs
 | [],cs,hm,hr=>by rw[Reps] at hr;rw[Z7,Reps];exact hr
 | x::r,cs,hm,hr=>by
  rw[Reps] at hr
  obtain⟨u,us,h1,h2,h3⟩:=hr
  rw[Z7,Reps]
  exact⟨u,us,h1,Rep.ren hn (fun b hb=>hm b (by simp[Jb,hb])) h2,Reps.ren hn (fun b hb=>hm b (by simp[Jb,hb])) h3⟩
end
theorem SimH.ren (S:SimH J β h w) (hn:(ids.map ρ).Nodup) (hin:∀ b ∈ Mk (Au h) ids,b ∈ ids):SimH J (VR ρ ids β) (sub (Au h) ρ ids) w:=by
 refine⟨S.jlt,S.jft,fun c y L M hm=>?_,fun c y L M hm=>by
   obtain⟨b,x,D,rfl,G,rfl⟩:=Pn hn c y L
   obtain⟨I,T,k,es,clk,g3,g4,Y,g6⟩:=S.mblk b x G M hm
   have:(LM ρ x).cells=x.cells:=by unfold LM;rw[I];rfl
   exact⟨I,T,k,es,clk,by rw[Hp hn D];exact g3,g4,by rw[this];exact Y,g6⟩,?_⟩
 ·obtain⟨b,x,D,rfl,G,rfl⟩:=Pn hn c y L
  rcases S.blk b x G M hm with⟨I,T⟩ | ⟨k,o,cs,ty,fr,I,T,g3,g4,Y,g6,g7⟩
  ·refine .inl ⟨by rw[Hp hn D];exact I,?_⟩
   have:=N6 ρ x;rw[T] at this;simpa using this
  ·refine .inr ⟨k,o,cs,ty,fr,by rw[Hp hn D];exact I,T,g3,by rw[N6];exact g4,⟨fun hp=>?_,fun hp j q hj=>?_⟩,g6,g7⟩
   ·have C:x.pure=true:=hp
    have:(LM ρ x).cells=x.cells:=by unfold LM;rw[C];rfl
    rw[this];exact Y.1 C
   ·have C:x.pure=false:=hp
    have:(LM ρ x).cells=Z7 ρ x.cells:=by unfold LM;rw[C];rfl
    rw[this] at hj
    obtain⟨q',hq,rfl⟩:=Al5 hj
    obtain⟨u,hu,hr,ho⟩:=Y.2 C j q' hq
    exact⟨u,hu,Rep.ren hn (fun U F=>hin U (rn D G C U (ro hq U F))) hr,ho⟩
 ·intro c c' y y' k o o' L hy' M hd' hs hβ V
  obtain⟨b,x,D,rfl,G,rfl⟩:=Pn hn c y L
  obtain⟨U,x',F,rfl,hx',rfl⟩:=Pn hn c' y' hy'
  rw[Hp hn D] at hβ
  rw[Hp hn F] at V
  rw[S.sep b U x x' k o o' G hx' M hd' hs hβ V]
theorem Apv (hn:(ids.map ρ).Nodup) {k:Nat} (D:Ati (VR ρ ids β) (sub (Au h) ρ ids) k):Ati β h k:=by
 obtain⟨c,y,o,F,G,hs,C⟩:=D
 obtain⟨b,x,I,rfl,L,rfl⟩:=Pn hn c y F
 rw[Hp hn I] at C
 exact⟨b,x,o,L,G,hs,C⟩
end
end Gx

namespace Gx
open Go
theorem Qr {ids:List Nat}:∀ {l:List Nat},VJ ids l=true→∀ b ∈ l,b ∈ ids
 | [],_,b,k=>by simp at k
 | i::r,h,b,k=>by
  rw[VJ] at h
  simp at h
  rcases List.mem_cons.1 k with rfl | k
  ·exact Mm.1 h.1
  ·exact Qr h.2 b k
theorem D_ {d:Nat}:∀ {l:List Nat} {base b:Nat},b ∈ l→base≤Ju d (A6 base l) b∧Ju d (A6 base l) b<base+l.length
 | [],base,b,k=>by simp at k
 | i::r,base,b,k=>by
  rw[A6,Ju]
  cases hi:Nat.beq i b with
  | true=>simp
  | false =>
   have C:=Z8 hi
   have D:b ∈ r:=by
    rcases List.mem_cons.1 k with h | h
    ·exact absurd h.symm C
    ·exact h
   have:=D_ (d:=d) (base:=base+1) D
   simp only[cond_false,List.length_cons]
   omega
theorem At4 {free ids:List Nat} {b:Nat} (h:MW free b=true):DV free ids b=b:=by unfold DV;rw[h];rfl
theorem Apw {free ids:List Nat} {b:Nat} (h:MW free b=false) (k:b ∈ ids):300000≤DV free ids b:=by
 unfold DV A7b;rw[h]
 exact(D_ (List.mem_filter.2 ⟨k,by simp[h]⟩)).1
theorem Aa3 {b:Nat}:Aac b=true↔100000≤b∧b<200000:=by unfold Aac;simp
theorem uh {free ids:List Nat} {b c:Nat} (C:b ∈ ids) (D:100000≤c∧c<200000) (k:DV free ids b=c):b=c:=by
 cases hr:MW free b with
 | true=>rw[At4 hr] at k;exact k
 | false=>have:=Apw hr C;omega
theorem NA {ρ:Nat→Nat} {K:List Nat}:∀ {s:Hl} {i:Nat},Gv (A7c ρ K s) i=if J8 K i=true then gU ρ (Gv s i) else .undef
 | [],i=>by
  show AV.undef=if J8 K i=true then gU ρ .undef else AV.undef
  simp[gU]
 | (t,v)::r,i=>by
  rw[A7c]
  by_cases e:t=i
  ·subst e
   cases k:J8 K t with
   | true=>simp[Gv]
   | false=>simp only[cond_false];rw[NA];simp[k]
  ·have C:Nat.beq t i=false:=gV e
   cases k:J8 K t with
   | true=>simp only[cond_true,Gv,C,cond_false];exact NA
   | false=>simp only[cond_false,Gv,C];exact NA
theorem At5 {g:B5} {l:List Nat} {b:Nat} (h:b ∈ HK g l):∃ x,g b=some x∧x.dead=false:=by
 unfold HK at h
 obtain⟨_,k⟩:=List.mem_filter.1 h
 unfold Kt at k
 cases C:g b with
 | none=>simp[C] at k
 | some x =>
  cases D:x.dead with
  | false=>exact⟨x,rfl,D⟩
  | true=>simp[C,D] at k
section
variable {Z:Start} {nt:Nat} {J:Bool→Nat→Prop} {β:C1} {st st':St} {a:Act} {w:World}
def AV.isz:AV→Nat
 | .imm _ _ s _ _=>s
 | _=>0
theorem Po {live:List Nat}:∀ (nils:List (Nat×Nat)) {st:St} {J:Bool→Nat→Prop} {β:C1},Inv Z nt J β st a w→RU live nils st=some st'→∃ J' β',Inv Z nt J' β' st' a w
 | [],st,J,β,I,k=>by simp[RU] at k;subst k;exact⟨J,β,I⟩
 | (t,sz)::r,st,J,β,I,k=>by
  rw[RU] at k
  cases L:Nat.ble 1000000 sz with
  | true =>
   rw[L,cond_true] at k
   split at k
   ·rename_i hm hs
    refine Po r (J:=J) (β:=β) (st:={ s:=kg st.s t (.imm [] 0 (sz - 1000000) false false),h:=st.h }) ?_ k
    refine { I with ss:=⟨fun i v D=>?_,fun i hi=>?_⟩ }
    ·rw[Pk]
     by_cases e:i=t
     ·subst e
      have:=I.ss.slot i v D
      rw[hs,Rep] at this
      subst this
      rw[if_pos rfl,Rep,RepC]
      exact⟨by simp,none,0,rfl,Nat.le_refl _,fun _=>rfl,.inl rfl⟩
     ·rw[if_neg e];exact I.ss.slot i v D
    ·rw[Pk]
     by_cases e:i=t
     ·subst e
      have:=I.ss.out i hi
      rw[hs] at this;cases this
     ·rw[if_neg e];exact I.ss.out i hi
   ·rename_i b off n hm hs
    obtain⟨⟨v',ups,org⟩,M,h1⟩:=ub k
    by_cases S:∃ v,a.tmps[t]?=some v
    ·obtain⟨v0,T⟩:=S
     have hr:=I.ss.slot t v0 T
     rw[hs] at hr
     obtain⟨J1,A,F,_⟩:=aK I.sim (fun b x hb=>⟨x,hb,rfl⟩) M hr
     have I1:=I.step A (fun c x G hn=>by
      exfalso
      unfold iB at M
      obtain⟨y,V,C⟩:=ub M
      obtain⟨_,C⟩:=uc C
      simp at C
      obtain⟨_,C,_⟩:=C
      subst C
      simp only[As,Ai] at G
      unfold Kt at V
      obtain⟨y0,U,_⟩:=ub V
      by_cases e:c=b
      ·subst e;rw[hn] at U;cases U
      ·rw[if_neg e,hn] at G;cases G)
     refine Po r (J:=J1) (β:=β) (st:={ s:=kg st.s t v',h:=As ups st.h }) ?_ h1
     have Y:∃ c,v'=.imm c n (v'.isz) false org:=by
      unfold iB at M
      obtain⟨y,V,C⟩:=ub M
      obtain⟨_,C⟩:=uc C
      simp at C
      obtain⟨C,_,h3⟩:=C
      subst C h3
      exact⟨_,rfl⟩
     refine { I1 with ss:=⟨fun i v D=>?_,fun i hi=>?_⟩ }
     ·rw[Pk]
      by_cases e:i=t
      ·subst e
       rw[if_pos rfl]
       rw[T] at D;simp at D;subst D
       obtain⟨c,hc⟩:=Y
       rw[hc] at F ⊢
       rw[Rep];exact F
      ·rw[if_neg e];exact I1.ss.slot i v D
     ·rw[Pk]
      by_cases e:i=t
      ·subst e
       have:=I.ss.out i hi
       rw[hs] at this;cases this
      ·rw[if_neg e];exact I1.ss.out i hi
    ·exfalso
     have:=I.ss.out t (by
      cases h:a.tmps[t]? with
      | none=>simp at h;omega
      | some v=>exact absurd ⟨v,h⟩ S)
     rw[hs] at this;cases this
   ·exact Po r I k
  | false =>
   rw[L,cond_false] at k
   split at k
   ·rename_i hm hs
    cases hf:Au st.h (nid t+15) with
    | some x=>simp[hf] at k
    | none =>
     simp[hf] at k
     have A:=Step.newNone I.sim (d:=nid t+15) (x:=Gw sz) hf rfl
     have I1:=I.step A (fun b x G hn=>by
      rw[Ai] at G
      by_cases e:b=nid t+15
      ·subst e;unfold nid H3;omega
      ·rw[if_neg e,hn] at G;cases G)
     refine Po r (J:=J) (β:=fun b=>if b=nid t+15 then none else β b) (st:={ s:=kg st.s t (.own (nid t+15) 0 0),h:=G2 st.h (nid t+15) (Gw sz) }) ?_ k
     refine { I1 with ss:=⟨fun i v D=>?_,fun i hi=>?_⟩ }
     ·rw[Pk]
      by_cases e:i=t
      ·subst e
       rw[if_pos rfl,Rep]
       have:=I.ss.slot i v D
       rw[hs,Rep] at this
       subst this
       exact⟨Gw sz,none,0,⟨by rw[Ai,if_pos rfl],rfl⟩,rfl,Nat.le_refl _,.inl rfl⟩
      ·rw[if_neg e];exact I1.ss.slot i v D
     ·rw[Pk]
      by_cases e:i=t
      ·subst e
       have:=I.ss.out i hi
       rw[hs] at this;cases this
      ·rw[if_neg e];exact I1.ss.out i hi
   ·exact Po r I k
theorem aS {E:Env} {live roots:List Nat} (I:Inv Z nt J β st a w) (G:mu E live roots st=some st'):∃ J' β',Inv Z nt J' β' st' a w:=by
 unfold mu at G
 obtain⟨s1,T,U⟩:=ub G
 obtain⟨J1,β1,I1⟩:=Po _ I T
 obtain⟨L,M⟩:=uc U
 simp at L M
 subst M
 obtain⟨hn,hs,hi,_⟩:=L
 have hn:=Wc hn
 have D:∀ b ∈ Mk (Au s1.h) (HK (Au s1.h) (DS (Au s1.h) (Aaa live s1.s++roots))),b ∈ HK (Au s1.h) (DS (Au s1.h) (Aaa live s1.s++roots)):=Qr hi
 refine⟨J1,VR _ _ β1,{ I1 with sim:=I1.sim.ren hn D,ss:=⟨fun i v V=>?_,fun i hi=>?_⟩,wr:=fun k Y=>I1.wr k (Apv hn Y),outs:=fun b x0 x F hx hd=>?_ }⟩
 ·rw[NA]
  cases hk:J8 live i with
  | false=>simp[Rep]
  | true =>
   simp only[if_true]
   exact Rep.ren hn (fun b hb=>Qr hs b (Aas hk b hb)) (I1.ss.slot i v V)
 ·rw[NA,I1.ss.out i hi];simp[gU]
 ·obtain⟨b',x',C,S,hg,rfl⟩:=Pn hn b x hx
  have:=uh C ⟨I1.zge b x0 F,I1.zlt b x0 F⟩ S
  subst this
  obtain⟨⟨e1,em⟩,e2,e3,e4⟩:=I1.outs b' x0 x' F hg hd
  refine⟨⟨?_,em⟩,e2,by rw[N6];exact e3,e4⟩
  have:=Hp (β:=β1) hn C
  rw[S] at this
  rw[this];exact e1
end
end Gx

namespace Gx
open Go
section
variable {R:Type} {r:R} {Z:Start} {E:Env}
theorem At6 (hC:kw E) (hm:E.P.follows .mixedOrders=true) {roots:List Nat} {N:Nat}:∀ (c:Code) {H:Hint} {kn:St→O R} {kx:Nat→St→O R} {kr:St→O R} {st:St} {a:Act} {w:World} {J:Bool→Nat→Prop} {β:C1} {Q:Exit→Act→World→Prop},
  Inv Z E.nt J β st a w→Gy E roots N c H kn kx kr st=some r →
  (∀ st' D w' J' β',Inv Z E.nt J' β' st' D w'→kn st'=some r→Q .normal D w') →
  (∀ id st' D w' J' β',Inv Z E.nt J' β' st' D w'→kx id st'=some r→Q (.exit id) D w') →
  (∀ st' D w' J' β',Inv Z E.nt J' β' st' D w'→kr st'=some r→Q .ret D w')→c.wp E.P Q a w:=by
 intro c
 induction c with
 | skip=>intro H kn kx kr st a w J β Q I C hn F hr;exact wp_skip (hn _ _ _ _ _ I C)
 | region id ops draw=>intro H kn kx kr st a w J β Q I C hn F hr;exact Aiw hC hm I C hn
 | seq x y L G =>
  intro H kn kx kr st a w J β Q I C hn F hr
  rw[Gy] at C
  refine wp_seq (L I C (fun st' D w' J' β' I' h'=>?_) (fun id st' D w' J' β' I' h'=>F id st' D w' J' β' I' h') (fun st' D w' J' β' I' h'=>hr st' D w' J' β' I' h'))
  unfold A3z at h'
  cases M:H.isJoin with
  | true =>
   rw[M,cond_true,HL] at h'
   obtain⟨s2,S,T⟩:=ub h'
   obtain⟨J2,β2,I2⟩:=aS I' S
   exact G I2 T hn F hr
  | false=>rw[M] at h';exact G I' h' hn F hr
 | cond c x y L G =>
  intro H kn kx kr st a w J β Q I C hn F hr
  rw[Gy] at C
  split at C
  ·rename_i t ht
   have Y:=Bn I.ss c
   rw[ht,Rep] at Y
   refine wp_cond Y ?_
   cases t with
   | true=>exact L I C hn F hr
   | false=>exact G I C hn F hr
  ·simp at C
 | block id c U =>
  intro H kn kx kr st a w J β Q I C hn F hr
  rw[Gy] at C
  refine wp_block (U I C (fun st' D w' J' β' I' h'=>hn _ _ _ _ _ I' h') (fun j st' D w' J' β' I' h'=>?_) (fun st' D w' J' β' I' h'=>hr _ _ _ _ _ I' h'))
  cases M:Nat.beq j id with
  | true =>
   rw[M] at h'
   have:=Nat.eq_of_beq_eq_true M
   subst this
   simp only[Exit.inBlock,if_true]
   exact hn _ _ _ _ _ I' h'
  | false =>
   rw[M] at h'
   simp only[Exit.inBlock]
   rw[if_neg (Z8 M)]
   exact F _ _ _ _ _ _ I' h'
 | loop c U =>
  intro H kn kx kr st a w J β Q I C hn F hr
  rw[Gy,HL] at C
  refine wp_loop_rounds N ?_
  have key:∀ (n:Nat) {st:St} {a:Act} {w:World} {J:Bool→Nat→Prop} {β:C1},Inv Z E.nt J β st a w→aH (mu E H.live roots) (fun k st=>Gy E roots N c H.a k kx kr st) n st=some r→Code.rounds E.P c Q n a w:=by
   intro n
   induction n with
   | zero=>intro st a w J β I h';simp[aH] at h'
   | succ n V =>
    intro st a w J β I h'
    rw[aH] at h'
    rw[rounds_succ]
    refine U I h' (fun st' D w' J' β' I' h''=>?_) (fun id st' D w' J' β' I' h''=>F _ _ _ _ _ _ I' h'') (fun st' D w' J' β' I' h''=>hr _ _ _ _ _ I' h'')
    obtain⟨s2,S,T⟩:=ub h''
    obtain⟨J2,β2,I2⟩:=aS I' S
    exact V I2 T
  obtain⟨s2,S,T⟩:=ub C
  obtain⟨J2,β2,I2⟩:=aS I S
  exact key N I2 T
 | exit id=>intro H kn kx kr st a w J β Q I C hn F hr;exact wp_exit (F _ _ _ _ _ _ I C)
 | ret=>intro H kn kx kr st a w J β Q I C hn F hr;exact wp_ret (hr _ _ _ _ _ I C)
 | rangeFunc=>intro H kn kx kr st a w J β Q I C;simp[Gy] at C
 | scope=>intro H kn kx kr st a w J β Q I C;simp[Gy] at C
 | label=>intro H kn kx kr st a w J β Q I C;simp[Gy] at C
 | goto=>intro H kn kx kr st a w J β Q I C;simp[Gy] at C
 | refuse=>intro H kn kx kr st a w J β Q I C;simp[Gy] at C
end
end Gx

namespace Gx
open Go
structure FDone (Z:Start) (J:Bool→Nat→Prop) (β:C1) (h:Am) (w:World):Prop where
 sim:SimH J β h w
 os:w.os=Z.w.os
 tape:w.tape=Z.w.tape
 output:w.output=Z.w.output
 size:Z.w.heap.size≤w.heap.size
 frame:∀ k,k<Z.w.heap.size→¬ Ati Z.β Z.h k→w.heap[k]?=Z.w.heap[k]?
 wr:∀ k,Ati β h k→k<Z.w.heap.size→Ati Z.β Z.h k
 jsub:∀ o k,Z.J o k→J o k
 jup:∀ o k,J o k→Z.J o k∨Ati Z.β Z.h k∨Z.w.heap.size≤k
 sizes:∀ k,Bs Z.w k≤Bs w k
 outs:∀ b x0 x,Au Z.h b=some x0→Au h b=some x→x.dead=false→(β b=Z.β b∧x.mp=x0.mp)∧x.sz=x0.sz∧(x0.mp=false→x.cells.length=x0.cells.length)∧x0.dead=false
 live:∀ b x,Au h b=some x→x.dead=false
def Bei (P:Program) (f:Nat) (args:LA) (h:Am) (res:AV) (h':Am):Prop :=
 ∀ (J:Bool→Nat→Prop) (β:C1) (w:World) (vs:List Value),SimH J β h w→Reps J β h w args vs →
  Calls P f vs.toArray w fun e w'=>∃ vc J' β',e=.returned vc∧FDone ⟨J,β,h,w⟩ J' β' h' w'∧Rep J' β' h' w' res vc
def A9w (P:Program) (f:Nat) (t:Tw):Prop:=∀ args h res h',(t.runK args h fun v h'=>some (v,h'))=some (res,h')→Bei P f args h res h'
def Aa4 (P:Program):List (Nat×Tw)→Prop
 | []=>True
 | p::r=>A9w P p.1 p.2∧Aa4 P r
theorem At7 {P:Program} {R:Type} {r:R}:∀ {T:List (Nat×Tw)},Aa4 P T→∀ {f:Nat} {C:LA} {h:Am} {k:AV→Am→O R},mo T f C h k=some r →
  ∃ D h',Bei P f C h D h'∧k D h'=some r
 | [],_,f,C,h,k,F=>by simp[mo] at F
 | (g,t)::T,hT,f,C,h,k,F=>by
  rw[mo] at F
  cases G:Nat.beq g f with
  | false=>rw[G] at F;exact At7 hT.2 F
  | true =>
   rw[G] at F
   have:=Nat.eq_of_beq_eq_true G
   subst this
   simp only[cond_true] at F
   rw[t.eq] at F
   obtain⟨⟨D,h'⟩,I,L⟩:=ub F
   exact⟨D,h',hT.1 C h D h' I,L⟩
section
variable {R:Type} {r:R} {Z:Start} {nt:Nat} {J:Bool→Nat→Prop} {β:C1} {st:St} {a:Act} {w:World}
def nH (tmps:Array Value):ResultVar→Sem Value
 | .tmp t=>pure (tmps.getD t undef)
 | .cell a t=>do loadVar t (←Go.asAddr (tmps.getD a undef))
theorem A7j {α β:Type} (f:α→Sem β) (xs:Array α):xs.mapM f=(List.toArray <$> xs.toList.mapM f):=by
 rw[←List.mapM_toArray]
theorem Ayp (fn:Func) (tmps:Array Value):results fn tmps=(do let vs ←fn.results.mapM (nH tmps);pure (if h:vs.size=1 then vs[0] else .tuple vs)):=by
 unfold results
 congr 1
def At8 (l:List Value):Value:=match l with | [v]=>v | l=>.tuple l.toArray
theorem At9 {P:Program} (fn:Func) (tmps:Array Value) {vs:List Value} (h:(fn.results.toList.mapM (nH tmps)).run P w=.ok vs w):(results fn tmps).run P w=.ok (At8 vs) w:=by
 rw[Ayp,A7j]
 simp only[map_eq_pure_bind,Sem.run_bind,h,Result.andThen_ok,Sem.run_pure]
 congr 1
 match vs with
 | []=>rfl
 | [v]=>rfl
 | v::u::r=>simp[At8]
theorem Aua {P:Program} {t:TypeId} {v vc:Value} (h:(Instr.loadAt t v).run P w=.ok vc w):(do loadVar t (←Go.asAddr v):Sem Value).run P w=.ok vc w:=by
 unfold Instr.loadAt at h
 cases v with
 | pointer a =>
  cases a with
  | some a=>exact h
  | none=>simp[Instr.sureAddr] at h
 | _=>simp[Instr.sureAddr] at h
theorem LV {E:Env} (S:SimH J β st.h w) (SS:SimS J β st.h w st.s a.tmps):∀ (l:List ResultVar) {C:LA} {k:LA→O R},Pi E st l C k=some r →
  ∃ vals vs,k (C.reverse++vals)=some r∧(l.mapM (nH a.tmps)).run E.P w=.ok vs w∧Reps J β st.h w vals vs
 | [],C,k,D=>⟨[],[],by simpa[Pi] using D,by simp,by rw[Reps]⟩
 | .tmp t::l,C,k,D=>by
  rw[Pi] at D
  obtain⟨vals,vs,F,G,I⟩:=LV S SS l D
  refine⟨Gv st.s t::vals,a.tmps.getD t undef::vs,by simpa using F,?_,by rw[Reps];exact⟨_,_,rfl,Bn SS (.tmp t),I⟩⟩
  simp only[List.mapM_cons,nH,Sem.run_bind,Sem.run_pure,Result.andThen_ok,G]
 | .cell ad t::l,C,k,D=>by
  rw[Pi] at D
  obtain⟨v,vc,L,F,G⟩:=uQ S (fun _ _ h=>h) D (Bn SS (.tmp ad))
  obtain⟨vals,vs,I,M,T⟩:=LV S SS l L
  refine⟨v::vals,vc::vs,by simpa using I,?_,by rw[Reps];exact⟨_,_,rfl,G,T⟩⟩
  have:(nH a.tmps (.cell ad t)).run E.P w=.ok vc w:=Aua F
  simp only[List.mapM_cons,Sem.run_bind,this,Sem.run_pure,Result.andThen_ok,M]
theorem Ayq {i:Nat} {m:Nat×Nat} {v v':AV} {ups:H8} {vc:Value} {h:Am} (S:SimH J β h w) (k:Bb2 (Au h) i m v=some (v',ups)) (C:Rep J β h w v vc) :
  ∃ J' β',Step J β h w J' β' (As ups h) w∧Rep J' β' (As ups h) w v' vc∧(∀ b x,Au (As ups h) b=some x→Au h b=none→H3≤b):=by
 have old:∀ {ups:H8},(∀ b,Bf ups b=true→∃ x,Au h b=some x)→∀ b x,Au (As ups h) b=some x→Au h b=none→H3≤b:=by
  intro ups V b x D hn
  cases hi:Bf ups b with
  | true=>obtain⟨y,Y⟩:=V b hi;rw[Y] at hn;cases hn
  | false=>rw[Da _ _ _ hi,hn] at D;cases D
 unfold Bb2 at k
 cases M:Nat.beq m.1 0 with
 | true =>
  rw[M] at k;simp at k
  obtain⟨rfl,rfl⟩:=k
  exact⟨J,β,Step.refl S,C,old (by simp[Bf])⟩
 | false =>
  rw[M,cond_false] at k
  cases T:Nat.beq m.1 1 with
  | true =>
   rw[T,cond_true] at k
   split at k
   ·simp at k;obtain⟨rfl,rfl⟩:=k
    rw[Rep] at C;subst C
    refine⟨J,β,Step.refl S,?_,old (by simp[Bf])⟩
    rw[Rep,RepC]
    exact⟨by simp,none,0,rfl,Nat.le_refl _,by simp,.inl rfl⟩
   ·simp at k;obtain⟨rfl,rfl⟩:=k
    refine⟨J,β,Step.refl S,?_,old (by simp[Bf])⟩
    rw[Rep,RepC] at C ⊢
    obtain⟨e1,A,cap,e2,e3,e4,e5⟩:=C
    exact⟨e1,A,cap,e2,e3,by simp,e5⟩
   ·obtain⟨⟨q1,q2,q3⟩,hq,G⟩:=ub k
    simp at G;obtain⟨rfl,rfl⟩:=G
    obtain⟨J',A,hA,_⟩:=aK S (Looks.s fun _ _ h=>h) hq C
    refine⟨J',β,A,?_,old (Alz hq)⟩
    unfold iB at hq
    obtain⟨x,D,F⟩:=ub hq
    obtain⟨_,U⟩:=uc F
    simp at U
    obtain⟨rfl,rfl,rfl⟩:=U
    rw[Rep];exact hA
   ·simp at k
  | false =>
   rw[T,cond_false] at k
   cases G:Nat.beq m.1 2 with
   | true =>
    rw[G,cond_true] at k
    split at k
    ·obtain⟨hn,F⟩:=A2f k
     simp at F;obtain⟨rfl,rfl⟩:=F
     have L:Au h (nid 90000+i)=none:=by cases D:Au h (nid 90000+i)<;>simp_all
     have A:=Step.newNone S (x:=Gw m.2) L rfl
     refine⟨J,fun b=>if b=nid 90000+i then none else β b,A,?_,fun b x D hb=>?_⟩
     ·rw[Rep] at C;subst C;rw[Rep]
      exact⟨Gw m.2,none,0,⟨by simp only[As];rw[Ai,if_pos rfl],rfl⟩,rfl,Nat.le_refl _,.inl rfl⟩
     ·simp only[As] at D
      rw[Ai] at D
      by_cases e:b=nid 90000+i
      ·subst e;unfold nid H3;omega
      ·rw[if_neg e,hb] at D;cases D
    ·simp at k;obtain⟨rfl,rfl⟩:=k
     exact⟨J,β,Step.refl S,C,old (by simp[Bf])⟩
   | false =>
    rw[G,cond_false] at k
    split at k
    ·rename_i c
     obtain⟨⟨q1,q2,q3⟩,hq,F⟩:=ub k
     simp at F;obtain⟨rfl,rfl⟩:=F
     rw[Rep] at C
     obtain⟨cs,rfl,hc⟩:=C
     obtain⟨J',A,hA,I,_⟩:=T3 S (Looks.s fun _ _ h=>h) hq hc
     refine⟨J',β,A,?_,old (DW hq)⟩
     rw[Rep]
     exact⟨cs,rfl,I.symm,hA⟩
    ·simp at k;obtain⟨rfl,rfl⟩:=k
     exact⟨J,β,Step.refl S,C,old (by simp[Bf])⟩
    ·simp at k
theorem ui {s:Hl}:∀ (vals:LA) {i:Nat} {ms:List (Nat×Nat)} {h h':Am} {vals':LA} {vs:List Value} {J:Bool→Nat→Prop} {β:C1},
  Inv Z nt J β { s:=s,h:=h } a w→Atg h i ms vals=some (vals',h')→Reps J β h w vals vs →
  ∃ J' β',Inv Z nt J' β' { s:=s,h:=h' } a w∧Reps J' β' h' w vals' vs∧∀ x v,Rep J β h w x v→Rep J' β' h' w x v
 | [],i,ms,h,h',vals',vs,J,β,I,k,D=>by
  simp[Atg] at k;obtain⟨rfl,rfl⟩:=k
  exact⟨J,β,I,D,fun _ _ h=>h⟩
 | v::r,i,ms,h,h',vals',vs,J,β,I,k,D=>by
  rw[Atg] at k
  obtain⟨⟨v1,u1⟩,S,T⟩:=ub k
  obtain⟨⟨V,hr⟩,U,L⟩:=ub T
  simp at L;obtain⟨rfl,rfl⟩:=L
  rw[Reps] at D
  obtain⟨u,us,rfl,F,G⟩:=D
  obtain⟨J1,β1,A,hA,C⟩:=Ayq I.sim S F
  have I1:=I.step A C
  obtain⟨J2,β2,I2,hB,M⟩:=ui r I1 U (Reps.ext A.ext G)
  refine⟨J2,β2,I2,?_,fun x v h=>M x v (Rep.ext A.ext h)⟩
  rw[Reps]
  exact⟨u,us,rfl,M _ _ hA,hB⟩
theorem Aix {E:Env} {fn:Func} {modes:List (Nat×Nat)} {outs:List Nat} {k:AV→Am→O R} (I:Inv Z nt J β st a w) (V:BS E fn modes outs k st=some r) :
  ∃ F h' vc J' β',k F h'=some r∧(results fn a.tmps).run E.P w=.ok vc w∧FDone Z J' β' h' w∧Rep J' β' h' w F vc:=by
 unfold BS at V
 obtain⟨vals,vs,Y,h2,h3⟩:=LV I.sim I.ss _ V
 simp only[List.reverse_nil,List.nil_append] at Y
 obtain⟨⟨vals',h'⟩,h4,h5⟩:=ub Y
 obtain⟨J1,β1,I1,hR,_⟩:=ui (s:=st.s) vals I h4 h3
 obtain⟨hc,h6⟩:=uc h5
 simp at hc
 obtain⟨hn,hs,hi,_⟩:=hc
 have hn:=Wc hn
 have G:=Qr hi
 have hs:=Qr hs
 refine⟨_,_,At8 vs,J1,VR _ _ β1,h6,At9 fn a.tmps h2,?_,Rep.ren hn hs ?_⟩
 ·exact⟨I1.sim.ren hn G,I1.os,I1.tape,I1.output,I1.size,I1.frame,fun k hm=>I1.wr k (Apv hn hm),I1.jsub,I1.jup,I1.sizes,fun b x0 x L M hd=>by
   obtain⟨b',x',D,S,T,rfl⟩:=Pn hn b x M
   have:=uh D ⟨I1.zge b x0 L,I1.zlt b x0 L⟩ S
   subst this
   obtain⟨⟨e1,em⟩,e2,e3,e4⟩:=I1.outs b' x0 x' L T hd
   refine⟨⟨?_,em⟩,e2,by rw[N6];exact e3,e4⟩
   have:=Hp (β:=β1) hn D
   rw[S] at this
   rw[this];exact e1,fun b x M=>by
   obtain⟨b',x',D,S,T,rfl⟩:=Pn hn b x M
   obtain⟨x2,U,h8⟩:=At5 D
   rw[T] at U;simp at U;subst U;exact h8⟩
 ·match vals',vs,hR with
  | [],vs,hR=>rw[Reps] at hR;subst hR;simp only[At8,Bb3];rw[Rep];exact⟨[],rfl,by rw[Reps]⟩
  | [v],vs,hR =>
   rw[Reps] at hR
   obtain⟨u,us,rfl,hu,C⟩:=hR
   rw[Reps] at C;subst C
   exact hu
  | v::v2::l,vs,hR =>
   have hR':=hR
   rw[Reps] at hR
   obtain⟨u,us,rfl,hu,C⟩:=hR
   rw[Reps] at C
   obtain⟨u2,us2,rfl,_,_⟩:=C
   simp only[At8,Bb3]
   rw[Rep]
   exact⟨_,rfl,hR'⟩
end
end Gx

namespace Gx
open Go
section
variable {J J':Bool→Nat→Prop} {β:C1} {h:Am} {w:World}
mutual
theorem Rep.noOrg:∀ {x:AV} {v:Value},LN x=false→Rep J β h w x v→Rep (fun _=>J false) β h w x v
 | .own ..,v,_,hr=>by rw[Rep] at hr ⊢;exact hr
 | .optr ..,v,_,hr=>by rw[Rep] at hr ⊢;exact hr
 | .omap ..,v,_,hr=>by rw[Rep] at hr ⊢;exact hr
 | .pagg c o,v,ho,hr=>by
  rw[LN] at ho;subst ho
  rw[Rep] at hr ⊢;exact hr
 | .agg c,v,ho,hr=>by
  rw[LN] at ho
  rw[Rep] at hr ⊢
  obtain⟨cs,h1,h2⟩:=hr
  exact⟨cs,h1,Reps.noOrg ho h2⟩
 | .tup c,v,ho,hr=>by
  rw[LN] at ho
  rw[Rep] at hr ⊢
  obtain⟨cs,h1,h2⟩:=hr
  exact⟨cs,h1,Reps.noOrg ho h2⟩
 | .fn f c,v,ho,hr=>by
  rw[LN] at ho
  rw[Rep] at hr ⊢
  obtain⟨cs,h1,h2⟩:=hr
  exact⟨cs,h1,Reps.noOrg ho h2⟩
 | .undef,_,_,_=>by rw[Rep];trivial
 | .imm c n sz t o,v,ho,hr=>by
  rw[LN] at ho;subst ho
  rw[Rep] at hr ⊢;exact hr
 | .iptr c o,v,ho,hr=>by
  rw[LN] at ho;subst ho
  rw[Rep] at hr ⊢;exact hr
 | .int ..,v,_,hr=>by rw[Rep] at hr ⊢;exact hr
 | .bool _,v,_,hr=>by rw[Rep] at hr ⊢;exact hr
 | .str _,v,_,hr=>by rw[Rep] at hr ⊢;exact hr
 | .nsl,v,_,hr=>by rw[Rep] at hr ⊢;exact hr
 | .nilptr,v,_,hr=>by rw[Rep] at hr ⊢;exact hr
 | .nilfn,v,_,hr=>by rw[Rep] at hr ⊢;exact hr
theorem Reps.noOrg:∀ {c:List AV} {cs:List Value},W8 c=false→Reps J β h w c cs→Reps (fun _=>J false) β h w c cs
 | [],_,_,hr=>by rw[Reps] at hr ⊢;exact hr
 | x::r,cs,ho,hr=>by
  rw[W8] at ho
  simp at ho
  rw[Reps] at hr ⊢
  obtain⟨u,us,h1,h2,h3⟩:=hr
  exact⟨u,us,h1,Rep.noOrg ho.1 h2,Reps.noOrg ho.2 h3⟩
end
theorem Aa5:∀ {c:LA} {j:Nat} {x:AV},W8 c=false→c[j]?=some x→LN x=false
 | [],j,x,_,k=>by simp at k
 | y::r,j,x,C,k=>by
  rw[W8] at C
  simp at C
  cases j with
  | zero=>simp at k;subst k;exact C.1
  | succ j=>exact Aa5 C.2 (by simpa using k)
theorem Aa6:∀ {h:Am} {b:Nat} {x:Blk},mq h=false→Au h b=some x→x.taint=false∧(x.pure=false→W8 x.cells=false)
 | [],b,x,_,k=>by simp[Au] at k
 | (i,y)::r,b,x,C,k=>by
  rw[mq] at C
  simp at C
  rw[Au] at k
  cases hi:Nat.beq i b with
  | true =>
   rw[hi] at k;simp at k;subst k
   refine⟨C.1.1,fun D=>?_⟩
   have:=C.1.2
   rw[D] at this;simpa using this
  | false=>rw[hi] at k;exact Aa6 C.2 (by simpa using k)
theorem SimH.noOrg (S:SimH J β h w) (ho:mq h=false):SimH (fun _=>J false) β h w:=by
 refine⟨fun _ k C=>S.jlt _ k C,fun k C=>C,fun b x D G I=>?_,fun b x D G I=>by
   obtain⟨L,M,k,es,clk,T,g4,g5,g6⟩:=S.mblk b x D G I
   exact⟨L,M,k,es,clk,T,g4,g5,fun _ hg=>g6 false hg⟩,S.sep⟩
 obtain⟨V,hc⟩:=Aa6 ho D
 rcases S.blk b x D G I with U | ⟨k,o,cs,ty,fr,U,h2,h3,h4,Y,h6,h7⟩
 ·exact .inl U
 ·refine .inr ⟨k,o,cs,ty,fr,U,h2,h3,h4,⟨fun F=>?_,fun F j c C=>?_⟩,fun hs _=>h6 hs _,fun hs=>?_⟩
  ·have:=Y.1 F;rw[V] at this;exact this
  ·obtain⟨u,L,M,T⟩:=Y.2 F j c C
   exact⟨u,L,Rep.noOrg (Aa5 (hc F) C) M,T⟩
  ·have:=h7 hs;rw[V] at this;exact this
theorem Ext.grow (hJ:∀ o k,J o k→J' o k):Ext J β h w J' β h w:=⟨hJ,fun _ _ _=>rfl,fun b x C=>⟨x,⟨C,rfl⟩,by cases D:x.dead<;>simp⟩,fun _ _ _ _=>Nat.le_refl _⟩
theorem SimH.grow (S:SimH J β h w) (hJ:∀ o k,J o k→J' o k) (I:∀ o k,J' o k→k<w.heap.size) (L:∀ k,J' false k→J' true k)
  (C:∀ b x k o,Au h b=some x→x.dead=false→x.sealed=false→β b=some (k,o)→∀ g,¬ J' g k):SimH J' β h w:=by
 refine⟨I,L,fun b x D F M=>?_,fun b x D F M=>by
   obtain⟨V,T,k,es,clk,U,Y,g5,g6⟩:=S.mblk b x D F M
   exact⟨V,T,k,es,clk,U,Y,g5,C b x k 0 D F T U⟩,S.sep⟩
 rcases S.blk b x D F M with G | ⟨k,o,cs,ty,fr,G,h2,h3,h4,h5,h6,h7⟩
 ·exact .inl G
 ·exact .inr ⟨k,o,cs,ty,fr,G,h2,h3,h4,h5.ext (Ext.grow hJ),fun hs=>C b x k o D F hs G,fun hs=>hJ _ _ (h7 hs)⟩
def Bdi (β:C1) (h:Am) (fz:List Nat) (k:Nat):Prop:=∃ b x o,b ∈ fz∧Au h b=some x∧x.dead=false∧x.sealed=false∧β b=some (k,o)
def JS (J:Bool→Nat→Prop) (β:C1) (h:Am) (fz:List Nat):Bool→Nat→Prop:=fun o k=>J o k∨(o=true∧Bdi β h fz k)
theorem Aa7 {g:B5} {b off n:Nat} {x:Blk} {vc:Value} {fz:List Nat} (S:SimH J β h w) (Y:Looks g h) (C:Kt g b=some x) (hp:x.pure=true) (hf:x.sealed=false→b ∈ fz) (U:Rep J β h w (.own b off n) vc) :
  Rep (JS J β h fz) β h w (.imm ((x.cells.drop off).take (n*x.sz)) n x.sz false (!x.sealed||x.taint)) vc:=by
 unfold Kt at C
 obtain⟨x0,L,C⟩:=ub C
 obtain⟨M,C⟩:=A2f C
 simp at C;subst C
 have I:=Y b _ L
 rw[Rep]
 have key:=(A2g (J':=fun o k=>o≠x0.taint∨JS J β h fz (!x0.sealed||x0.taint) k) S I M hp U (fun k o T=>.inr ?_) (fun o k F=>?_) false (!x0.sealed||x0.taint)).2 (by simp)
 ·exact RepC.keep (fun k G=>by rcases G with G | G;exact absurd rfl G;exact G) (fun _ _=>rfl) key
 ·cases hs:x0.sealed with
  | false =>
   simp only[Bool.not_false,Bool.true_or]
   exact .inr ⟨rfl,b,x0,o,hf hs,I,M,hs,T⟩
  | true =>
   simp only[Bool.not_true,Bool.false_or]
   rcases S.blk b x0 I M (A7e I U) with⟨D,_⟩ | ⟨k',o',cs,ty,fr,D,h2,h3,h4,h5,h6,h7⟩
   ·rw[T] at D;cases D
   ·rw[T] at D;simp at D;obtain⟨rfl,rfl⟩:=D
    exact .inl (h7 hs)
 ·by_cases e:o=x0.taint
  ·subst e
   right
   cases hs:x0.sealed with
   | false =>
    simp only[Bool.not_false,Bool.true_or]
    left
    cases V:x0.taint with
    | false=>rw[V] at F;exact S.jft k F
    | true=>rw[V] at F;exact F
   | true=>simp only[Bool.not_true,Bool.false_or];exact .inl F
  ·exact .inl e
theorem JS.mono (S:SimH J β h w) {fz:List Nat} {a b:Bool} (k:Nat) (C:JS J β h fz a k):JS J β h fz (a||b) k:=by
 cases a
 ·cases b
  ·exact C
  ·rcases C with C | ⟨D,_⟩
   ·exact .inl (S.jft k C)
   ·cases D
 ·exact C
theorem Aiy {g:B5} {v v':AV} {o:Bool} {vc:Value} {fz:List Nat} (S:SimH J β h w) (T:Looks g h) (C:RR g v=some (v',o)) (U:∀ b off n x,v=.own b off n→g b=some x→x.sealed=false→b ∈ fz) (F:Rep J β h w v vc) :
  RepC (JS J β h fz o) w v' vc:=by
 cases v
 case own b off n =>
  rw[RR] at C
  obtain⟨x,D,V⟩:=ub C
  obtain⟨Y,M⟩:=uc V
  simp at M
  obtain⟨rfl,rfl⟩:=M
  have:=Aa7 S T D Y (fun hs=>by
   unfold Kt at D
   obtain⟨x0,G,D⟩:=ub D
   obtain⟨hd,D⟩:=A2f D
   simp at D;subst D
   exact U b off n x0 rfl G hs) F
  rw[Rep] at this;exact this
 case imm c n sz t org =>
  simp[RR] at C;obtain⟨rfl,rfl⟩:=C
  rw[Rep,RepC] at F
  rw[RepC]
  obtain⟨e1,A,cap,e2,e3,e4,I⟩:=F
  refine⟨e1,A,cap,e2,e3,by simp,?_⟩
  rcases I with I | ⟨a,e6,e7,e8⟩
  ·exact .inl I
  ·exact .inr ⟨a,e6,.inl e7,RepCs.keep (fun k L=>.inl L) (fun _ _=>rfl) (fun _=>rfl) e8⟩
 case iptr c org =>
  simp[RR] at C;obtain⟨rfl,rfl⟩:=C
  rw[Rep] at F
  exact RepC.keep (fun k L=>.inl L) (fun _ _=>rfl) F
 all_goals first
  | (simp[RR] at C;done)
  | (simp[RR] at C;obtain⟨rfl,rfl⟩:=C;rw[Rep] at F;rw[RepC];exact F)
theorem aT {g:B5} {fz:List Nat} (S:SimH J β h w) (T:Looks g h):∀ {c c':LA} {o:Bool} {cs:List Value},aD g c=some (c',o)→(∀ b ∈ Ld g c,b ∈ fz)→Reps J β h w c cs →
  cs.length=c'.length∧∀ (j:Nat) (x:AV),c'[j]?=some x→∃ u,cs[j]?=some u∧RepC (JS J β h fz o) w x u
 | [],c',o,cs,C,G,D=>by
  simp[aD] at C;obtain⟨rfl,rfl⟩:=C
  rw[Reps] at D;subst D
  exact⟨rfl,fun j x F=>by simp at F⟩
 | v::r,c',o,cs,C,G,D=>by
  rw[aD] at C
  obtain⟨⟨v1,o1⟩,U,C⟩:=ub C
  obtain⟨⟨r1,o2⟩,V,C⟩:=ub C
  simp at C;obtain⟨rfl,rfl⟩:=C
  rw[Reps] at D
  obtain⟨u,us,rfl,Y,g2⟩:=D
  have I:∀ b ∈ Ld g r,b ∈ fz:=fun b L=>G b (by
   cases v<;>simp only[Ld]<;>try exact L
   split
   ·rename_i x _;cases x.sealed<;>simp[L]
   ·exact L)
  have a1:=Aiy (fz:=fz) S T U (fun b off n x e hx hs=>G b (by subst e;simp[Ld,hx,hs])) Y
  obtain⟨b1,b2⟩:=aT S T V I g2
  refine⟨by simp[b1],fun j x F=>?_⟩
  cases j with
  | zero=>simp at F;subst F;exact⟨u,by simp,RepC.keep (fun k M=>JS.mono S k M) (fun _ _=>rfl) a1⟩
  | succ j =>
   obtain⟨u',e1,e2⟩:=b2 j x (by simpa using F)
   exact⟨u',by simpa using e1,RepC.keep (fun k M=>by rw[Bool.or_comm];exact JS.mono S k M) (fun _ _=>rfl) e2⟩
theorem Aiz {g:B5} {v v':AV} {q:Bool} {vc:Value} {fz:List Nat} (S:SimH J β h w) (V:Looks g h) (D:Apb g v=some (v',q)) (Y:∀ b ∈ MT g v,b ∈ fz) (G:Rep J β h w v vc) :
  Rep (JS J β h fz) β h w v' vc∧Hm v'=[]:=by
 unfold Apb at D
 split at D
 ·rename_i b off n
  obtain⟨x,C,F⟩:=ub D
  obtain⟨hp,L⟩:=uc F
  simp at L
  obtain⟨rfl,_⟩:=L
  exact⟨Aa7 S V C hp (fun hs=>by
   unfold Kt at C
   obtain⟨x0,M,C⟩:=ub C
   obtain⟨U,C⟩:=A2f C
   simp at C;subst C
   exact Y b (by simp[MT,M,hs])) G,by simp[Hm]⟩
 ·simp at D;obtain⟨rfl,_⟩:=D
  refine⟨?_,by simp[Hm]⟩
  rw[Rep,RepC] at G ⊢
  obtain⟨e1,A,cap,e2,e3,e4,e5⟩:=G
  refine⟨e1,A,cap,e2,e3,by simp,?_⟩
  rcases e5 with e5 | ⟨a,e6,e7,e8⟩
  ·exact .inl e5
  ·exact .inr ⟨a,e6,.inl e7,RepCs.keep (fun k hk=>.inl hk) (fun _ _=>rfl) (fun _=>rfl) e8⟩
 ·rename_i b off
  obtain⟨x,C,F⟩:=ub D
  obtain⟨hp,L⟩:=uc F
  simp at L
  obtain⟨rfl,_⟩:=L
  unfold Kt at C
  obtain⟨x0,M,C⟩:=ub C
  obtain⟨U,C⟩:=A2f C
  simp at C;subst C
  have hy:=V b _ M
  refine⟨?_,by simp[Hm]⟩
  rw[Rep] at G
  obtain⟨x1,k,o,⟨g1,gm⟩,g2,T⟩:=G
  rw[hy] at g1;simp at g1;subst g1
  rcases T with T | T
  ·simp[U] at T
  ·rcases S.blk b x0 hy U gm with⟨F,_⟩ | ⟨k',o',cs,ty,fr,F,L,h3,h4,h5,h6,h7⟩
   ·rw[T] at F;cases F
   ·rw[T] at F;simp at F;obtain⟨rfl,rfl⟩:=F
    have hin:∀ k2,J x0.taint k2→JS J β h fz (!x0.sealed||x0.taint) k2:=by
     intro k2 I
     left
     cases hs:x0.sealed with
     | false =>
      simp only[Bool.not_false,Bool.true_or]
      cases ht:x0.taint with
      | false=>rw[ht] at I;exact S.jft k2 I
      | true=>rw[ht] at I;exact I
     | true=>simp only[Bool.not_true,Bool.false_or];exact I
    rw[Rep,RepC]
    refine⟨_,g2,?_,?_⟩
    ·cases hs:x0.sealed with
     | false =>
      simp only[Bool.not_false,Bool.true_or]
      exact .inr ⟨rfl,b,x0,o,Y b (by simp[MT,M,hs]),hy,U,hs,T⟩
     | true =>
      simp only[Bool.not_true,Bool.false_or]
      exact .inl (h7 hs)
    ·refine RepCs.keep hin (fun _ _=>rfl) (fun j=>?_) ((h5.1 hp).drop off)
     rw[Addr.add_mid,Ya L,Nat.add_assoc]
 ·rename_i c
  obtain⟨⟨c1,o1⟩,F,L⟩:=ub D
  simp at L;obtain⟨rfl,_⟩:=L
  rw[Rep] at G
  obtain⟨cs,rfl,G⟩:=G
  obtain⟨b1,b2⟩:=aT (fz:=fz) S V F (by simpa[MT] using Y) G
  refine⟨?_,by simp[Hm]⟩
  rw[Rep]
  refine⟨cs,rfl,b1,?_⟩
  rw[Dl]
  intro j x I
  obtain⟨u,e1,e2⟩:=b2 j x I
  exact⟨u,by simpa using e1,e2⟩
 ·simp at D;obtain⟨rfl,_⟩:=D
  exact⟨Rep.ext (Ext.grow fun _ _ I=>.inl I) G,by simp[Hm,Jb]⟩
 ·simp at D
 ·simp at D
 ·simp at D
 ·simp at D
 ·simp at D;obtain⟨rfl,_⟩:=D
  refine⟨Rep.ext (Ext.grow fun _ _ I=>.inl I) G,?_⟩
  cases v<;>first | rfl | simp_all
theorem EA {g:B5} {fz:List Nat} (S:SimH J β h w) (U:Looks g h):∀ {F:LA} {ms:List Bool} {args':LA} {im D:List Nat} {vs:List Value},
  MU g ms F=some (args',im,D)→(∀ b ∈ D,b ∈ fz)→Reps J β h w F vs→Reps (JS J β h fz) β h w args' vs∧∀ b ∈ Jb args',b ∈ im
 | [],ms,args',im,D,vs,C,T,G=>by
  simp[MU] at C;obtain⟨rfl,rfl,rfl⟩:=C
  rw[Reps] at G;subst G
  exact⟨by rw[Reps],by simp[Jb]⟩
 | v::r,ms,args',im,D,vs,C,T,G=>by
  rw[MU] at C
  rw[Reps] at G
  obtain⟨u,us,rfl,I,L⟩:=G
  cases hm:ms.headD false with
  | true =>
   rw[hm,cond_true] at C
   obtain⟨⟨a2,i2,f2⟩,V,M⟩:=ub C
   simp at M;obtain⟨rfl,rfl,rfl⟩:=M
   obtain⟨Y,g2⟩:=EA S U V T L
   refine⟨by rw[Reps];exact⟨u,us,rfl,Rep.ext (Ext.grow fun _ _ hj=>.inl hj) I,Y⟩,fun b k=>?_⟩
   rw[Jb] at k
   rcases List.mem_append.1 k with k | k
   ·exact List.mem_append.2 (.inl k)
   ·exact List.mem_append.2 (.inr (g2 b k))
  | false =>
   rw[hm,cond_false] at C
   obtain⟨⟨v1,b1⟩,h0,C⟩:=ub C
   obtain⟨⟨a2,i2,f2⟩,V,M⟩:=ub C
   simp at M;obtain⟨rfl,rfl,rfl⟩:=M
   obtain⟨e1,e2⟩:=Aiz S U h0 (fun b k=>T b (List.mem_append.2 (.inl k))) I
   obtain⟨Y,g2⟩:=EA S U V (fun b k=>T b (List.mem_append.2 (.inr k))) L
   refine⟨by rw[Reps];exact⟨u,us,rfl,e1,Y⟩,fun b k=>?_⟩
   rw[Jb,e2] at k
   exact g2 b (by simpa using k)
end
end Gx

namespace Gx
open Go
theorem Al6 {g g':B5} {ρ:Nat→Nat}:∀ {ids:List Nat},(∀ b ∈ ids,g b=g' b)→sub g ρ ids=sub g' ρ ids
 | [],_=>rfl
 | b::r,h=>by
  rw[sub,sub,h b (by simp),Al6 (fun c k=>h c (by simp[k]))]
theorem aU {g:B5}:∀ {l:List Nat},aF g l=true→∀ b ∈ l,∃ x,g b=some x∧x.dead=false
 | [],_,b,k=>by simp at k
 | i::r,h,b,k=>by
  rw[aF] at h
  simp at h
  rcases List.mem_cons.1 k with rfl | k
  ·cases C:g b with
   | none=>rw[C] at h;simp at h
   | some x=>rw[C] at h;exact⟨x,rfl,by simpa using h.1⟩
  ·exact aU h.2 b k
theorem A2n:∀ {l m:List Nat},Ate l m=true→∀ b ∈ l,b ∉ m
 | [],m,_,b,k=>by simp at k
 | i::r,m,h,b,k=>by
  rw[Ate] at h
  simp at h
  rcases List.mem_cons.1 k with rfl | k
  ·intro C;have:=Mm.2 C;rw[this] at h;simp at h
  ·exact A2n h.2 b k
theorem NB {d:Nat}:∀ {l:List (Nat×Nat)} {b:Nat},b ∈ l.map (·.1)→Ju d l b ∈ l.map (·.2)
 | [],b,k=>by simp at k
 | (i,x)::r,b,k=>by
  rw[Ju]
  cases hi:Nat.beq i b with
  | true=>simp
  | false =>
   have C:b ∈ r.map (·.1):=by
    rw[List.map_cons] at k
    rcases List.mem_cons.1 k with h | h
    ·exact absurd h.symm (Z8 hi)
    ·exact h
   simp only[cond_false,List.map_cons]
   exact List.mem_cons_of_mem _ (NB C)
theorem BW {d:Nat}:∀ {l m:List (Nat×Nat)} {b:Nat},Ju d (l++m) b=if b ∈ l.map (·.1) then Ju d l b else Ju d m b
 | [],m,b=>by simp
 | (i,x)::r,m,b=>by
  rw[List.cons_append,Ju,Ju,BW]
  cases hi:Nat.beq i b with
  | true=>have:=Nat.eq_of_beq_eq_true hi;subst this;simp
  | false =>
   have:=Z8 hi
   simp only[cond_false,List.map_cons,List.mem_cons]
   by_cases k:b ∈ r.map (·.1)
   ·rw[if_pos k,if_pos (.inr k)]
   ·rw[if_neg k,if_neg (by rintro(h | h);exact this h.symm;exact k h)]
theorem Lf:∀ {base:Nat} {l:List Nat},(A6 base l).map (·.1)=l
 | _,[]=>rfl
 | base,i::r=>by rw[A6,List.map_cons,Lf]
theorem Aa8 {d d':Nat}:∀ {l:List Nat} {base b:Nat},b ∈ l→Ju d' ((A6 base l).map fun p=>(p.2,p.1)) (Ju d (A6 base l) b)=b
 | [],base,b,k=>by simp at k
 | i::r,base,b,k=>by
  rw[A6,Ju,List.map_cons,Ju]
  cases hi:Nat.beq i b with
  | true=>have:=Nat.eq_of_beq_eq_true hi;subst this;simp
  | false =>
   have C:b ∈ r:=by
    rcases List.mem_cons.1 k with h | h
    ·exact absurd h.symm (Z8 hi)
    ·exact h
   simp only[cond_false]
   have D:=D_ (d:=d) (base:=base+1) C
   rw[gV (show base≠Ju d (A6 (base+1) r) b by omega)]
   exact Aa8 C
theorem We:∀ {base:Nat} {l:List Nat} {c:Nat},c ∈ (A6 base l).map (·.2)→base≤c∧c<base+l.length
 | _,[],c,k=>by simp[A6] at k
 | base,i::r,c,k=>by
  rw[A6,List.map_cons] at k
  rcases List.mem_cons.1 k with h | h
  ·simp at h;subst h;simp
  ·have:=We h;simp only[List.length_cons];omega
theorem EB:∀ {base:Nat} {l:List Nat},((A6 base l).map (·.2)).Nodup
 | _,[]=>by simp[A6]
 | base,i::r=>by
  rw[A6,List.map_cons,List.nodup_cons]
  exact⟨fun h=>by have:=We h;simp at this;omega,EB⟩
theorem aV:∀ {base:Nat} {l:List Nat} {b:Nat},b ∈ l→(b,Ju 0 (A6 base l) b) ∈ A6 base l
 | _,[],b,k=>by simp at k
 | base,i::r,b,k=>by
  rw[A6,Ju]
  cases hi:Nat.beq i b with
  | true=>have:=Nat.eq_of_beq_eq_true hi;subst this;simp
  | false =>
   have C:b ∈ r:=by
    rcases List.mem_cons.1 k with h | h
    ·exact absurd h.symm (Z8 hi)
    ·exact h
   simp only[cond_false]
   exact List.mem_cons_of_mem _ (aV C)
def Ayr (x:Blk):Blk:={ x with dead:=true,pure:=true,cells:=[] }
theorem N7:∀ {ups:H8} {h:Am} {b:Nat} {o:Option Blk},(ups.map (·.1)).Nodup→(b,o) ∈ ups→Au (As ups h) b=match o with | some x=>some x | none=>(Au h b).map Ayr
 | [],h,b,o,_,F=>by simp at F
 | (i,y)::r,h,b,o,hn,F=>by
  rw[List.map_cons,List.nodup_cons] at hn
  rcases List.mem_cons.1 F with G | k
  ·simp at G
   obtain⟨rfl,rfl⟩:=G
   have C:Bf r b=false:=by
    have:∀ {r:H8},b ∉ r.map (·.1)→Bf r b=false:=by
     intro r
     induction r with
     | nil=>intro _;rfl
     | cons p r I =>
      intro h
      simp only[List.map_cons,List.mem_cons,not_or] at h
      rw[Bf,gV (fun e=>h.1 e.symm)]
      exact I h.2
    exact this hn.1
   cases o with
   | some x=>rw[As,Da _ _ _ C,Ai,if_pos rfl]
   | none =>
    rw[As,Da _ _ _ C]
    cases L:Au h b with
    | none=>simp[L]
    | some x=>simp only[Option.map_some];rw[Ai,if_pos rfl];rfl
  ·have D:b≠i:=fun e=>by subst e;exact hn.1 (List.mem_map.2 ⟨_,k,rfl⟩)
   cases y with
   | some x =>
    rw[As,N7 hn.2 k]
    cases o with
    | some _=>rfl
    | none=>simp only;rw[Ai,if_neg D]
   | none =>
    rw[As,N7 hn.2 k]
    cases o with
    | some _=>rfl
    | none =>
     simp only
     split
     ·rw[Ai,if_neg D]
     ·rfl
theorem rx:∀ {ups:H8} {b:Nat},Bf ups b=true↔b ∈ ups.map (·.1)
 | [],b=>by simp[Bf]
 | (i,y)::r,b=>by
  rw[Bf,List.map_cons,List.mem_cons,←rx]
  cases hi:Nat.beq i b with
  | true=>have:=Nat.eq_of_beq_eq_true hi;subst this;simp
  | false=>have:=Z8 hi;simp;intro e;exact absurd e.symm this
theorem Aa9 {β:C1} {h:Am} {ρ:Nat→Nat} {ids:List Nat} (hn:(ids.map ρ).Nodup) {k:Nat} (F:Ati (VR ρ ids β) (sub (Au h) ρ ids) k) :
  ∃ b x o,b ∈ ids∧Au h b=some x∧x.dead=false∧x.sealed=false∧β b=some (k,o):=by
 obtain⟨c,y,o,G,I,hs,C⟩:=F
 obtain⟨b,x,D,rfl,L,rfl⟩:=Pn hn c y G
 rw[Hp hn D] at C
 exact⟨b,x,o,D,L,I,hs,C⟩
theorem SimH.unJ {J:Bool→Nat→Prop} {β:C1} {h:Am} {w:World} (S:SimH J β h w) {b:Nat} {x:Blk} {k o:Nat} (F:Au h b=some x) (G:x.dead=false) (hs:x.sealed=false) (D:β b=some (k,o)):∀ g,¬ J g k:=by
 cases I:x.mp with
 | false =>
  rcases S.blk b x F G I with⟨C,_⟩ | ⟨M,o2,cs,ty,fr,C,L,U,V,Y,T,h8⟩
  ·rw[D] at C;cases C
  ·rw[D] at C;simp at C;obtain⟨rfl,rfl⟩:=C
   exact T hs
 | true =>
  obtain⟨_,_,M,es,clk,C,_,_,L⟩:=S.mblk b x F G I
  rw[D] at C;simp at C;obtain⟨rfl,_⟩:=C
  exact L
theorem SimH.seJ {J:Bool→Nat→Prop} {β:C1} {h:Am} {w:World} (S:SimH J β h w) {b:Nat} {x:Blk} {k o:Nat} (D:Au h b=some x) (F:x.dead=false) (hs:x.sealed=true) (G:β b=some (k,o)):J x.taint k:=by
 cases I:x.mp with
 | false =>
  rcases S.blk b x D F I with⟨C,_⟩ | ⟨M,o2,cs,ty,fr,C,T,U,V,Y,h7,L⟩
  ·rw[G] at C;cases C
  ·rw[G] at C;simp at C;obtain⟨rfl,rfl⟩:=C
   exact L hs
 | true =>
  have:=(S.mblk b x D F I).2.1
  rw[hs] at this;cases this
theorem Step.merge {J J0 J1:Bool→Nat→Prop} {β β1:C1} {h h1 H:Am} {w w':World} {D ids:List Nat} (S:SimH J β h w) (S1:SimH J0 β1 h1 w')
  (hH:∀ b,b ∉ D→Au H b=Au h b)
  (hD:∀ b x,b ∈ D→Au H b=some x→x.dead=false→Au h1 b=some x)
  (hD1:∀ b x,Au h1 b=some x→b ∈ D∧Au H b=some x)
  (hnew:∀ b x,b ∈ D→b ∉ ids→Au h b≠some x)
  (hold:∀ b x,b ∈ ids→Au h b=some x→∃ x',(Au H b=some x'∧x'.mp=x.mp)∧(x'.dead=true∨(x.dead=false∧β1 b=β b∧x'.sz=x.sz∧(x.mp=false→x'.cells.length=x.cells.length))))
  (hids:∀ b ∈ ids,b ∈ D)
  (os:w'.os=w.os) (tape:w'.tape=w.tape) (output:w'.output=w.output) (size:w.heap.size≤w'.heap.size)
  (frame:∀ k,k<w.heap.size→(¬ ∃ b x o,b ∈ ids∧Au h b=some x∧x.dead=false∧x.sealed=false∧β b=some (k,o))→w'.heap[k]?=w.heap[k]?)
  (wr:∀ k,Ati β1 h1 k→k<w.heap.size→∃ b x o,b ∈ ids∧Au h b=some x∧x.dead=false∧x.sealed=false∧β b=some (k,o))
  (jup:∀ o k,J0 o k→J o k∨(∃ b x o,b ∈ ids∧Au h b=some x∧x.dead=false∧x.sealed=false∧β b=some (k,o))∨w.heap.size≤k)
  (sizes:∀ k,Bs w k≤Bs w' k) :
  Step J β h w (fun o k=>J o k∨J0 o k) (fun b=>if b ∈ D then β1 b else β b) H w'∧Ext J0 β1 h1 w' (fun o k=>J o k∨J0 o k) (fun b=>if b ∈ D then β1 b else β b) H w':=by
 have E0:Ext J0 β1 h1 w' (fun o k=>J o k∨J0 o k) (fun b=>if b ∈ D then β1 b else β b) H w':=by
  refine⟨fun _ _ C=>.inr C,fun _ _ _=>rfl,fun b x F=>?_,fun _ _ _ _=>Nat.le_refl _⟩
  obtain⟨Y,h3⟩:=hD1 b x F
  refine⟨x,⟨h3,rfl⟩,?_⟩
  cases I:x.dead
  ·exact .inr ⟨rfl,by simp[Y],rfl,fun _=>rfl⟩
  ·exact .inl rfl
 have keepJ:∀ o k,J o k→w'.heap[k]?=w.heap[k]?:=by
  intro o k C
  refine frame k (S.jlt o k C) ?_
  rintro⟨b,x,o',_,F,I,hs,U⟩
  exact S.unJ F I hs U o C
 have E:Ext J β h w (fun o k=>J o k∨J0 o k) (fun b=>if b ∈ D then β1 b else β b) H w':=by
  refine⟨fun _ _ C=>.inl C,keepJ,fun b x F=>?_,fun b k o _=>sizes k⟩
  by_cases hi:b ∈ ids
  ·obtain⟨x',Y,h3⟩:=hold b x hi F
   refine⟨x',Y,?_⟩
   simp only[hids b hi,if_true]
   exact h3
  ·have hnd:b ∉ D:=fun I=>hnew b x I hi F
   refine⟨x,⟨by rw[hH b hnd];exact F,rfl⟩,?_⟩
   cases I:x.dead
   ·exact .inr ⟨rfl,by simp[hnd],rfl,fun _=>rfl⟩
   ·exact .inl rfl
 have out:∀ {b x},b ∉ D→Au H b=some x→Au h b=some x:=fun F hx=>by rw[←hH _ F];exact hx
 refine⟨⟨E,⟨?_,?_,fun b x hx I hm=>?_,fun b x hx I hm=>by
   by_cases F:b ∈ D
   ·have Y:=hD b x F hx I
    have M:=S1.mblk b x Y I hm
    refine M.keep (by simp[F]) (fun _ _ _=>rfl) (fun g k o U C=>?_)
    rcases C with C | C
    ·exfalso
     by_cases hk:k<w.heap.size
     ·obtain⟨b',x',o',T,V,L,hs',G⟩:=wr k ⟨b,x,o,Y,I,M.2.1,U⟩ hk
      exact S.unJ V L hs' G g C
     ·exact hk (S.jlt g k C)
    ·exact C
   ·have Y:=out F hx
    have M:=S.mblk b x Y I hm
    have hnm:∀ k o,β b=some (k,o)→¬ ∃ b x o,b ∈ ids∧Au h b=some x∧x.dead=false∧x.sealed=false∧β b=some (k,o):=by
     rintro k o h3 ⟨b',x',o',T,V,L,hs',G⟩
     have:=S.sep b b' x x' k o o' Y V I L M.2.1 h3 G
     subst this
     exact F (hids b T)
    refine M.keep (by simp[F]) (fun k o U=>frame k (Zp S Y I U) (hnm k o U)) (fun g k o U C=>?_)
    rcases C with C | C
    ·exact C
    ·rcases jup g k C with C | C | C
     ·exact C
     ·exact absurd C (hnm k o U)
     ·have:=Zp S Y I U;omega,?_⟩,os,tape,output,size,?_,?_,?_⟩,E0⟩
 ·rintro o k (C | C)
  ·exact Nat.lt_of_lt_of_le (S.jlt o k C) size
  ·exact S1.jlt o k C
 ·rintro k (C | C)
  ·exact .inl (S.jft k C)
  ·exact .inr (S1.jft k C)
 ·by_cases F:b ∈ D
  ·have Y:=hD b x F hx I
   rcases S1.blk b x Y I hm with⟨h3,h4⟩ | ⟨k,o,cs,ty,fr,h3,h4,h5,h6,h7,h8,h9⟩
   ·exact .inl ⟨by simp[F,h3],h4⟩
   ·refine .inr ⟨k,o,cs,ty,fr,by simp[F,h3],h4,h5,h6,h7.ext E0,fun hs g C=>?_,fun hs=>.inr (h9 hs)⟩
    rcases C with C | C
    ·by_cases hk:k<w.heap.size
     ·obtain⟨b',x',o',T,V,L,hs',G⟩:=wr k ⟨b,x,o,Y,I,hs,h3⟩ hk
      exact S.unJ V L hs' G g C
     ·exact hk (S.jlt g k C)
    ·exact h8 hs g C
  ·have Y:=out F hx
   rcases S.blk b x Y I hm with⟨h3,h4⟩ | ⟨k,o,cs,ty,fr,h3,h4,h5,h6,h7,h8,h9⟩
   ·exact .inl ⟨by simp[F,h3],h4⟩
   ·have hk:=f8 h4
    have hnm:x.sealed=false→¬ ∃ b x o,b ∈ ids∧Au h b=some x∧x.dead=false∧x.sealed=false∧β b=some (k,o):=by
     rintro hs ⟨b',x',o',T,V,L,hs',G⟩
     have:=S.sep b b' x x' k o o' Y V I L hs h3 G
     subst this
     exact F (hids b T)
    have same:w'.heap[k]?=w.heap[k]?:=by
     cases hs:x.sealed with
     | false=>exact frame k hk (hnm hs)
     | true=>exact keepJ _ k (h9 hs)
    refine .inr ⟨k,o,cs,ty,fr,by simp[F,h3],by rw[same];exact h4,h5,h6,h7.ext E,fun hs g C=>?_,fun hs=>.inl (h9 hs)⟩
    rcases C with C | C
    ·exact h8 hs g C
    ·rcases jup g k C with C | C | C
     ·exact h8 hs g C
     ·exact hnm hs C
     ·omega
 ·intro b b' x x' k o o' hx V I L hs U G
  by_cases F:b ∈ D<;>by_cases T:b' ∈ D
  ·simp[F] at U;simp[T] at G
   exact S1.sep b b' x x' k o o' (hD b x F hx I) (hD b' x' T V L) I L hs U G
  ·exfalso
   simp[F] at U;simp[T] at G
   have Y:=out T V
   have hk:=Zp S Y L G
   obtain⟨b2,x2,o2,hb2,hx2,hd2,hs2,hβ2⟩:=wr k ⟨b,x,o,hD b x F hx I,I,hs,U⟩ hk
   have:=S.sep b2 b' x2 x' k o2 o' hx2 Y hd2 L hs2 hβ2 G
   subst this
   exact T (hids _ hb2)
  ·exfalso
   simp[F] at U;simp[T] at G
   have Y:=out F hx
   have h3:=hD b' x' T V L
   have hk:=Zp S Y I U
   have hnm:¬ ∃ b x o,b ∈ ids∧Au h b=some x∧x.dead=false∧x.sealed=false∧β b=some (k,o):=by
    rintro⟨b2,x2,o2,hb2,hx2,hd2,hs2,hβ2⟩
    have:=S.sep b b2 x x2 k o o2 Y hx2 I hd2 hs U hβ2
    subst this
    exact F (hids _ hb2)
   cases hs':x'.sealed with
   | false=>exact hnm (wr k ⟨b',x',o',h3,L,hs',G⟩ hk)
   | true =>
    rcases jup _ k (S1.seJ h3 L hs' G) with C | C | C
    ·exact S.unJ Y I hs U _ C
    ·exact hnm C
    ·omega
  ·simp[F] at U;simp[T] at G
   exact S.sep b b' x x' k o o' (out F hx) (out T V) I L hs U G
 ·intro k hk hm
  exact frame k hk (fun ⟨b,x,o,_,hx,I,hs,U⟩=>hm ⟨b,x,o,hx,I,hs,U⟩)
 ·rintro k ⟨b,x,o,hx,I,hs,U⟩ hk
  by_cases F:b ∈ D
  ·simp[F] at U
   obtain⟨b2,x2,o2,_,hx2,hd2,hs2,hβ2⟩:=wr k ⟨b,x,o,hD b x F hx I,I,hs,U⟩ hk
   exact⟨b2,x2,o2,hx2,hd2,hs2,hβ2⟩
  ·simp[F] at U
   exact⟨b,x,o,out F hx,I,hs,U⟩
 ·rintro o k (C | C)
  ·exact .inl C
  ·rcases jup o k C with C | ⟨b,x,o2,_,hx,I,hs,U⟩ | C
   ·exact .inl C
   ·exact .inr (.inl ⟨b,x,o2,hx,I,hs,U⟩)
   ·exact .inr (.inr C)
end Gx

namespace Gx
open Go
theorem Ays {l:List Nat}:Apc l=true↔l=[]:=by cases l<;>simp[Apc]
theorem SB {α β:Type} {f:α→β}:∀ {l:List α},(l.map f).Nodup→l.Nodup
 | [],_=>List.nodup_nil
 | a::r,h=>by
  rw[List.map_cons,List.nodup_cons] at h
  exact List.nodup_cons.2 ⟨fun k=>h.1 (List.mem_map.2 ⟨a,k,rfl⟩),SB h.2⟩
theorem SC {α:Type} {p:α→Bool}:∀ {l:List α},l.Nodup→(l.filter p).Nodup
 | [],_=>List.nodup_nil
 | a::r,h=>by
  rw[List.nodup_cons] at h
  rw[List.filter_cons]
  split
  ·exact List.nodup_cons.2 ⟨fun k=>h.1 (List.mem_filter.1 k).1,SC h.2⟩
  ·exact SC h.2
theorem nI {base:Nat} {l:List Nat} {p:Nat×Nat} (k:p ∈ A6 base l):p.1 ∈ l:=by
 have:p.1 ∈ (A6 base l).map (·.1):=List.mem_map.2 ⟨p,k,rfl⟩
 rw[Lf] at this;exact this
theorem A2o {σ:Nat→Nat}:∀ {l:List Nat} {a b:Nat},(l.map σ).Nodup→a ∈ l→b ∈ l→σ a=σ b→a=b
 | [],a,b,_,D,_,_=>by simp at D
 | i::r,a,b,hn,D,G,F=>by
  rw[List.map_cons,List.nodup_cons] at hn
  rcases List.mem_cons.1 D with k | k<;>rcases List.mem_cons.1 G with C | C
  ·rw[k,C]
  ·subst k;exact absurd (List.mem_map.2 ⟨b,C,F.symm⟩) hn.1
  ·subst C;exact absurd (List.mem_map.2 ⟨a,k,F⟩) hn.1
  ·exact A2o hn.2 k C F
theorem A7k {E:Env} (hT:Aa4 E.P E.tbl):kw E:=by
 intro R r k J β h w g d f args vs S hl hh hv
 unfold Alu at hh
 obtain⟨⟨args',im,fz⟩,hp,h1⟩:=ub hh
 simp only at h1
 obtain⟨I,h2⟩:=uc h1
 simp only[Bool.and_eq_true] at I
 obtain⟨hal,him,hin,hdj,L,_⟩:=I
 generalize hids:DS g im=ids at *
 generalize hρ:Ju 0 (A6 100000 ids)=ρ at *
 have hal:=aU hal
 have him:=Qr him
 have hdj:=A2n hdj
 have L:=Wc L
 have hg:∀ b ∈ ids,g b=Au h b:=fun b C=>by obtain⟨x,G,_⟩:=hal b C;rw[G,hl b x G]
 rw[HO (g:=Au h) hg] at hin
 have hin:=Qr hin
 rw[Al6 (g':=Au h) hg] at h2
 obtain⟨hA,hB⟩:=EA (fz:=fz) S hl hp (fun _ h=>h) hv
 have aliveH:∀ b ∈ ids,∃ x,Au h b=some x∧x.dead=false:=fun b C=>by obtain⟨x,G,hd⟩:=hal b C;exact⟨x,hl b x G,hd⟩
 have SJ:SimH (JS J β h fz) (VR ρ ids β) (sub (Au h) ρ ids) w:=by
  refine(S.ren L hin).grow (fun o k T=>.inl T) ?_ ?_ ?_
  ·rintro o k (T | ⟨_,b,x,o',_,G,hd,_,hβ⟩)
   ·exact S.jlt o k T
   ·exact Zp S G hd hβ
  ·rintro k (T | ⟨h0,_⟩)
   ·exact .inl (S.jft k T)
   ·cases h0
  ·intro c y k o hy hd hs hβ q T
   obtain⟨b,x,C,rfl,G,rfl⟩:=Pn L c y hy
   rw[Hp L C] at hβ
   rcases T with T | ⟨_,b',x',o',hb',hx',hd',hs',hβ'⟩
   ·exact S.unJ G hd hs hβ _ T
   ·have:=S.sep b b' x x' k o o' G hx' hd hd' hs hβ hβ'
    subst this
    exact hdj b hb' C
 have RJ:Reps (JS J β h fz) (VR ρ ids β) (sub (Au h) ρ ids) w (Z7 ρ args') vs:=Reps.ren L (fun b C=>him b (hB b C)) hA
 obtain⟨rv,rh,hF,h3⟩:=At7 hT h2
 have hcall:=hF _ _ w vs SJ RJ
 obtain⟨Y,h4⟩:=A2f h3
 obtain⟨hc2,h5⟩:=uc h4
 simp only[Bool.and_eq_true] at hc2
 obtain⟨hnal,hn16,hrv,V,hrin,U⟩:=hc2
 generalize hall:DS (Au rh) (Hm rv++(A6 100000 ids).map (·.2))=all at *
 generalize hnew:all.filter (fun b=>!J8 ((A6 100000 ids).map (·.2)) b)=new at *
 generalize hσ:Ju 0 ((A6 100000 ids).map (fun p=>(p.2,p.1))++A6 (nid d) new)=σ at *
 have hnal:=aU hnal
 have hrv:=Qr hrv
 have V:=Qr V
 have hrin:=Qr hrin
 have U:=Wc U
 have hn16:new.length≤16:=by simpa using hn16
 refine⟨_,_,h5,fun hfree=>Calls.mono hcall ?_⟩
 rintro e w' ⟨vc,J',β',rfl,F,hR⟩
 refine⟨vc,rfl,?_⟩
 have back:∀ b ∈ ids,σ (ρ b)=b:=by
  intro b C
  rw[←hσ,BW,if_pos,←hρ]
  ·exact Aa8 C
  ·rw[List.map_map]
   have:=NB (d:=0) (l:=A6 100000 ids) (b:=b) (by rw[Lf];exact C)
   rw[hρ] at this
   exact this
 have ρall:∀ b ∈ ids,ρ b ∈ all:=by
  intro b C
  refine V _ ?_
  have:=NB (d:=0) (l:=A6 100000 ids) (b:=b) (by rw[Lf];exact C)
  rw[hρ] at this
  exact this
 have σout:∀ c ∈ all,c ∈ (A6 100000 ids).map (·.2)→σ c ∈ ids:=by
  intro c _ I
  rw[←hσ,BW,if_pos (by rw[List.map_map];exact I)]
  have:=NB (d:=0) (l:=(A6 100000 ids).map (fun p=>(p.2,p.1))) (b:=c) (by rw[List.map_map];exact I)
  rw[List.map_map] at this
  have e:(A6 100000 ids).map ((fun x=>x.2)∘fun p=>(p.2,p.1))=ids:=Lf
  rw[e] at this
  exact this
 have newmem:∀ c ∈ new,c ∈ all∧c ∉ (A6 100000 ids).map (·.2):=by
  intro c I
  rw[←hnew] at I
  obtain⟨h6,h7⟩:=List.mem_filter.1 I
  refine⟨h6,fun hm=>?_⟩
  rw[Mm.2 hm] at h7;simp at h7
 have σnew:∀ c ∈ new,σ c=Ju 0 (A6 (nid d) new) c:=by
  intro c I
  rw[←hσ,BW,if_neg]
  rw[List.map_map];exact(newmem c I).2
 have allcases:∀ c ∈ all,c ∈ (A6 100000 ids).map (·.2)∨c ∈ new:=by
  intro c I
  by_cases hm:c ∈ (A6 100000 ids).map (·.2)
  ·exact .inl hm
  ·refine .inr ?_
   rw[←hnew]
   refine List.mem_filter.2 ⟨I,?_⟩
   cases hq:J8 ((A6 100000 ids).map (·.2)) c with
   | false=>rfl
   | true=>exact absurd (Mm.1 hq) hm
 generalize hups:((A6 100000 ids).map fun p=>(p.1,(Au rh p.2).map (LM σ)))++(A6 (nid d) new).map (fun p=>(p.2,(Au rh p.1).map (LM σ)))=ups at *
 have keys:ups.map (·.1)=ids++(A6 (nid d) new).map (·.2):=by
  rw[←hups,List.map_append,List.map_map,List.map_map]
  congr 1
  exact Lf
 have newFree:∀ c ∈ (A6 (nid d) new).map (·.2),Au h c=none:=by
  intro c I
  refine hfree c (rx.2 (by rw[keys];exact List.mem_append.2 (.inr I))) ?_
  have:=We I
  unfold VK
  simp;omega
 have keysN:(ups.map (·.1)).Nodup:=by
  rw[keys,List.nodup_append]
  refine⟨SB L,EB,fun a ha b C e=>?_⟩
  subst e
  obtain⟨x,G,_⟩:=aliveH a ha
  rw[newFree a C] at G;cases G
 have upsOld:∀ b ∈ ids,(b,(Au rh (ρ b)).map (LM σ)) ∈ ups:=by
  intro b C
  rw[←hups]
  refine List.mem_append.2 (.inl (List.mem_map.2 ⟨(b,ρ b),?_,rfl⟩))
  rw[←hρ];exact aV C
 have upsNew:∀ c ∈ new,(σ c,(Au rh c).map (LM σ)) ∈ ups:=by
  intro c I
  rw[←hups]
  refine List.mem_append.2 (.inr (List.mem_map.2 ⟨(c,σ c),?_,rfl⟩))
  rw[σnew c I];exact aV I
 have J0:∃ J0:Bool→Nat→Prop,SimH J0 β' rh w'∧Rep J0 β' rh w' rv vc∧∀ o k,J0 o k→J o k∨Ati (VR ρ ids β) (sub (Au h) ρ ids) k∨w.heap.size≤k:=by
  cases he:Apc fz with
  | true =>
   have:=Ays.1 he
   subst this
   refine⟨J',F.sim,hR,fun o k T=>?_⟩
   rcases F.jup o k T with(T | ⟨_,b,x,o',C,_⟩) | T
   ·exact .inl T
   ·simp at C
   ·exact .inr T
  | false =>
   rw[he] at Y
   simp at Y
   refine⟨fun _=>J' false,F.sim.noOrg Y.2,Rep.noOrg Y.1 hR,fun o k T=>?_⟩
   rcases F.jup false k T with(h6 | ⟨h0,_⟩) | h6
   ·left
    cases o
    ·exact h6
    ·exact S.jft k h6
   ·cases h0
   ·exact .inr h6
 obtain⟨J0,S0,R0,jup0⟩:=J0
 have S1:=S0.ren U hrin
 have R1:=Rep.ren U hrv R0
 have M:=Step.merge (J:=J) (J0:=J0) (J1:=J0) (H:=As ups h) (D:=ids++(A6 (nid d) new).map (·.2)) (ids:=ids) S S1
  (fun b C=>Da _ _ _ (by
   cases hi:Bf ups b with
   | false=>rfl
   | true=>exact absurd (by rw[←keys];exact rx.1 hi) C))
  (fun b x C G hd=>by
   rcases List.mem_append.1 C with C | C
   ·rw[N7 keysN (upsOld b C)] at G
    cases hq:Au rh (ρ b) with
    | none =>
     rw[hq] at G;simp at G
     obtain⟨y,_,rfl⟩:=G
     simp[Ayr] at hd
    | some y =>
     rw[hq] at G;simp at G;subst G
     have:=HP (g:=Au rh) U (ρ b) y (ρall b C) hq
     rw[back b C] at this
     exact this
   ·obtain⟨c,I,rfl⟩:∃ c ∈ new,σ c=b:=by
     obtain⟨p,hp,rfl⟩:=List.mem_map.1 C
     have hp1:p.1 ∈ new:=nI hp
     refine⟨p.1,hp1,?_⟩
     rw[σnew _ hp1]
     have:∀ {base:Nat} {l:List Nat} {p:Nat×Nat},l.Nodup→p ∈ A6 base l→Ju 0 (A6 base l) p.1=p.2:=by
      intro base l
      induction l generalizing base with
      | nil=>intro p _ hp;simp[A6] at hp
      | cons i r ih =>
       intro p hn hp
       rw[List.nodup_cons] at hn
       rw[A6] at hp ⊢
       rw[Ju]
       rcases List.mem_cons.1 hp with rfl | hp
       ·simp
       ·have:p.1 ∈ r:=nI hp
        rw[gV (fun e=>hn.1 (by rw[e];exact this))]
        exact ih hn.2 hp
     refine this ?_ hp
     rw[←hnew]
     exact SC (SB U)
    rw[N7 keysN (upsNew c I)] at G
    obtain⟨y,hy,_⟩:=hnal c I
    rw[hy] at G;simp at G;subst G
    exact HP (g:=Au rh) U c y (newmem c I).1 hy)
  (fun b x C=>by
   obtain⟨c,y,I,rfl,hy,rfl⟩:=Pn U b x C
   rcases allcases c I with hm | hm
   ·have h6:=σout c I hm
    have h7:ρ (σ c)=c:=by
     have:(all.map σ).Nodup:=U
     have e1:=back (σ c) h6
     have e2:=ρall (σ c) h6
     exact A2o this e2 I e1
    refine⟨List.mem_append.2 (.inl h6),?_⟩
    rw[N7 keysN (upsOld (σ c) h6),h7,hy];rfl
   ·refine⟨List.mem_append.2 (.inr ?_),?_⟩
    ·rw[σnew c hm]
     exact NB (by rw[Lf];exact hm)
    ·rw[N7 keysN (upsNew c hm),hy];rfl)
  (fun b x C hni G=>by
   rcases List.mem_append.1 C with C | C
   ·exact hni C
   ·rw[newFree b C] at G;cases G)
  (fun b x C G=>by
   rw[N7 keysN (upsOld b C)]
   cases hq:Au rh (ρ b) with
   | none=>exact⟨Ayr x,⟨by simp[G],rfl⟩,.inl rfl⟩
   | some y =>
    cases hd:y.dead with
    | true=>have:=F.live _ _ hq;rw[hd] at this;cases this
    | false =>
     have e0:=HP (g:=Au h) L b x C G
     obtain⟨⟨e1,em⟩,e2,e3,e4⟩:=F.outs (ρ b) _ y e0 hq hd
     refine⟨LM σ y,⟨by simp,em⟩,.inr ?_⟩
     refine⟨e4,?_,e2,fun hmx=>?_⟩
     ·have:=Hp (β:=β') U (ρall b C)
      rw[back b C] at this
      rw[this,e1]
      exact Hp L C
     ·rw[N6,e3 hmx,N6])
  (fun b C=>List.mem_append.2 (.inl C))
  F.os F.tape F.output F.size
  (fun k hk hm=>F.frame k hk (fun hm'=>hm (Aa9 L hm')))
  (fun k hm hk=>Aa9 L (F.wr k (Apv U hm) hk))
  (fun o k T=>by
   rcases jup0 o k T with T | T | T
   ·exact .inl T
   ·exact .inr (.inl (Aa9 L T))
   ·exact .inr (.inr T))
  F.sizes
 exact⟨_,_,M.1,Rep.ext M.2 R1⟩
theorem Aub {P:Program} {muts:Nat→List Bool} {T:List (Nat×Tw)} {hs:Hints} {N f:Nat} {k:LA} {h:Am} {G:AV} {h':Am} (hT:Aa4 P T) (hm:P.follows .mixedOrders=true)
  (M:VL P muts T hs N f k h (fun v h'=>some (v,h'))=some (G,h')):Bei P f k h G h':=by
 unfold VL at M
 split at M
 ·simp at M
 ·rename_i fn hfn
  split at M
  ·simp at M
  ·rename_i c hc
   simp only at M
   obtain⟨U,h1⟩:=uc M
   simp only[Bool.and_eq_true] at U
   obtain⟨L,D⟩:=U
   have L:k.length≤fn.ntmps:=by simpa using L
   intro J β w vs S hv
   have hvl:vs.length=k.length:=((C3).1 hv).1
   refine calls_of_wp hfn hc ?_
   have roots:∀ {h:Am} {b:Nat} {x:Blk},zi h=true→Au h b=some x→Aac b=true:=by
    intro h
    induction h with
    | nil=>intro b x _ C;simp[Au] at C
    | cons p r ih =>
     intro b x hr C
     obtain⟨i,y⟩:=p
     rw[zi] at hr
     simp at hr
     rw[Au] at C
     cases hi:Nat.beq i b with
     | true=>have:=Nat.eq_of_beq_eq_true hi;subst this;exact hr.1
     | false=>rw[hi] at C;exact ih hr.2 (by simpa using C)
   have sgetI:∀ {k:LA} {j i:Nat},Gv (Alw j k) i=if j≤i then (k[i - j]?).getD .undef else .undef:=by
    intro k
    induction k with
    | nil=>intro j i;simp[Alw,Gv]
    | cons v r ih =>
     intro j i
     rw[Alw,Gv]
     cases hi:Nat.beq j i with
     | true=>have:=Nat.eq_of_beq_eq_true hi;subst this;simp
     | false =>
      have:=Z8 hi
      simp only[cond_false]
      rw[ih]
      by_cases V:j+1≤i
      ·rw[if_pos V,if_pos (by omega),show i - j=(i - (j+1))+1 by omega];simp
      ·rw[if_neg V]
       by_cases F:j≤i
       ·omega
       ·rw[if_neg F]
   have I:Inv ⟨J,β,h,w⟩ fn.ntmps J β { s:=Alw 0 k,h:=h } { tmps:=vs.toArray++Array.replicate (fn.ntmps - vs.toArray.size) undef,defers:=[] } w:=by
    refine⟨S,⟨fun i v hi=>?_,fun i hi=>?_⟩,?_,rfl,rfl,rfl,rfl,Nat.le_refl _,fun _ _ _=>rfl,fun _ hm _=>hm,fun _ _ hj=>hj,fun _ _ hj=>.inl hj,fun _=>Nat.le_refl _,?_,?_,?_⟩
    ·rw[sgetI,if_pos (Nat.zero_le _)]
     by_cases Y:i<k.length
     ·have F:k[i - 0]?=some k[i]:=by simp[Y]
      rw[F]
      have h3:vs[i]?=some v:=by
       rw[Array.getElem?_append_left (by simp;omega)] at hi
       simpa using hi
      exact((C3).1 hv).2 i _ _ (by simp[Y]) h3
     ·have F:k[i - 0]?=none:=by simp;omega
      rw[F];simp[Rep]
    ·simp at hi
     rw[sgetI,if_pos (Nat.zero_le _)]
     have F:k[i - 0]?=none:=by simp;omega
     rw[F];rfl
    ·simp;omega
    ·intro b x0 C;exact(Aa3.1 (roots D C)).2
    ·intro b x0 C;exact(Aa3.1 (roots D C)).1
    ·intro b x0 x C hx hd
     change Au h b=some x0 at C
     change Au h b=some x at hx
     rw[C] at hx;simp at hx;subst hx
     exact⟨⟨rfl,rfl⟩,rfl,fun _=>rfl,hd⟩
   have fin:∀ st' a' w' J' β',Inv ⟨J,β,h,w⟩ fn.ntmps J' β' st' a' w'→BS { P:=P,nt:=fn.ntmps,muts:=muts,nils:=hs.nils,free:=hs.free,cob:=hs.cob,tbl:=T } fn hs.modes (h.map (·.1)) (fun v h'=>some (v,h')) st'=some (G,h') →
     a'.defers=[]∧∃ v,(results fn a'.tmps).run P w'=.ok v w'∧∃ vc J' β',Ending.returned v=.returned vc∧FDone ⟨J,β,h,w⟩ J' β' h' w'∧Rep J' β' h' w' G vc:=by
    intro st' a' w' J' β' I' F
    obtain⟨res2,h2',vc,J2,β2,h3,h4,h5,h6⟩:=Aix I' F
    simp at h3
    obtain⟨rfl,rfl⟩:=h3
    exact⟨I'.defers,vc,h4,vc,J2,β2,rfl,h5,h6⟩
   exact At6 (E:={ P:=P,nt:=fn.ntmps,muts:=muts,nils:=hs.nils,free:=hs.free,cob:=hs.cob,tbl:=T }) (A7k hT) hm c I h1 fin (fun _ _ _ _ _ _ _ F=>by simp at F) fin
end Gx

namespace Gx
open Go
section
variable {R R':Type}
theorem Ayt (E:Env) (ops:Array Oper) (o:Oper) (st:St) (k:St→Foot→O R) (g:R→Option R'):(Atf E ops o st k).bind g=Atf E ops o st fun st f=>(k st f).bind g:=by
 rw[fb,fb,Option.bind_assoc]
theorem Apx (ops:Array Oper) (o:Oper) (st:St) (k:St→O R) (g:R→Option R'):(rf ops o st k).bind g=rf ops o st fun st=>(k st).bind g:=by
 unfold rf
 split
 ·rfl
 ·split
  ·rfl
  ·split
   ·rw[Az]
   ·rfl
theorem Aba (E:Env) (ops:Array Oper) (g:R→Option R'):∀ (l:List Oper) (st:St) (tr:List Foot) (k:St→List Foot→O R),(zy E ops l st tr k).bind g=zy E ops l st tr fun st tr=>(k st tr).bind g
 | [],st,tr,k=>rfl
 | o::r,st,tr,k=>by
  rw[zy,zy,Apx]
  congr 1;funext st
  rw[Ayt]
  congr 1;funext st f
  exact Aba E ops g r st (f::tr) k
theorem Ai0 (E:Env) (roots:List Nat) (ops:Array Oper) (draw:Bool) (st:St) (k:St→O R) (g:R→Option R'):(fZ E roots ops draw st k).bind g=fZ E roots ops draw st fun st=>(k st).bind g:=by
 unfold fZ
 rw[Aba]
 congr 1;funext st tr
 rw[Az,Option.bind_assoc];rfl
theorem Ayu (E:Env) (roots:List Nat) (H:Hint) (f:St→O R) (g:R→Option R') (st:St):(A3z E roots H f st).bind g=A3z E roots H (fun st=>(f st).bind g) st:=by
 unfold A3z
 rw[Az,Option.bind_assoc,HL,HL]
theorem uj (cn:St→Option St) (C:(St→O R)→St→O R) (D:(St→Option R')→St→Option R') (g:R→Option R') (F:∀ k st,(C k st).bind g=D (fun st=>(k st).bind g) st):∀ n st,(aH cn C n st).bind g=aH cn D n st
 | 0,st=>rfl
 | n+1,st=>by
  rw[aH,aH,F]
  congr 1;funext st
  rw[Option.bind_assoc]
  congr 1;funext st
  exact uj cn C D g F n st
theorem Auc (E:Env) (roots:List Nat) (N:Nat) (g:R→Option R'):∀ (c:Code) (H:Hint) (k:St→O R) (x:Nat→St→O R) (r:St→O R) (st:St),
  (Gy E roots N c H k x r st).bind g=Gy E roots N c H (fun st=>(k st).bind g) (fun j st=>(x j st).bind g) (fun st=>(r st).bind g) st:=by
 intro c
 induction c with
 | skip=>intro H k x r st;rfl
 | region id ops draw=>intro H k x r st;exact Ai0 ..
 | seq a b C D =>
  intro H k x r st
  rw[Gy,Gy,C]
  congr 1;funext st
  rw[Ayu]
  congr 1;funext st
  exact D ..
 | cond c a b C D =>
  intro H k x r st
  rw[Gy,Gy]
  split
  ·rw[Az,C,D]
  ·rfl
 | block id c F =>
  intro H k x r st
  rw[Gy,Gy,F]
  simp only[Az]
 | loop c F =>
  intro H k x r st
  rw[Gy,Gy,Option.bind_assoc,HL,HL]
  congr 1;funext st
  exact uj _ _ _ g (fun k st=>F ..) N st
 | exit id=>intro H k x r st;rfl
 | ret=>intro H k x r st;rfl
 | rangeFunc=>intro H k x r st;rfl
 | scope=>intro H k x r st;rfl
 | label=>intro H k x r st;rfl
 | goto=>intro H k x r st;rfl
 | refuse=>intro H k x r st;rfl
theorem LW (E:Env) (st:St) (g:R→Option R'):∀ (l:List ResultVar) (C:LA) (k:LA→O R),(Pi E st l C k).bind g=Pi E st l C fun l=>(k l).bind g
 | [],C,k=>rfl
 | .tmp t::r,C,k=>by rw[Pi,Pi];exact LW E st g r _ k
 | .cell a t::r,C,k=>by
  rw[Pi,Pi,R_,R_ (R:=R'),Option.bind_assoc]
  congr 1;funext v
  exact LW E st g r _ k
theorem Ai1 (E:Env) (fn:Func) (modes:List (Nat×Nat)) (outs:List Nat) (k:AV→Am→O R) (g:R→Option R') (st:St):(BS E fn modes outs k st).bind g=BS E fn modes outs (fun v h=>(k v h).bind g) st:=by
 unfold BS
 rw[LW]
 congr 1;funext l
 rw[Option.bind_assoc]
 congr 1;funext q
 rw[Az];rfl
theorem Ayv (P:Program) (muts:Nat→List Bool) (T:List (Nat×Tw)) (hs:Hints) (N f:Nat) (C:LA) (h:Am) (k:AV→Am→O R) :
  VL P muts T hs N f C h k=(VL P muts T hs N f C h fun v h=>some (v,h)).bind fun p=>k p.1 p.2:=by
 unfold VL
 split
 ·rfl
 ·split
  ·rfl
  ·simp only
   rw[Az,Auc]
   simp only[Ai1]
   rfl
structure Cut (R:Type) where
 c:Code
 H:Hint
 k:St→O R
 x:Nat→St→O R
 r:St→O R
noncomputable def Bb6 (E:Env) (roots:List Nat) (N:Nat):List Nat→Code→Hint→(St→O R)→(Nat→St→O R)→(St→O R)→List (St→O R)→Cut R
 | [],c,H,k,x,r,_=>⟨c,H,k,x,r⟩
 | d::p,.seq a b,H,k,x,r,ks=>cond (Nat.beq d 0) (Bb6 E roots N p a H.a (A3z E roots H fun st=>Gy E roots N b H.b k x r st) x r ks) (Bb6 E roots N p b H.b k x r ks)
 | d::p,.cond _ a b,H,k,x,r,ks=>cond (Nat.beq d 0) (Bb6 E roots N p a H.a k x r ks) (Bb6 E roots N p b H.b k x r ks)
 | _::p,.block id c,H,k,x,r,ks=>Bb6 E roots N p c H.a k (fun j st=>cond (Nat.beq j id) (k st) (x j st)) r ks
 | _::p,.loop c,H,_,x,r,q::ks=>Bb6 E roots N p c H.a (fun st=>(mu E H.live roots st).bind q) x r ks
 | _::_,c,H,k,x,r,_=>⟨c,H,k,x,r⟩
def Aud:Code→Code
 | .loop c=>c
 | c=>c
structure CutB (R:Type) where
 E:Env
 roots:List Nat
 N:Nat
 c:Cut R
noncomputable def A9 (q:CutB R) (st:St):O R:=Gy q.E q.roots q.N q.c.c q.c.H q.c.k q.c.x q.c.r st
noncomputable def A7l (q:CutB R) (st:St):O R:=A7d true (fun st=>Gy q.E q.roots q.N q.c.c q.c.H q.c.k q.c.x q.c.r st) st
theorem At (q:CutB R) (st:St):A7l q st=A9 q st:=by unfold A7l;rw[HL];rfl
noncomputable def Ao (q:CutB R) (n:Nat) (st:St):O R:=aH (mu q.E q.c.H.live q.roots) (fun k st=>Gy q.E q.roots q.N (Aud q.c.c) q.c.H.a k q.c.x q.c.r st) n st
noncomputable def Bbb (q:CutB R) (st:St):O R:=A7d true (aH (mu q.E q.c.H.live q.roots) (fun k st=>Gy q.E q.roots q.N (Aud q.c.c) q.c.H.a k q.c.x q.c.r st) q.N) st
theorem Aj (q:CutB R) (st:St):Bbb q st=Ao q q.N st:=by unfold Bbb;rw[HL];rfl
def Bb7 (fn:Func):Code:=match fn.body with | some c=>c | none=>.skip
def Bbc:List (Nat×List Bool)→Nat→List Bool
 | [],_=>[]
 | (i,l)::r,f=>cond (Nat.beq i f) l (Bbc r f)
end
end Gx

namespace Gx
open Go
abbrev KF (R:Type):=AV→Am→Option R
abbrev D9:=List (Nat×Tw)
abbrev hL:Hint:=.leaf
abbrev hS (a b:Hint):Hint:=.node [] a b
abbrev hP (l:List Nat) (a:Hint):Hint:=.node l a .leaf
abbrev hJ (l:List Nat) (a b:Hint):Hint:=.join l a b
def A9x (P:Program) (muts:Nat→List Bool) (nt:Nat) (hs:Hints) (T:List (Nat×Tw)):Env:={ P,nt,muts,nils:=hs.nils,free:=hs.free,cob:=hs.cob,tbl:=T }
noncomputable def Be6 {R:Type} (P:Program) (muts:Nat→List Bool) (fn:Func) (hs:Hints) (T:List (Nat×Tw)) (roots:List Nat) (N:Nat) (F:KF R) (p:List Nat) (ks:List (St→O R)):CutB R :=
 ⟨A9x P muts fn.ntmps hs T,roots,N,Bb6 (A9x P muts fn.ntmps hs T) roots N p (Bb7 fn) hs.H (BS (A9x P muts fn.ntmps hs T) fn hs.modes roots F) (fun _ _=>none) (BS (A9x P muts fn.ntmps hs T) fn hs.modes roots F) ks⟩
def iv (n:Int):AV:=.int .i64 n
def op (k:Nat):AV:=.optr (300000+k) 0
def Bey:Nat→List Blk→Am
 | _,[]=>[]
 | i,b::r=>(i,b)::Bey (i+1) r
def hq (l:List Blk):Am:=Bey 300000 l
def bQ (sz:Nat) (c:LA):Blk:=⟨false,false,true,false,sz,c,false⟩
def bP (t:Bool) (sz:Nat) (c:LA):Blk:=⟨false,false,true,t,sz,c,false⟩
def bT (sz:Nat) (c:LA):Blk:=⟨false,true,true,false,sz,c,false⟩
def An {R:Type} (kd:IntKind) (c:LA) (k:Int→O R):O R:=(c.head?).bind fun x=>(uI kd x).bind k
def NC {R:Type} (c:LA) (k:Bool→O R):O R:=(c.head?).bind fun x=>(asBool x).bind k
def As8 {R:Type} (c:LA) (k:List UInt8→O R):O R:=(c.head?).bind fun x=>(uJ x).bind k
def Co {R:Type} (sz:Nat) (c:LA) (k:LA→Nat→O R):O R:=(c.head?).bind fun x=>(A3v sz x).bind fun p=>k p.1 p.2
def Ayw (k:IntKind) (a b:Int):Int:=k.wrap ((BitVec.ofInt k.bits a &&& BitVec.ofInt k.bits b).toNat:Int)
def Ta (k:IntKind) (a b:Int):Int:=k.wrap ((BitVec.ofInt k.bits a ||| BitVec.ofInt k.bits b).toNat:Int)
def Bb8 (P:Program) (muts:Nat→List Bool) (N f:Nat) (run:(R:Type)→Nat→LA→Am→KF R→O R):Prop:=∀ {R Q:Type} (args:LA) (h:Am) (k:KF R) (j:KF Q),
 (∃ T hs,Aa4 P T∧run R N args h k=VL P muts T hs N f args h k∧run Q N args h j=VL P muts T hs N f args h j)∨(run R N args h k=none∧run Q N args h j=none)
theorem A0 {P:Program} {muts:Nat→List Bool} {T:List (Nat×Tw)} {hs:Hints} {N f:Nat} {C:LA} {h:Am} {R Q:Type} {k:KF R} {j:KF Q} {a:O R} {b:Option Q} {p:Prop}
  (D:VL P muts T hs N f C h k=a) (F:VL P muts T hs N f C h j=b) (hT:Aa4 P T):(∃ T hs,Aa4 P T∧a=VL P muts T hs N f C h k∧b=VL P muts T hs N f C h j)∨p:=.inl ⟨T,hs,hT,D.symm,F.symm⟩
theorem A3 {R Q:Type} {p:Prop}:p∨((none:O R)=none∧(none:Option Q)=none):=.inr ⟨rfl,rfl⟩
def A1 {P:Program} {muts:Nat→List Bool} {N f:Nat} {run:(R:Type)→Nat→LA→Am→KF R→O R} (H:Bb8 P muts N f run):Tw:=⟨fun {R} args h k=>run R N args h k,fun args h k=>by
 rcases H args h k (fun v h=>some (v,h)) with⟨T,hs,_,e1,e2⟩ | ⟨e1,e2⟩
 ·rw[e1,e2];exact Ayv ..
 ·rw[e1,e2];rfl⟩
theorem Bej {P:Program} {muts:Nat→List Bool} {N f:Nat} {run:(R:Type)→Nat→LA→Am→KF R→O R} (H:Bb8 P muts N f run) (D:P.follows .mixedOrders=true):A9w P f (A1 H):=by
 intro k h F h' C
 change run _ N k h _=_ at C
 rcases H k h (fun v h=>some (v,h)) (fun v h=>some (v,h)) with⟨T,hs,hT,e1,_⟩ | ⟨e1,_⟩
 ·rw[e1] at C;exact Aub hT D C
 ·rw[e1] at C;cases C
theorem Bp {α δ:Type} (f:α→δ) {a k:α} (C:a=k):f a=f k:=by rw[C]
theorem VS {α β δ:Type} (f:α→β→δ) {a k:α} {b C:β} (D:a=k) (F:b=C):f a b=f k C:=by rw[D,F]
theorem Bdj {α β γ δ:Type} (f:α→β→γ→δ) {a k:α} {b C:β} {c c':γ} (D:a=k) (F:b=C) (G:c=c'):f a b c=f k C c':=by rw[D,F,G]
theorem Be7 {α β γ ε ζ η δ:Type} (f:α→β→γ→ε→ζ→η→δ) {a k:α} {b C:β} {c c':γ} {d d':ε} {e e':ζ} {g g':η} (D:a=k) (F:b=C) (G:c=c') (I:d=d') (L:e=e') (M:g=g'):f a b c d e g=f k C c' d' e' g':=by rw[D,F,G,I,L,M]
end Gx

namespace Gx
open Go
theorem wrap_u8 (a:Nat):IntKind.wrap .u8 (a:Int)=((a%256:Nat):Int):=by rw[IntKind.wrap_u8];omega
theorem wrap_u32 (a:Nat) (h:a<4294967296):IntKind.wrap .u32 (a:Int)=(a:Int):=IntWalk.u32_in _ (by omega)
theorem A39 (a:Nat):IntKind.wrap .u32 (a:Int)=((a%4294967296:Nat):Int):=by rw[IntKind.wrap_u32];omega
theorem Yb (a:Int) (h:-9223372036854775808≤a∧a≤9223372036854775807):IntKind.wrap .i64 a=a:=IntWalk.i64_in _ h
theorem wrap_u64 (a:Nat) (h:a<18446744073709551616):IntKind.wrap .u64 (a:Int)=(a:Int):=IntWalk.u64_in _ (by omega)
theorem fe (w a:Nat):BitVec.ofInt w (a:Int)=BitVec.ofNat w a:=by simp
theorem Ayx {k:IntKind} (hs:k.signed=false) {a b:Nat} (D:a<2 ^ k.bits) (C:b<2 ^ k.bits):Ayw k a b=((a &&& b:Nat):Int):=by
 unfold Ayw
 rw[fe,fe]
 have F:(BitVec.ofNat k.bits a &&& BitVec.ofNat k.bits b).toNat=a &&& b:=by
  rw[BitVec.toNat_and,BitVec.toNat_ofNat,BitVec.toNat_ofNat,Nat.mod_eq_of_lt D,Nat.mod_eq_of_lt C]
 rw[F]
 have G:a &&& b<2 ^ k.bits:=Nat.and_lt_two_pow _ C
 unfold IntKind.wrap
 simp only[hs,Bool.false_and,Bool.false_eq_true,if_false]
 have:(2 ^ k.bits:Int)=((2 ^ k.bits:Nat):Int):=by simp
 rw[this,←Int.natCast_emod,Nat.mod_eq_of_lt G]
theorem Al7 {k:IntKind} (hs:k.signed=false) {a b:Nat} (C:a<2 ^ k.bits) (D:b<2 ^ k.bits):Ta k a b=((a ||| b:Nat):Int):=by
 unfold Ta
 rw[fe,fe]
 have F:(BitVec.ofNat k.bits a ||| BitVec.ofNat k.bits b).toNat=a ||| b:=by
  rw[BitVec.toNat_or,BitVec.toNat_ofNat,BitVec.toNat_ofNat,Nat.mod_eq_of_lt C,Nat.mod_eq_of_lt D]
 rw[F]
 have G:a ||| b<2 ^ k.bits:=Nat.or_lt_two_pow C D
 unfold IntKind.wrap
 simp only[hs,Bool.false_and,Bool.false_eq_true,if_false]
 have:(2 ^ k.bits:Int)=((2 ^ k.bits:Nat):Int):=by simp
 rw[this,←Int.natCast_emod,Nat.mod_eq_of_lt G]
theorem T5 (a k:Nat):Int.fdiv (a:Int) (2 ^ k)=((a/2 ^ k:Nat):Int):=by
 have:(2 ^ k:Int)=((2 ^ k:Nat):Int):=by simp
 rw[this,Int.fdiv_eq_ediv_of_nonneg (a:Int) (Int.natCast_nonneg (2 ^ k))]
 rfl
theorem Ay {R:Type} {k:IntKind} {n:Int} {r:LA} {f:Int→O R}:An k (.int k n::r) f=f n:=by simp[An,uI,T2]
theorem Aa {i n:Nat} (h:i<n):Ac (i:Int) n=true:=by simp[Ac];omega
end Gx

namespace Gx
def val:List Nat→Nat
 | []=>0
 | x::r=>x+4294967296*val r
def Al (l:List Nat):Prop:=∀ x ∈ l,x<4294967296
def Aue:Nat→Nat→List Nat
 | 0,_=>[]
 | f+1,n=>if n=0 then [] else n%4294967296::Aue f (n/4294967296)
def Ar (n:Nat):List Nat:=Aue n n
theorem A2p:∀ (f n:Nat),n≤f→∀ g,n≤g→Aue f n=Aue g n
 | 0,n,h,g,_=>by
  have:n=0:=by omega
  subst this;cases g<;>simp[Aue]
 | f+1,n,h,g,C=>by
  by_cases k:n=0
  ·subst k;cases g<;>simp[Aue]
  ·cases g with
   | zero=>omega
   | succ g=>simp only[Aue,k,if_false];rw[A2p f _ (by omega) g (by omega)]
theorem Eb:Ar 0=[]:=rfl
theorem SD {n:Nat} (h:n≠0):Ar n=n%4294967296::Ar (n/4294967296):=by
 unfold Ar
 cases n with
 | zero=>omega
 | succ n=>simp only[Aue,h,if_false];rw[A2p n _ (by omega) ((n+1)/4294967296) (by omega)]
theorem Ak:∀ n,val (Ar n)=n:=by
 intro n
 induction n using Nat.strongRecOn with
 | _ n k =>
  by_cases h:n=0
  ·subst h;rfl
  ·rw[SD h,val,k _ (by omega)];omega
theorem Ad:∀ n,Al (Ar n):=by
 intro n
 induction n using Nat.strongRecOn with
 | _ n C =>
  by_cases h:n=0
  ·subst h;intro x k;simp[Eb] at k
  ·rw[SD h];intro x k
   simp at k
   rcases k with rfl | k
   ·omega
   ·exact C _ (by omega) x k
theorem Wf:Al []:=by intro x k;simp at k
theorem Ds {x:Nat} {r:List Nat}:Al (x::r)↔x<4294967296∧Al r:=by simp[Al]
theorem nK {a b:List Nat}:Al (a++b)↔Al a∧Al b:=by simp[Al,or_imp,forall_and]
theorem Cq {a:List Nat} (h:Al a) (n:Nat):Al (a.take n):=fun x k=>h x (List.mem_of_mem_take k)
theorem SE {a:List Nat} (h:Al a) (n:Nat):Al (a.drop n):=fun x k=>h x (List.mem_of_mem_drop k)
theorem Ba {a:List Nat} (h:Al a) {i:Nat} (hi:i<a.length):a[i]<4294967296:=h _ (List.getElem_mem hi)
theorem Cx {a:List Nat} (h:Al a) {v:Nat} (D:v<4294967296) (i:Nat):Al (a.set i v):=fun x C=>by
 rcases List.mem_or_eq_of_mem_set C with k | k
 ·exact h x k
 ·omega
theorem Cw (n:Nat):Al (List.replicate n 0):=fun x k=>by simp at k;omega
theorem Sd:∀ (a b:List Nat),val (a++b)=val a+4294967296 ^ a.length*val b
 | [],b=>by simp[val]
 | x::r,b=>by
  simp only[List.cons_append,val,List.length_cons,Sd r b,Nat.pow_succ]
  rw[Nat.mul_add,←Nat.add_assoc,←Nat.mul_assoc];congr 2;rw[Nat.mul_comm]
theorem Ei:∀ n,val (List.replicate n 0)=0
 | 0=>rfl
 | n+1=>by rw[List.replicate_succ,val,Ei n]
theorem Bk:∀ {a:List Nat},Al a→val a<4294967296 ^ a.length
 | [],_=>by simp[val]
 | x::r,h=>by
  have k:=Ds.1 h
  have C:=Bk k.2
  rw[val,List.length_cons,Nat.pow_succ]
  omega
theorem Ayy (a:List Nat) (x:Nat):val (a++[x])=val a+4294967296 ^ a.length*x:=by rw[Sd];simp[val]
theorem lC {n:Nat} (h:n≠0):Ar n≠[]:=by rw[SD h];simp
theorem Abb {n:Nat}:Ar n=[]↔n=0:=by
 constructor
 ·intro h;by_cases k:n=0;exact k;exact absurd h (lC k)
 ·intro h;rw[h];rfl
theorem Bv {n:Nat}:(Ar n).length=0↔n=0:=by rw[List.length_eq_zero_iff,Abb]
theorem Bt:∀ {l:List Nat},Al l→l=Ar (val l)++List.replicate (l.length - (Ar (val l)).length) 0∧(Ar (val l)).length≤l.length
 | [],_=>by simp[val,Eb]
 | x::r,h=>by
  have D:=Ds.1 h
  obtain⟨k,F⟩:=Bt D.2
  rw[val]
  by_cases C:x+4294967296*val r=0
  ·have G:x=0:=by omega
   have hr:val r=0:=by omega
   rw[C,Eb]
   rw[hr,Eb] at k
   simp at k
   subst G
   refine⟨?_,by simp⟩
   rw[List.nil_append,List.length_nil,Nat.sub_zero,List.length_cons,List.replicate_succ,←k]
  ·rw[SD C,show(x+4294967296*val r)%4294967296=x by omega,show(x+4294967296*val r)/4294967296=val r by omega]
   refine⟨?_,by simp;exact F⟩
   rw[List.cons_append,List.length_cons,List.length_cons,Nat.add_sub_add_right,←k]
theorem Abc:∀ (n:Nat) (h:Ar n≠[]),(Ar n).getLast h≠0:=by
 intro n
 induction n using Nat.strongRecOn with
 | _ n D =>
  intro h
  have F:n≠0:=fun e=>h (by rw[e];rfl)
  have e:=SD F
  by_cases C:n/4294967296=0
  ·rw[C,Eb] at e
   have:n<4294967296:=by omega
   simp[e];omega
  ·have k:=lC C
   have:=D _ (by omega) k
   have G:(Ar n).getLast h=(Ar (n/4294967296)).getLast k:=by
    simp only[e];rw[List.getLast_cons k]
   rw[G];exact this
theorem Bb9:∀ {l:List Nat},Al l→(∀ h:l≠[],l.getLast h≠0)→Ar (val l)=l:=by
 intro l h I
 obtain⟨C,L⟩:=Bt h
 by_cases F:l.length - (Ar (val l)).length=0
 ·rw[F] at C;simpa using C.symm
 ·exfalso
  obtain⟨k,F⟩:=Nat.exists_eq_succ_of_ne_zero F
  rw[F,List.replicate_succ',←List.append_assoc] at C
  have D:l≠[]:=by intro e;rw[e] at C;simp at C
  apply I D
  have G:l.getLast?=some 0:=by rw[C,List.getLast?_append];rfl
  rw[List.getLast?_eq_some_getLast D] at G
  simpa using G
theorem En {n k:Nat} (h:n<4294967296 ^ k):(Ar n).length≤k:=by
  induction k generalizing n with
  | zero => have : n = 0 := by simpa using h
            subst this;simp[Eb]
  | succ k D =>
    by_cases C:n=0
    · subst C;simp[Eb]
    · rw[SD C,List.length_cons]
      have:n/4294967296<4294967296 ^ k:=by
        rw[Nat.pow_succ] at h
        exact Nat.div_lt_of_lt_mul (by rw[Nat.mul_comm];exact h)
      have:=D this
      omega
theorem B6 {a b:Nat} (h:a≤b):(Ar a).length≤(Ar b).length:=by
 apply En
 have:=Bk (Ad b)
 rw[Ak] at this
 omega
end Gx

namespace Gx
theorem Al8 {U V U3 V2 P d:Nat} (hV:V2*P≤V) (hU:U<(U3+1)*P) (h:U3<d*V2) (k:0<V):U/V<d:=by
 rw[Nat.div_lt_iff_lt_mul k]
 have D:(U3+1)*P≤d*V2*P:=Nat.mul_le_mul_right _ h
 have C:d*(V2*P)≤d*V:=Nat.mul_le_mul_left _ hV
 rw[←Nat.mul_assoc] at C
 omega
theorem Al9 {U V U3 V2 P d:Nat} (hV:V<(V2+1)*P) (hU:U3*P≤U) (h:d*V2≤U3) (C:d≤V2+1) (k:0<V):d≤U/V+1:=by
 cases d with
 | zero=>exact Nat.zero_le _
 | succ d =>
  have:d≤U/V:=by
   rw[Nat.le_div_iff_mul_le k]
   have D:(d+1)*V2*P≤U3*P:=Nat.mul_le_mul_right _ h
   have F:d*V≤d*((V2+1)*P):=Nat.mul_le_mul_left _ (by omega)
   have G:d*((V2+1)*P)≤(d+1)*V2*P:=by
    rw[←Nat.mul_assoc]
    apply Nat.mul_le_mul_right
    rw[Nat.mul_add,Nat.add_mul];omega
   omega
  omega
theorem Auf {a b u v s t x y:Nat} (D:x+v*b=u*a) (F:y+s*a=t*b) (k:u*t=v*s+1):Nat.gcd x y=Nat.gcd a b:=by
 have e1:t*x+v*y=a:=by
  have C:t*x+t*v*b=t*u*a:=by rw[←Nat.mul_assoc t u a |>.symm,Nat.mul_assoc t v b,←Nat.mul_add,D]
  have G:v*y+v*s*a=v*t*b:=by rw[Nat.mul_assoc,Nat.mul_assoc,←Nat.mul_add,F]
  have I:t*u*a=v*s*a+a:=by rw[Nat.mul_comm t u,k,Nat.add_mul,Nat.one_mul]
  have L:t*v*b=v*t*b:=by rw[Nat.mul_comm t v]
  omega
 have M:s*x+u*y=b:=by
  have C:s*x+s*v*b=s*u*a:=by rw[Nat.mul_assoc,Nat.mul_assoc,←Nat.mul_add,D]
  have G:u*y+u*s*a=u*t*b:=by rw[Nat.mul_assoc,Nat.mul_assoc,←Nat.mul_add,F]
  have I:u*t*b=v*s*b+b:=by rw[k,Nat.add_mul,Nat.one_mul]
  have L:s*u*a=u*s*a:=by rw[Nat.mul_comm s u]
  have S:s*v*b=v*s*b:=by rw[Nat.mul_comm s v]
  omega
 apply Nat.dvd_antisymm
 ·apply Nat.dvd_gcd
  ·rw[←e1];exact Nat.dvd_add (Nat.dvd_mul_left_of_dvd (Nat.gcd_dvd_left x y) t) (Nat.dvd_mul_left_of_dvd (Nat.gcd_dvd_right x y) v)
  ·rw[←M];exact Nat.dvd_add (Nat.dvd_mul_left_of_dvd (Nat.gcd_dvd_left x y) s) (Nat.dvd_mul_left_of_dvd (Nat.gcd_dvd_right x y) u)
 ·apply Nat.dvd_gcd
  ·have C:Nat.gcd a b∣x+v*b:=by rw[D];exact Nat.dvd_mul_left_of_dvd (Nat.gcd_dvd_left a b) u
   exact(Nat.dvd_add_left (Nat.dvd_mul_left_of_dvd (Nat.gcd_dvd_right a b) v)).1 C
  ·have C:Nat.gcd a b∣y+s*a:=by rw[F];exact Nat.dvd_mul_left_of_dvd (Nat.gcd_dvd_right a b) t
   exact(Nat.dvd_add_left (Nat.dvd_mul_left_of_dvd (Nat.gcd_dvd_left a b) s)).1 C
theorem HQ {a b x y P u v w:Nat} (k:x*P≤a) (D:b<(y+1)*P) (C:u*x=w+v*y) (F:v≤w):v*b≤u*a:=by
 have G:u*(x*P)≤u*a:=Nat.mul_le_mul_left _ k
 have I:v*b≤v*((y+1)*P):=Nat.mul_le_mul_left _ (by omega)
 have L:v*((y+1)*P)≤u*(x*P):=by
  rw[←Nat.mul_assoc,←Nat.mul_assoc]
  apply Nat.mul_le_mul_right
  rw[C,Nat.mul_add];omega
 omega
end Gx

namespace Gx
open Go
section
variable {R:Type}
def Ae (l:List Nat):LA:=l.map fun n:Nat=>.int .u32 (n:Int)
theorem DA (x:Nat) (l:List Nat):Ae (x::l)=.int .u32 (x:Int)::Ae l:=rfl
theorem B4 (l:List Nat):(Ae l).length=l.length:=by simp[Ae]
theorem A4a (l:List Nat) (n:Nat):(Ae l).drop n=Ae (l.drop n):=by simp[Ae,List.map_drop]
theorem Wg (l:List Nat) (n:Nat):(Ae l).take n=Ae (l.take n):=by simp[Ae,List.map_take]
theorem nL (l:List Nat) (j:Nat) (v:Nat):List.set (Ae l) j (.int .u32 (v:Int))=Ae (l.set j v):=by simp[Ae,List.map_set]
theorem Db (n:Nat):List.replicate n (AV.int .u32 0)=Ae (List.replicate n 0):=by simp[Ae]
theorem Aug {l:List Nat} {i:Nat} (h:i<l.length) {f:Int→O R}:An .u32 (List.drop i (Ae l)) f=f (l[i]:Nat):=by
 rw[A4a,List.drop_eq_getElem_cons h,DA,Ay]
theorem HR:∀ l:List Nat,Bb (Ae l)=true
 | []=>rfl
 | x::r=>by rw[DA,Bb];exact HR r
theorem ND (a b:Nat):(a:Int)+(b:Int)=((a+b:Nat):Int):=by omega
theorem Abd (a b:Nat):(a:Int)*(b:Int)=((a*b:Nat):Int):=by simp
theorem Ja {a:Nat} (h:a<18446744073709551616):IntKind.wrap .u64 (a:Int)=(a:Int):=wrap_u64 a h
theorem A2q {a:Nat} (h:a<4294967296):IntKind.wrap .u32 (a:Int)=(a:Int):=wrap_u32 a h
theorem lD (a:Nat):IntKind.wrap .u32 (a:Int)=((a%4294967296:Nat):Int):=A39 a
theorem lE (a:Int):IntKind.wrap .u64 a=a%18446744073709551616:=IntKind.wrap_u64 a
theorem ry {a b:Nat} (k:a<18446744073709551616) (C:b≤a):IntKind.wrap .u64 ((a:Int) - (b:Int))=((a - b:Nat):Int):=by rw[lE];omega
theorem A7m {a b:Nat} (h:a<b) (k:b≤18446744073709551616):IntKind.wrap .u64 ((a:Int) - (b:Int))=((18446744073709551616+a - b:Nat):Int):=by rw[lE];omega
theorem rz (a:Nat):Int.fdiv (a:Int) (2 ^ 32)=((a/4294967296:Nat):Int):=T5 a 32
theorem Bdk (a:Nat):Int.fdiv (a:Int) (2 ^ 63)=((a/9223372036854775808:Nat):Int):=T5 a 63
theorem i64 {a:Int} (h:-9223372036854775808≤a∧a≤9223372036854775807):IntKind.wrap .i64 a=a:=Yb a h
theorem Ayz {a b:Nat} (k:a<18446744073709551616) (C:b<18446744073709551616):Ta .u64 (a:Int) (b:Int)=((a ||| b:Nat):Int):=Al7 rfl k C
theorem sA {a b k:Nat} (h:b<2 ^ k):a*2 ^ k ||| b=a*2 ^ k+b:=by
 rw[←Nat.shiftLeft_eq,Nat.shiftLeft_add_eq_or_of_lt h]
end
end Gx

namespace Gx
open Go Go.Proofs
open IntKind (wrap)
set_option maxRecDepth 100000
noncomputable section
variable {R:Type} (N:Nat)
def muts:Nat→List Bool:=Bbc [(13,[true,false,false]),(14,[true,false]),(44,[true]),(63,[false,false,true,false]),(66,[false,true,false]),(106,[true,false]),(107,[true,false,false]),(109,[true,false,false,false,false]),(110,[true,false,false,false]),(111,[true,false,false,false]),(119,[false,true]),(120,[false,true,true,true,true,true,true,true,true]),(137,[false,true,true,true,true,true,true,true,true]),(138,[false,true]),(148,[false,true]),(151,[true,false]),(152,[true,false]),(153,[true,false,false,false]),(154,[true,false,false,false,false,false,false,false]),(155,[true,false,false,false,false,false]),(157,[true,false,false]),(158,[true,false,false]),(159,[true,false,false]),(160,[true,false,false]),(161,[true,false,false]),(171,[true]),(185,[true,false,false,false,false,false]),(187,[true,false,false,false,false,false]),(188,[true,false,false]),(203,[true,false]),(206,[false,true,true,true,true,true,true,true,true])]
def Jw {R:Type}:=@Be6 R Tryz.prog muts
abbrev Ch {R:Type}:=@VL R Tryz.prog muts
abbrev Ap:=@Bb8 Tryz.prog muts
theorem follows:Tryz.prog.follows .mixedOrders=true:=by kernel_rfl
theorem Ce {N f:Nat} {run:(R:Type)→Nat→LA→Am→KF R→O R} (H:Ap N f run):A9w Tryz.prog f (A1 H):=Bej H follows
def Dj:Hints:={ H:=hL }
def N8:Hints:={ H:=hL,modes:=[(3,0)] }
def A7n:Hints:={ H:=hL,modes:=[(3,0),(0,0)] }
def uk:Hints:={ H:=(hS hL (hS hL (hS (hS (hP [0,3] hL) hL) hL))),nils:=[(2,1)],modes:=[(2,1)] }
def A7o:Hints:={ H:=hL,nils:=[(2,1)],modes:=[(2,1)] }
def Ama:Hints:={ H:=(hS hL (hS hL (hS hL (hS (hS hL (hS (hP [0,1,5] hL) hL)) hL)))) }
end
end Gx

namespace Gx
open Go Go.Proofs
open IntKind (wrap)
set_option maxRecDepth 100000
noncomputable section
variable {R:Type} (N:Nat)
def BX (N:Nat) (r0:Nat→LA→O R) (d:LA) (c:Nat) (f e:Bool) (k0:Int→O R) (b:Int):O R :=
 (cond ((decide (b>0))==true) (cond (Ac (wrap .i64 (b - 1)) c) (An .u32 (d.drop (((wrap .i64 (b - 1)).toNat)*1)) fun g=>(cond (cond true (g==0) false) (k0 (wrap .i64 (b - 1))) (cond ((decide ((0:Int)≤(0:Int)))&&((decide (0≤b))&&((decide (b≤((c:Nat):Int)))&&(decide (((c:Nat):Int)≤((c:Nat):Int)))))) (cond ((!e)||(Bb (d.take ((b.toNat)*1)))) (cond ((Nat.ble (0+(b.toNat)) 140737488355328)&&(Nat.ble ((0+(b.toNat))*4) 140737488355328)) (r0 (0+(b.toNat)) (d.take ((b.toNat)*1))) none) none) none))) none) (cond ((decide ((0:Int)≤(0:Int)))&&((decide (0≤b))&&((decide (b≤((c:Nat):Int)))&&(decide (((c:Nat):Int)≤((c:Nat):Int)))))) (cond ((!e)||(Bb (d.take ((b.toNat)*1)))) (cond ((Nat.ble (0+(b.toNat)) 140737488355328)&&(Nat.ble ((0+(b.toNat))*4) 140737488355328)) (r0 (0+(b.toNat)) (d.take ((b.toNat)*1))) none) none) none))
def N9 (r0:Nat→LA→O R) (d:LA) (c:Nat) (f e:Bool):Nat→Int→O R
 | 0,_=>none
 | n+1,b=>(BX N r0 d c f e (N9 r0 d c f e n) b)
def NE (N:Nat) (r0:Nat→LA→O R) (q0:Int→O R) (d:LA) (c:Nat) (f e:Bool):O R :=
 (q0 ((c:Nat):Int))
def D1:=(Ah (fun (N:Nat) (d:LA) (c:Nat) (f e:Bool) (r0:Nat→LA→O R)=>(NE N r0 (fun b=>(N9 N r0 d c f e N b)) d c f e))).1
theorem SF (d c f e r0):(@D1 R N d c f e r0)=(NE N r0 (fun b=>(N9 N r0 d c f e N b)) d c f e):=by rw[D1,(Ah _).2]
def Auh (F:KF R):=Jw Tryz.f143 uk [] [] N F
def Yc (F:KF R):Nat→LA→O R:=(fun i l=>F (.own 300000 0 i) (hq [(bQ 1 l)]))
def Aui (d:LA) (c:Nat) (f e:Bool) (b:Int):St:=⟨[(0,(.imm d c 1 f e)),(3,(iv b))],[]⟩
def Auj (F:KF R):=Auh N F [1,1,0,0] []
theorem aW (F:KF R) (d:LA) (c:Nat) (f e:Bool):∀ (n:Nat) (b:Int),Ao (Auj N F) n (Aui d c f e b)=(N9 N (Yc F) d c f e n b)
 | 0,_=>by kernel_rfl
 | n+1,b=>Eq.trans (by kernel_rfl) (Bp (BX N (Yc F) d c f e · b) (funext fun b=>(aW F d c f e n b)):_)
theorem um (d:LA) (c:Nat) (f e:Bool) (F:KF R):Ch [] uk N 143 [(.imm d c 1 f e)] [] F=(D1 N d c f e (Yc F)):=by
 rw[SF]
 exact Eq.trans (by kernel_rfl) (Bp (NE N (Yc F) · d c f e) (funext fun b=>(Aj ..).trans (aW N F d c f e N b)):_)
def nM (a:LA) (h:Am) (k:KF R):O R :=
 match a,h with
 | [(.imm d c 1 f e)],[]=>(D1 N d c f e (Yc k))
 | _,_=>none
theorem un:Ap N 143 @nM:=by
 intro R Q a h k j;unfold nM;split;exact A0 (um ..) (um ..) trivial;exact A3
def G6:=A1 (un N)
def G7:=Ce (un N)
def Zr (b:Int) (r0:Nat→LA→O R):O R :=
 (D1 N [(.int .u32 (wrap .u32 b)),(.int .u32 (wrap .u32 (Int.fdiv b (2 ^ 32))))] 2 false true (fun c d=>(r0 c d)))
def F4:=(Ah (@Zr R)).1
theorem EC:@F4 R=@Zr R:=(Ah _).2
def sB:D9:=[(143,G6 N)]
def HS (F:KF R):Nat→LA→O R:=(fun e f=>F (.own 300000 0 e) (hq [(bQ 1 f)]))
theorem HT (b:Int) (F:KF R):Ch (sB N) A7o N 94 [(.int .u64 b)] [] F=(F4 N b (HS F)):=by
 rw[EC]
 kernel_rfl
def ED (a:LA) (h:Am) (k:KF R):O R :=
 match a,h with
 | [(.int .u64 b)],[]=>(F4 N b (HS k))
 | _,_=>none
theorem HU:Ap N 94 @ED:=by
 intro R Q a h k j;unfold ED;split;exact A0 (HT ..) (HT ..) ⟨G7 N,trivial⟩;exact A3
def HV:=A1 (HU N)
def HW:=Ce (HU N)
def sC (b:Bool) (c:LA) (d:Nat) (f e:Bool) (r0:LA→O R):O R :=
 (D1 N c d false e (fun g i=>(cond (b==true) (r0 [(.bool (cond true (decide (((g:Nat):Int)>0)) false)),(.imm (i.take (g*1)) g 1 false false)]) (r0 [(.bool false),(.imm (i.take (g*1)) g 1 false false)]))))
def Gz:=(Ah (@sC R)).1
theorem nN:@Gz R=@sC R:=(Ah _).2
def Ay0:D9:=[(143,G6 N)]
def uo (F:KF R):LA→O R:=(fun l=>F (.pagg l false) [])
theorem uq (b:Bool) (c:LA) (d:Nat) (f e:Bool) (F:KF R):Ch (Ay0 N) N8 N 93 [(.bool b),(.imm c d 1 f e)] [] F=(Gz N b c d f e (uo F)):=by
 rw[nN]
 kernel_rfl
def nO (a:LA) (h:Am) (k:KF R):O R :=
 match a,h with
 | [(.bool b),(.imm c d 1 f e)],[]=>(Gz N b c d f e (uo k))
 | _,_=>none
theorem ur:Ap N 93 @nO:=by
 intro R Q a h k j;unfold nO;split;exact A0 (uq ..) (uq ..) ⟨G7 N,trivial⟩;exact A3
def Kx:=A1 (ur N)
def Ky:=Ce (ur N)
def SG (b:Int) (r0:LA→O R):O R :=
 (cond (decide (b<0)) (F4 N (wrap .u64 ((wrap .u64 (wrap .i64 ((0:Int) - (wrap .i64 (b+1)))))+1)) (fun e g=>(Gz N true (g.take (e*1)) e false true (fun c=>(cond ((Nat.beq 0 0)&&((Nat.beq (c.length) 2)&&(Nat.beq 2 2))) (cond (Nat.ble 2 (c.length)) (r0 (c.take 2)) none) none))))) (F4 N (wrap .u64 b) (fun f i=>(Gz N false (i.take (f*1)) f false true (fun d=>(cond ((Nat.beq 0 0)&&((Nat.beq (d.length) 2)&&(Nat.beq 2 2))) (cond (Nat.ble 2 (d.length)) (r0 (d.take 2)) none) none))))))
def Kz:=(Ah (@SG R)).1
theorem VT:@Kz R=@SG R:=(Ah _).2
def Ai2:D9:=[(94,HV N),(93,Kx N)]
def aX (F:KF R):LA→O R:=(fun l=>F (.pagg l false) [])
theorem aY (b:Int) (F:KF R):Ch (Ai2 N) N8 N 55 [(iv b)] [] F=(Kz N b (aX F)):=by
 rw[VT]
 kernel_rfl
def VU (a:LA) (h:Am) (k:KF R):O R :=
 match a,h with
 | [(.int .i64 b)],[]=>(Kz N b (aX k))
 | _,_=>none
theorem aZ:Ap N 55 @VU:=by
 intro R Q a h k j;unfold VU;split;exact A0 (aY ..) (aY ..) ⟨HW N,Ky N,trivial⟩;exact A3
def a6:=A1 (aZ N)
def a7:=Ce (aZ N)
def sD (b:LA) (c:Bool) (r0:LA→O R):O R :=
 (NC b fun e=>(Co 1 (b.drop 1) fun f g=>(Gz N e f g false c (fun d=>(cond ((Nat.beq 0 0)&&((Nat.beq (d.length) 2)&&(Nat.beq 2 2))) (cond (Nat.ble 2 (d.length)) (r0 (d.take 2)) none) none)))))
def EE:=(Ah (@sD R)).1
theorem nP:@EE R=@sD R:=(Ah _).2
def Ay1:D9:=[(93,Kx N)]
def ut (F:KF R):LA→O R:=(fun i=>F (.pagg i false) [])
theorem uv (b:LA) (c:Bool) (F:KF R):Ch (Ay1 N) N8 N 88 [(.pagg b c)] [] F=(EE N b c (ut F)):=by
 rw[nP]
 kernel_rfl
def nQ (a:LA) (h:Am) (k:KF R):O R :=
 match a,h with
 | [(.pagg b c)],[]=>(EE N b c (ut k))
 | _,_=>none
theorem uw:Ap N 88 @nQ:=by
 intro R Q a h k j;unfold nQ;split;exact A0 (uv ..) (uv ..) ⟨Ky N,trivial⟩;exact A3
def ux:=A1 (uw N)
def uy:=Ce (uw N)
def sE (b:LA) (c:Bool) (r0:Int→O R):O R :=
 (cond (Nat.ble 2 (b.length)) (EE N (b.take 2) c (fun d=>(cond ((Nat.beq (d.length) 2)&&((Nat.ble 2 (b.length))&&(!false))) (NC (setCells b 0 d) fun e=>(cond e (r0 (-1)) (Co 1 ((setCells b 0 d).drop 1) fun i f=>(cond (((f:Nat):Int)==0) (r0 0) (r0 1))))) none))) none)
def EF:=(Ah (@sE R)).1
theorem nR:@EF R=@sE R:=(Ah _).2
def Ay2:D9:=[(88,ux N)]
def uz (F:KF R):Int→O R:=(fun g=>F (iv g) [])
theorem vA (b:LA) (c:Bool) (F:KF R):Ch (Ay2 N) Dj N 75 [(.pagg b c)] [] F=(EF N b c (uz F)):=by
 rw[nR]
 kernel_rfl
def nS (a:LA) (h:Am) (k:KF R):O R :=
 match a,h with
 | [(.pagg b c)],[]=>(EF N b c (uz k))
 | _,_=>none
theorem vB:Ap N 75 @nS:=by
 intro R Q a h k j;unfold nS;split;exact A0 (vA ..) (vA ..) ⟨uy N,trivial⟩;exact A3
def vC:=A1 (vB N)
def vD:=Ce (vB N)
def sF (N:Nat) (r0:LA→O R):O R :=
 (r0 [(.bool false),(.imm [] 0 1 false false),(.imm [(.int .u32 1)] 1 1 false false)])
def a8:=(Ah (@sF R)).1
theorem nT:@a8 R=@sF R:=(Ah _).2
def vE (F:KF R):LA→O R:=(fun b=>F (.pagg b false) [])
theorem vF (F:KF R):Ch [] N8 N 41 [] [] F=(a8 N (vE F)):=by
 rw[nT]
 kernel_rfl
def nU (a:LA) (h:Am) (k:KF R):O R :=
 match a,h with
 | [],[]=>(a8 N (vE k))
 | _,_=>none
theorem vG:Ap N 41 @nU:=by
 intro R Q a h k j;unfold nU;split;exact A0 (vF ..) (vF ..) trivial;exact A3
def Auk:=A1 (vG N)
def Aul:=Ce (vG N)
def Xc (N:Nat) (r0:Bool→O R) (d:LA) (b:Nat) (f g:Bool) (e:LA) (c:Nat) (i l:Bool) (k0:Int→O R) (m:Int):O R :=
 (cond (decide (m<((b:Nat):Int))) (cond (Ac m b) (An .u32 (d.drop ((m.toNat)*1)) fun o=>(cond (Ac m c) (An .u32 (e.drop ((m.toNat)*1)) fun p=>(cond (o != p) (r0 false) (k0 (wrap .i64 (m+1))))) none)) none) (r0 true))
def Lg (r0:Bool→O R) (d:LA) (b:Nat) (f g:Bool) (e:LA) (c:Nat) (i l:Bool):Nat→Int→O R
 | 0,_=>none
 | n+1,m=>(Xc N r0 d b f g e c i l (Lg r0 d b f g e c i l n) m)
def SH (N:Nat) (r0:Bool→O R) (q0:Int→O R) (d:LA) (b:Nat) (f g:Bool) (e:LA) (c:Nat) (i l:Bool):O R :=
 (cond (((b:Nat):Int) != ((c:Nat):Int)) (r0 false) (q0 0))
def DB:=(Ah (fun (N:Nat) (d:LA) (b:Nat) (f g:Bool) (e:LA) (c:Nat) (i l:Bool) (r0:Bool→O R)=>(SH N r0 (fun m=>(Lg N r0 d b f g e c i l N m)) d b f g e c i l))).1
theorem iJ (d b f g e c i l r0):(@DB R N d b f g e c i l r0)=(SH N r0 (fun m=>(Lg N r0 d b f g e c i l N m)) d b f g e c i l):=by rw[DB,(Ah _).2]
def nV:Hints:={ H:=(hS hL (hS hL (hS (hS hL (hS (hP [0,1,5] hL) hL)) hL))) }
def Apy (F:KF R):=Jw Tryz.f89 nV [] [] N F
def T6 (F:KF R):Bool→O R:=(fun q=>F (.bool q) [])
def Apz (d:LA) (b:Nat) (f g:Bool) (e:LA) (c:Nat) (i l:Bool) (m:Int):St:=⟨[(0,(.imm d b 1 f g)),(1,(.imm e c 1 i l)),(5,(iv m))],[]⟩
def Ap0 (F:KF R):=Apy N F [1,1,0,1,0] []
theorem VV (F:KF R) (d:LA) (b:Nat) (f g:Bool) (e:LA) (c:Nat) (i l:Bool):∀ (n:Nat) (m:Int),Ao (Ap0 N F) n (Apz d b f g e c i l m)=(Lg N (T6 F) d b f g e c i l n m)
 | 0,_=>by kernel_rfl
 | n+1,m=>Eq.trans (by kernel_rfl) (Bp (Xc N (T6 F) d b f g e c i l · m) (funext fun m=>(VV F d b f g e c i l n m)):_)
theorem nW (d:LA) (b:Nat) (f g:Bool) (e:LA) (c:Nat) (i l:Bool) (F:KF R):Ch [] nV N 89 [(.imm d b 1 f g),(.imm e c 1 i l)] [] F=(DB N d b f g e c i l (T6 F)):=by
 rw[iJ]
 exact Eq.trans (by kernel_rfl) (Bp (SH N (T6 F) · d b f g e c i l) (funext fun m=>(Aj ..).trans (VV N F d b f g e c i l N m)):_)
def iK (a:LA) (h:Am) (k:KF R):O R :=
 match a,h with
 | [(.imm d b 1 f g),(.imm e c 1 i l)],[]=>(DB N d b f g e c i l (T6 k))
 | _,_=>none
theorem nX:Ap N 89 @iK:=by
 intro R Q a h k j;unfold iK;split;exact A0 (nW ..) (nW ..) trivial;exact A3
def Ap1:=A1 (nX N)
def Ap2:=Ce (nX N)
def F5 (N:Nat) (r0:Int→Bool→O R) (b:Nat) (d:LA) (k0:Int→Int→O R) (e c:Int):O R :=
 (cond (decide (c≥0)) (cond (Ac c b) (An .u32 (d.drop (0+((c.toNat)*1))) fun m=>(k0 (Ta .u64 (wrap .u64 (e*2 ^ 32)) (wrap .u64 m)) (wrap .i64 (c - 1)))) none) (r0 e true))
def Ej (r0:Int→Bool→O R) (b:Nat) (d:LA):Nat→Int→Int→O R
 | 0,_,_=>none
 | n+1,e,c=>(F5 N r0 b d (Ej r0 b d n) e c)
def HX (r0:Int→Bool→O R) (q0:Nat→LA→Int→Int→O R) (f:LA) (g:Nat) (l i:Bool):O R :=
 (D1 N f g false i (fun b d=>(cond (decide (((b:Nat):Int)>2)) (r0 0 false) (q0 b d 0 (wrap .i64 (((b:Nat):Int) - 1))))))
def Se:=(Ah (fun (N:Nat) (f:LA) (g:Nat) (l i:Bool) (r0:Int→Bool→O R)=>(HX N r0 (fun b d e c=>(Ej N r0 b d N e c)) f g l i))).1
theorem a9 (f g l i r0):(@Se R N f g l i r0)=(HX N r0 (fun b d e c=>(Ej N r0 b d N e c)) f g l i):=by rw[Se,(Ah _).2]
def iL:Hints:={ H:=(hS hL (hS hL (hS hL (hS hL (hS (hS hL (hS (hP [0,4,5] hL) hL)) hL))))) }
def nY:D9:=[(143,G6 N)]
def Ai3 (F:KF R):=Jw Tryz.f178 iL (nY N) [] N F
def Qs (F:KF R):Int→Bool→O R:=(fun o p=>F (.tup [(.int .u64 o),(.bool p)]) [])
def Ai4 (b:Nat) (d:LA) (e c:Int):St:=⟨[(0,(.own 300000 0 b)),(4,(.int .u64 e)),(5,(iv c))],(hq [(bQ 1 d)])⟩
def Ai5 (F:KF R):=Ai3 N F [1,1,1,1,0,1,0] []
theorem NF (F:KF R) (b:Nat) (d:LA):∀ (n:Nat) (e c:Int),Ao (Ai5 N F) n (Ai4 b d e c)=(Ej N (Qs F) b d n e c)
 | 0,_,_=>by kernel_rfl
 | n+1,e,c=>Eq.trans (by kernel_rfl) (Bp (F5 N (Qs F) b d · e c) (funext fun e=>funext fun c=>(NF F b d n e c)):_)
theorem iM (f:LA) (g:Nat) (l i:Bool) (F:KF R):Ch (nY N) iL N 178 [(.imm f g 1 l i)] [] F=(Se N f g l i (Qs F)):=by
 rw[a9]
 exact Eq.trans (by kernel_rfl) (Bp (HX N (Qs F) · f g l i) (funext fun b=>funext fun d=>funext fun e=>funext fun c=>(Aj ..).trans (NF N F b d N e c)):_)
def a_ (a:LA) (h:Am) (k:KF R):O R :=
 match a,h with
 | [(.imm f g 1 l i)],[]=>(Se N f g l i (Qs k))
 | _,_=>none
theorem iN:Ap N 178 @a_:=by
 intro R Q a h k j;unfold a_;split;exact A0 (iM ..) (iM ..) ⟨G7 N,trivial⟩;exact A3
def Ai6:=A1 (iN N)
def Ai7:=Ce (iN N)
def T7 (N:Nat) (r0:Int→O R) (k0:Int→Int→O R) (b c:Int):O R :=
 (cond (decide (c>0)) (k0 (wrap .i64 (b+1)) (Int.fdiv c (2 ^ 1))) (r0 b))
def K3 (r0:Int→O R):Nat→Int→Int→O R
 | 0,_,_=>none
 | n+1,b,c=>(T7 N r0 (K3 r0 n) b c)
def NG (r0:Int→O R) (q0:Int→Int→O R) (d:LA) (e:Nat) (g f:Bool):O R :=
 (D1 N d e false f (fun i l=>(cond (((i:Nat):Int)==0) (r0 0) (cond (Ac (wrap .i64 (((i:Nat):Int) - 1)) i) (An .u32 (l.drop (0+(((wrap .i64 (((i:Nat):Int) - 1)).toNat)*1))) fun m=>(q0 (wrap .i64 (32*(wrap .i64 (((i:Nat):Int) - 1)))) m)) none))))
def NH:=(Ah (fun (N:Nat) (d:LA) (e:Nat) (g f:Bool) (r0:Int→O R)=>(NG N r0 (fun b c=>(K3 N r0 N b c)) d e g f))).1
theorem SI (d e g f r0):(@NH R N d e g f r0)=(NG N r0 (fun b c=>(K3 N r0 N b c)) d e g f):=by rw[NH,(Ah _).2]
def vH:Hints:={ H:=(hS hL (hS hL (hS hL (hS hL (hS (hS hL (hS (hP [3,4] hL) hL)) hL))))) }
def Abe:D9:=[(143,G6 N)]
def Aum (F:KF R):=Jw Tryz.f179 vH (Abe N) [] N F
def Yd (F:KF R):Int→O R:=(fun o=>F (iv o) [])
def Aun (b c:Int):St:=⟨[(3,(iv b)),(4,(.int .u32 c))],[]⟩
def Auo (F:KF R):=Aum N F [1,1,1,1,0,1,0] []
theorem bA (F:KF R):∀ (n:Nat) (b c:Int),Ao (Auo N F) n (Aun b c)=(K3 N (Yd F) n b c)
 | 0,_,_=>by kernel_rfl
 | n+1,b,c=>Eq.trans (by kernel_rfl) (Bp (T7 N (Yd F) · b c) (funext fun b=>funext fun c=>(bA F n b c)):_)
theorem vI (d:LA) (e:Nat) (g f:Bool) (F:KF R):Ch (Abe N) vH N 179 [(.imm d e 1 g f)] [] F=(NH N d e g f (Yd F)):=by
 rw[SI]
 exact Eq.trans (by kernel_rfl) (Bp (NG N (Yd F) · d e g f) (funext fun b=>funext fun c=>(Aj ..).trans (bA N F N b c)):_)
def nZ (a:LA) (h:Am) (k:KF R):O R :=
 match a,h with
 | [(.imm d e 1 g f)],[]=>(NH N d e g f (Yd k))
 | _,_=>none
theorem vJ:Ap N 179 @nZ:=by
 intro R Q a h k j;unfold nZ;split;exact A0 (vI ..) (vI ..) ⟨G7 N,trivial⟩;exact A3
def Aup:=A1 (vJ N)
def Auq:=Ce (vJ N)
def EG (N:Nat) (k0:Nat→Int→Int→LA→O R) (r0:Nat→LA→O R) (d:LA) (b:Nat) (f g:Bool) (e:LA) (c:Nat) (i l:Bool) (m:Nat) (o:LA) (s q:Int):O R :=
 (cond (decide (q<((c:Nat):Int))) (cond (Ac q c) (An .u32 (e.drop ((q.toNat)*1)) fun t=>(cond (Ac q m) (cond ((Nat.beq 1 1)&&((Nat.ble ((0+((q.toNat)*1))+1) (o.length))&&(!false))) (k0 m (Int.fdiv (wrap .u64 (s+(wrap .u64 t))) (2 ^ 32)) (wrap .i64 (q+1)) (o.set (0+((q.toNat)*1)) (.int .u32 (wrap .u32 (wrap .u64 (s+(wrap .u64 t))))))) none) none)) none) (cond (Ac q m) (cond ((Nat.beq 1 1)&&((Nat.ble ((0+((q.toNat)*1))+1) (o.length))&&(!false))) (k0 m (Int.fdiv s (2 ^ 32)) (wrap .i64 (q+1)) (o.set (0+((q.toNat)*1)) (.int .u32 (wrap .u32 s)))) none) none))
def HY (r0:Nat→LA→O R) (d:LA) (b:Nat) (f g:Bool) (e:LA) (c:Nat) (i l:Bool) (k0:Nat→Int→Int→LA→O R) (q1:Int→Int→O R) (m:Nat) (r p:Int) (o:LA):O R :=
 (cond (decide (p<((m:Nat):Int))) (cond (decide (p<((b:Nat):Int))) (cond (Ac p b) (An .u32 (d.drop ((p.toNat)*1)) fun u=>(q1 (wrap .u64 (r+(wrap .u64 u))) p)) none) (q1 r p)) (D1 N (o.take (m*1)) m false true (fun v w=>(r0 v w))))
def Jc (r0:Nat→LA→O R) (d:LA) (b:Nat) (f g:Bool) (e:LA) (c:Nat) (i l:Bool):Nat→Nat→Int→Int→LA→O R
 | 0,_,_,_,_=>none
 | n+1,m,r,p,o=>(HY N r0 d b f g e c i l (Jc r0 d b f g e c i l n) (fun s q=>(EG N (Jc r0 d b f g e c i l n) r0 d b f g e c i l m o s q)) m r p o)
def n0 (N:Nat) (r0:Nat→LA→O R) (q0:Nat→Int→Int→LA→O R) (d:LA) (b:Nat) (f g:Bool) (e:LA) (c:Nat) (i l:Bool):O R :=
 (cond ((decide (0≤(wrap .i64 ((Gc ((b:Nat):Int) ((c:Nat):Int))+1))))&&((decide ((wrap .i64 ((Gc ((b:Nat):Int) ((c:Nat):Int))+1))≤(wrap .i64 ((Gc ((b:Nat):Int) ((c:Nat):Int))+1))))&&((decide ((wrap .i64 ((Gc ((b:Nat):Int) ((c:Nat):Int))+1))≤140737488355328))&&(decide (((wrap .i64 ((Gc ((b:Nat):Int) ((c:Nat):Int))+1))*((4:Nat):Int))≤140737488355328))))) (q0 ((wrap .i64 ((Gc ((b:Nat):Int) ((c:Nat):Int))+1)).toNat) 0 0 (List.replicate ((wrap .i64 ((Gc ((b:Nat):Int) ((c:Nat):Int))+1)).toNat) (.int .u32 0))) none)
def HZ:=(Ah (fun (N:Nat) (d:LA) (b:Nat) (f g:Bool) (e:LA) (c:Nat) (i l:Bool) (r0:Nat→LA→O R)=>(n0 N r0 (fun m r p o=>(Jc N r0 d b f g e c i l N m r p o)) d b f g e c i l))).1
theorem vK (d b f g e c i l r0):(@HZ R N d b f g e c i l r0)=(n0 N r0 (fun m r p o=>(Jc N r0 d b f g e c i l N m r p o)) d b f g e c i l):=by rw[HZ,(Ah _).2]
def Abf:Hints:={ H:=(hS hL (hS hL (hS hL (hS (hS hL (hS (hP [0,1,5,6,7] (hS hL (hS (hS (hJ [0,1,5,6,7] hL hL) hL) hL))) hL)) hL)))),nils:=[(4,1)],modes:=[(2,1)] }
def Amb:D9:=[(143,G6 N)]
def Abg (F:KF R):=Jw Tryz.f122 Abf (Amb N) [] N F
def Sf (F:KF R):Nat→LA→O R:=(fun x y=>F (.own 300000 0 x) (hq [(bQ 1 y)]))
def Ay3 (d:LA) (b:Nat) (f g:Bool) (e:LA) (c:Nat) (i l:Bool) (m:Nat) (o:LA) (s q:Int):St:=⟨[(0,(.imm d b 1 f g)),(1,(.imm e c 1 i l)),(5,(.own 300000 0 m)),(6,(.int .u64 s)),(7,(iv q))],(hq [(bQ 1 o)])⟩
def Ay4 (F:KF R) (Q0:St→O R):=Abg N F [1,1,1,0,1,0,0,1,0,0,1] [Q0]
def Abh (d:LA) (b:Nat) (f g:Bool) (e:LA) (c:Nat) (i l:Bool) (m:Nat) (r p:Int) (o:LA):St:=⟨[(0,(.imm d b 1 f g)),(1,(.imm e c 1 i l)),(5,(.own 300000 0 m)),(6,(.int .u64 r)),(7,(iv p))],(hq [(bQ 1 o)])⟩
def Abi (F:KF R):=Abg N F [1,1,1,0,1,0] []
theorem Ai8 (Q0:St→O R) (F:KF R) (d:LA) (b:Nat) (f g:Bool) (e:LA) (c:Nat) (i l:Bool) (m:Nat) (o:LA):∀ (s q:Int),A9 (Ay4 N F Q0) (Ay3 d b f g e c i l m o s q)=(EG N (fun m r p o=>Q0 (Abh d b f g e c i l m r p o)) (Sf F) d b f g e c i l m o s q):=by
 intro s q
 kernel_rfl
theorem iO (F:KF R) (d:LA) (b:Nat) (f g:Bool) (e:LA) (c:Nat) (i l:Bool):∀ (n m:Nat) (r p:Int) (o:LA),Ao (Abi N F) n (Abh d b f g e c i l m r p o)=(Jc N (Sf F) d b f g e c i l n m r p o)
 | 0,_,_,_,_=>by kernel_rfl
 | n+1,m,r,p,o=>have e0:=(funext fun m=>funext fun r=>funext fun p=>funext fun o=>(iO F d b f g e c i l n m r p o))
  Eq.trans (by kernel_rfl) (VS (HY N (Sf F) d b f g e c i l · · m r p o) e0 (funext fun s=>funext fun q=>(At ..).trans ((Ai8 N (Ao (Abi N F) n) F d b f g e c i l m o s q).trans (Bp (EG N · (Sf F) d b f g e c i l m o s q) e0))):_)
theorem Abj (d:LA) (b:Nat) (f g:Bool) (e:LA) (c:Nat) (i l:Bool) (F:KF R):Ch (Amb N) Abf N 122 [(.imm d b 1 f g),(.imm e c 1 i l)] [] F=(HZ N d b f g e c i l (Sf F)):=by
 rw[vK]
 exact Eq.trans (by kernel_rfl) (Bp (n0 N (Sf F) · d b f g e c i l) (funext fun m=>funext fun r=>funext fun p=>funext fun o=>(Aj ..).trans (iO N F d b f g e c i l N m r p o)):_)
def vL (a:LA) (h:Am) (k:KF R):O R :=
 match a,h with
 | [(.imm d b 1 f g),(.imm e c 1 i l)],[]=>(HZ N d b f g e c i l (Sf k))
 | _,_=>none
theorem Abk:Ap N 122 @vL:=by
 intro R Q a h k j;unfold vL;split;exact A0 (Abj ..) (Abj ..) ⟨G7 N,trivial⟩;exact A3
def Abl:=A1 (Abk N)
def Abm:=Ce (Abk N)
def Abn (N:Nat) (d:LA) (c:Nat) (e f:Bool) (b:Int) (r0:Int→O R):O R :=
 (cond (decide ((wrap .i64 (Int.tdiv b 32))≥((c:Nat):Int))) (r0 0) (cond (Ac (wrap .i64 (Int.tdiv b 32)) c) (An .u32 (d.drop (((wrap .i64 (Int.tdiv b 32)).toNat)*1)) fun g=>(cond (decide ((wrap .u64 (Int.tmod b 32))<0)) none (r0 (Ayw .u32 (Int.fdiv g (2 ^ (min ((wrap .u64 (Int.tmod b 32)).toNat) 32))) 1)))) none))
def n6:=(Ah (@Abn R)).1
theorem vM:@n6 R=@Abn R:=(Ah _).2
def Abo (F:KF R):Int→O R:=(fun i=>F (.int .u32 i) [])
theorem Abp (d:LA) (c:Nat) (e f:Bool) (b:Int) (F:KF R):Ch [] Dj N 180 [(.imm d c 1 e f),(iv b)] [] F=(n6 N d c e f b (Abo F)):=by
 rw[vM]
 kernel_rfl
def vN (a:LA) (h:Am) (k:KF R):O R :=
 match a,h with
 | [(.imm d c 1 e f),(.int .i64 b)],[]=>(n6 N d c e f b (Abo k))
 | _,_=>none
theorem Abq:Ap N 180 @vN:=by
 intro R Q a h k j;unfold vN;split;exact A0 (Abp ..) (Abp ..) trivial;exact A3
def Ay5:=A1 (Abq N)
def Ay6:=Ce (Abq N)
def Rr (N:Nat) (r0:Int→O R) (c d:Nat) (e f:LA) (k0:Int→O R) (b:Int):O R :=
 (cond (decide (b≥0)) (cond (Ac b c) (An .u32 (e.drop (0+((b.toNat)*1))) fun s=>(cond (Ac b d) (An .u32 (f.drop (0+((b.toNat)*1))) fun t=>(cond (decide (s<t)) (r0 (-1)) (cond (Ac b c) (An .u32 (e.drop (0+((b.toNat)*1))) fun u=>(cond (Ac b d) (An .u32 (f.drop (0+((b.toNat)*1))) fun v=>(cond (decide (u>v)) (r0 1) (k0 (wrap .i64 (b - 1))))) none)) none))) none)) none) (r0 0))
def Hq (r0:Int→O R) (c d:Nat) (e f:LA):Nat→Int→O R
 | 0,_=>none
 | n+1,b=>(Rr N r0 c d e f (Hq r0 c d e f n) b)
def BY (r0:Int→O R) (q0:Nat→Nat→LA→LA→Int→O R) (g:LA) (i:Nat) (q l:Bool) (m:LA) (o:Nat) (r p:Bool):O R :=
 (D1 N g i false l (fun c e=>(D1 N m o false p (fun d f=>(cond (((c:Nat):Int) != ((d:Nat):Int)) (cond (decide (((c:Nat):Int)<((d:Nat):Int))) (r0 (-1)) (r0 1)) (q0 c d e f (wrap .i64 (((c:Nat):Int) - 1))))))))
def Tb:=(Ah (fun (N:Nat) (g:LA) (i:Nat) (q l:Bool) (m:LA) (o:Nat) (r p:Bool) (r0:Int→O R)=>(BY N r0 (fun c d e f b=>(Hq N r0 c d e f N b)) g i q l m o r p))).1
theorem VW (g i q l m o r p r0):(@Tb R N g i q l m o r p r0)=(BY N r0 (fun c d e f b=>(Hq N r0 c d e f N b)) g i q l m o r p):=by rw[Tb,(Ah _).2]
def iP:D9:=[(143,G6 N)]
def Abr (F:KF R):=Jw Tryz.f168 Ama (iP N) [] N F
def Oa (F:KF R):Int→O R:=(fun w=>F (iv w) [])
def Abs (c d:Nat) (e f:LA) (b:Int):St:=⟨[(0,(.own 300000 0 c)),(1,(.own 300001 0 d)),(5,(iv b))],(hq [(bQ 1 e),(bQ 1 f)])⟩
def Abt (F:KF R):=Abr N F [1,1,1,0,1,0] []
theorem H_ (F:KF R) (c d:Nat) (e f:LA):∀ (n:Nat) (b:Int),Ao (Abt N F) n (Abs c d e f b)=(Hq N (Oa F) c d e f n b)
 | 0,_=>by kernel_rfl
 | n+1,b=>Eq.trans (by kernel_rfl) (Bp (Rr N (Oa F) c d e f · b) (funext fun b=>(H_ F c d e f n b)):_)
theorem bB (g:LA) (i:Nat) (q l:Bool) (m:LA) (o:Nat) (r p:Bool) (F:KF R):Ch (iP N) Ama N 168 [(.imm g i 1 q l),(.imm m o 1 r p)] [] F=(Tb N g i q l m o r p (Oa F)):=by
 rw[VW]
 exact Eq.trans (by kernel_rfl) (Bp (BY N (Oa F) · g i q l m o r p) (funext fun c=>funext fun d=>funext fun e=>funext fun f=>funext fun b=>(Aj ..).trans (H_ N F c d e f N b)):_)
def VX (a:LA) (h:Am) (k:KF R):O R :=
 match a,h with
 | [(.imm g i 1 q l),(.imm m o 1 r p)],[]=>(Tb N g i q l m o r p (Oa k))
 | _,_=>none
theorem bC:Ap N 168 @VX:=by
 intro R Q a h k j;unfold VX;split;exact A0 (bB ..) (bB ..) ⟨G7 N,trivial⟩;exact A3
def Abu:=A1 (bC N)
def Abv:=Ce (bC N)
def EH (N:Nat) (k0:Int→Int→LA→O R) (r0:Nat→Bool→LA→O R) (b d:Nat) (e f c:LA) (i m:Int):O R :=
 (cond (Ac i b) (An .u32 (e.drop (0+((i.toNat)*1))) fun w=>(cond (decide ((wrap .u64 w)<m)) (cond (Ac i b) (cond ((Nat.beq 1 1)&&((Nat.ble ((0+((i.toNat)*1))+1) (c.length))&&(!false))) (k0 1 (wrap .i64 (i+1)) (c.set (0+((i.toNat)*1)) (.int .u32 (wrap .u32 (wrap .u64 ((wrap .u64 ((wrap .u64 w)+4294967296)) - m)))))) none) none) (cond (Ac i b) (cond ((Nat.beq 1 1)&&((Nat.ble ((0+((i.toNat)*1))+1) (c.length))&&(!false))) (k0 0 (wrap .i64 (i+1)) (c.set (0+((i.toNat)*1)) (.int .u32 (wrap .u32 (wrap .u64 ((wrap .u64 w) - m)))))) none) none))) none)
def H' (r0:Nat→Bool→LA→O R) (b d:Nat) (e f:LA) (k0:Int→Int→LA→O R) (q1:Int→Int→O R) (l g:Int) (c:LA):O R :=
 (cond (decide (g<((b:Nat):Int))) (cond (decide (g<((d:Nat):Int))) (cond (Ac g d) (An .u32 (f.drop (0+((g.toNat)*1))) fun x=>(q1 g (wrap .u64 (l+(wrap .u64 x))))) none) (q1 g l)) (D1 N (c.take (b*1)) b false true (fun y z=>(r0 y true z))))
def Jd (r0:Nat→Bool→LA→O R) (b d:Nat) (e f:LA):Nat→Int→Int→LA→O R
 | 0,_,_,_=>none
 | n+1,l,g,c=>(H' N r0 b d e f (Jd r0 b d e f n) (fun i m=>(EH N (Jd r0 b d e f n) r0 b d e f c i m)) l g c)
def n7 (r0:Nat→Bool→LA→O R) (q0:Nat→Nat→LA→LA→Int→Int→LA→O R) (o:LA) (p:Nat) (u q:Bool) (r:LA) (s:Nat) (v t:Bool):O R :=
 (Tb N o p false q r s false t (fun aa=>(cond (decide (aa<0)) (r0 0 false []) (D1 N o p false q (fun b e=>(D1 N r s false t (fun d f=>(cond ((decide (0≤((b:Nat):Int)))&&((decide (((b:Nat):Int)≤((b:Nat):Int)))&&((decide (((b:Nat):Int)≤140737488355328))&&(decide ((((b:Nat):Int)*((4:Nat):Int))≤140737488355328))))) (q0 b d e f 0 0 (List.replicate b (.int .u32 0))) none))))))))
def IA:=(Ah (fun (N:Nat) (o:LA) (p:Nat) (u q:Bool) (r:LA) (s:Nat) (v t:Bool) (r0:Nat→Bool→LA→O R)=>(n7 N r0 (fun b d e f l g c=>(Jd N r0 b d e f N l g c)) o p u q r s v t))).1
theorem vO (o p u q r s v t r0):(@IA R N o p u q r s v t r0)=(n7 N r0 (fun b d e f l g c=>(Jd N r0 b d e f N l g c)) o p u q r s v t):=by rw[IA,(Ah _).2]
def Abw:Hints:={ H:=(hS hL (hS hL (hS hL (hS hL (hS hL (hS (hS hL (hS (hP [0,1,6,7,8] (hS hL (hS (hS (hS hL (hJ [0,1,6,8,9] hL hL)) hL) hL))) hL)) hL)))))),nils:=[(4,1)],modes:=[(2,1),(0,0)] }
def Amc:D9:=[(168,Abu N),(143,G6 N)]
def Abx (F:KF R):=Jw Tryz.f123 Abw (Amc N) [] N F
def Sg (F:KF R):Nat→Bool→LA→O R:=(fun ab ac ad=>F (.tup [(.own 300000 0 ab),(.bool ac)]) (hq [(bQ 1 ad)]))
def Ay7 (b d:Nat) (e f c:LA) (i m:Int):St:=⟨[(0,(.own 300000 0 b)),(1,(.own 300001 0 d)),(6,(.own 300002 0 b)),(8,(iv i)),(9,(.int .u64 m))],(hq [(bQ 1 e),(bQ 1 f),(bQ 1 c)])⟩
def Ay8 (F:KF R) (Q0:St→O R):=Abx N F [1,1,1,1,1,0,1,0,0,1,0,0,1,1] [Q0]
def Aby (b d:Nat) (e f:LA) (l g:Int) (c:LA):St:=⟨[(0,(.own 300000 0 b)),(1,(.own 300001 0 d)),(6,(.own 300002 0 b)),(7,(.int .u64 l)),(8,(iv g))],(hq [(bQ 1 e),(bQ 1 f),(bQ 1 c)])⟩
def Abz (F:KF R):=Abx N F [1,1,1,1,1,0,1,0] []
theorem Ai9 (Q0:St→O R) (F:KF R) (b d:Nat) (e f c:LA):∀ (i m:Int),A9 (Ay8 N F Q0) (Ay7 b d e f c i m)=(EH N (fun l g c=>Q0 (Aby b d e f l g c)) (Sg F) b d e f c i m):=by
 intro i m
 kernel_rfl
theorem iQ (F:KF R) (b d:Nat) (e f:LA):∀ (n:Nat) (l g:Int) (c:LA),Ao (Abz N F) n (Aby b d e f l g c)=(Jd N (Sg F) b d e f n l g c)
 | 0,_,_,_=>by kernel_rfl
 | n+1,l,g,c=>have e0:=(funext fun l=>funext fun g=>funext fun c=>(iQ F b d e f n l g c))
  Eq.trans (by kernel_rfl) (VS (H' N (Sg F) b d e f · · l g c) e0 (funext fun i=>funext fun m=>(At ..).trans ((Ai9 N (Ao (Abz N F) n) F b d e f c i m).trans (Bp (EH N · (Sg F) b d e f c i m) e0))):_)
theorem Ab0 (o:LA) (p:Nat) (u q:Bool) (r:LA) (s:Nat) (v t:Bool) (F:KF R):Ch (Amc N) Abw N 123 [(.imm o p 1 u q),(.imm r s 1 v t)] [] F=(IA N o p u q r s v t (Sg F)):=by
 rw[vO]
 exact Eq.trans (by kernel_rfl) (Bp (n7 N (Sg F) · o p u q r s v t) (funext fun b=>funext fun d=>funext fun e=>funext fun f=>funext fun l=>funext fun g=>funext fun c=>(Aj ..).trans (iQ N F b d e f N l g c)):_)
def vP (a:LA) (h:Am) (k:KF R):O R :=
 match a,h with
 | [(.imm o p 1 u q),(.imm r s 1 v t)],[]=>(IA N o p u q r s v t (Sg k))
 | _,_=>none
theorem Ab1:Ap N 123 @vP:=by
 intro R Q a h k j;unfold vP;split;exact A0 (Ab0 ..) (Ab0 ..) ⟨Abv N,G7 N,trivial⟩;exact A3
def Ab2:=A1 (Ab1 N)
def Ab3:=Ce (Ab1 N)
def M7 (k1:Nat→Int→LA→LA→O R) (r0:Nat→Nat→Bool→LA→LA→O R) (c:LA) (b:Nat) (e d:Bool) (f:Nat) (i:Int) (g l:LA) (p:Nat) (q:LA):O R :=
 (IA N (q.take (p*1)) p false true (g.take (f*1)) f false true (fun z aa ab=>(cond aa (cond (Ac (wrap .i64 (Int.tdiv i 32)) b) (An .u32 (l.drop (0+(((wrap .i64 (Int.tdiv i 32)).toNat)*1))) fun ac=>(cond (decide ((wrap .u64 (Int.tmod i 32))<0)) none (cond (Ac (wrap .i64 (Int.tdiv i 32)) b) (cond ((Nat.beq 1 1)&&((Nat.ble ((0+(((wrap .i64 (Int.tdiv i 32)).toNat)*1))+1) (l.length))&&(!false))) (k1 z (wrap .i64 (i - 1)) (l.set (0+(((wrap .i64 (Int.tdiv i 32)).toNat)*1)) (.int .u32 (Ta .u32 ac (wrap .u32 ((1:Int)*2 ^ (min ((wrap .u64 (Int.tmod i 32)).toNat) 32)))))) ab) none) none))) none) (k1 p (wrap .i64 (i - 1)) l q))))
def T8 (r0:Nat→Nat→Bool→LA→LA→O R) (c:LA) (b:Nat) (e d:Bool) (f:Nat) (g:LA) (k1:Nat→Int→LA→LA→O R) (q2:Nat→LA→O R) (m:Nat) (i:Int) (l o:LA):O R :=
 (cond (decide (i≥0)) (HZ N (o.take (m*1)) m false true (o.take (m*1)) m false true (fun w x=>(n6 N c b false d i (fun ad=>(cond (ad==1) (HZ N (x.take (w*1)) w false true [(.int .u32 1)] 1 false true (fun ae af=>(q2 ae af))) (q2 w x)))))) (D1 N (l.take (b*1)) b false true (fun ag ah=>(D1 N (o.take (m*1)) m false true (fun ai aj=>(r0 ag ai true ah aj))))))
def Fs (r0:Nat→Nat→Bool→LA→LA→O R) (c:LA) (b:Nat) (e d:Bool) (f:Nat) (g:LA):Nat→Nat→Int→LA→LA→O R
 | 0,_,_,_,_=>none
 | n+1,m,i,l,o=>(T8 N r0 c b e d f g (Fs r0 c b e d f g n) (fun p q=>(M7 N (Fs r0 c b e d f g n) r0 c b e d f i g l p q)) m i l o)
def EI (r0:Nat→Nat→Bool→LA→LA→O R) (c:LA) (b:Nat) (e d:Bool) (f:Nat) (g:LA) (q1:Nat→Int→LA→LA→O R):O R :=
 (cond ((decide (0≤((b:Nat):Int)))&&((decide (((b:Nat):Int)≤((b:Nat):Int)))&&((decide (((b:Nat):Int)≤140737488355328))&&(decide ((((b:Nat):Int)*((4:Nat):Int))≤140737488355328))))) (NH N c b false d (fun ak=>(q1 0 (wrap .i64 (ak - 1)) (List.replicate b (.int .u32 0)) []))) none)
def Qt (r0:Nat→Nat→Bool→LA→LA→O R) (c:LA) (b:Nat) (e d:Bool) (f:Nat) (g:LA):O R:=(EI N r0 c b e d f g (fun m i l o=>(Fs N r0 c b e d f g N m i l o)))
def IB (r0:Nat→Nat→Bool→LA→LA→O R) (q0:Nat→LA→O R) (c:LA) (b:Nat) (e d:Bool) (r:LA) (s:Nat) (u t:Bool):O R :=
 (D1 N r s false t (fun f g=>(cond (((f:Nat):Int)==0) (r0 0 0 false [] []) (Se N c b false d (fun y al=>(Se N (g.take (f*1)) f false true (fun v am=>(cond (al==true) (cond (cond true am false) (cond (v==0) none (F4 N (wrap .u64 (Int.tdiv y v)) (fun an ao=>(cond (v==0) none (F4 N (Int.tmod y v) (fun ap aq=>(r0 an ap true ao aq))))))) (q0 f g)) (q0 f g)))))))))
def Sh:=(Ah (fun (N:Nat) (c:LA) (b:Nat) (e d:Bool) (r:LA) (s:Nat) (u t:Bool) (r0:Nat→Nat→Bool→LA→LA→O R)=>(IB N r0 (fun f g=>(Qt N r0 c b e d f g)) c b e d r s u t))).1
theorem bD (c b e d r s u t r0):(@Sh R N c b e d r s u t r0)=(IB N r0 (fun f g=>(Qt N r0 c b e d f g)) c b e d r s u t):=by rw[Sh,(Ah _).2]
def iR:Hints:={ H:=(hS hL (hS hL (hS hL (hS hL (hJ [0,1,5] hL (hS hL (hS (hS hL (hS (hP [0,1,4,5,11] (hS hL (hS (hS (hS hL (hJ [0,1,4,5,11] hL hL)) hL) hL))) hL)) hL))))))),nils:=[(4,1),(5,1)],modes:=[(2,1),(2,1),(0,0)] }
def n8:D9:=[(143,G6 N),(178,Ai6 N),(94,HV N),(179,Aup N),(122,Abl N),(180,Ay5 N),(123,Ab2 N)]
def LX (F:KF R):=Jw Tryz.f140 iR (n8 N) [] N F
def Ft (F:KF R):Nat→Nat→Bool→LA→LA→O R:=(fun ar au av aw ax=>F (.tup [(.own 300000 0 ar),(.own 300001 0 au),(.bool av)]) (hq [(bQ 1 aw),(bQ 1 ax)]))
def Aja (c:LA) (b:Nat) (e d:Bool) (f:Nat) (i:Int) (g l:LA) (p:Nat) (q:LA):St:=⟨[(0,(.imm c b 1 e d)),(1,(.own 300000 0 f)),(4,(.own 300001 0 b)),(5,(.own 300002 0 p)),(11,(iv i))],(hq [(bQ 1 g),(bQ 1 l),(bQ 1 q)])⟩
def Ajb (F:KF R) (Q1:St→O R):=LX N F [1,1,1,1,1,1,0,1,0,0,1,0,0,1,1] [Q1]
def iS (c:LA) (b:Nat) (e d:Bool) (f:Nat) (g:LA) (m:Nat) (i:Int) (l o:LA):St:=⟨[(0,(.imm c b 1 e d)),(1,(.own 300000 0 f)),(4,(.own 300001 0 b)),(5,(.own 300002 0 m)),(11,(iv i))],(hq [(bQ 1 g),(bQ 1 l),(bQ 1 o)])⟩
def iT (F:KF R):=LX N F [1,1,1,1,1,1,0,1,0] []
def Ajc (c:LA) (b:Nat) (e d:Bool) (f:Nat) (g:LA):St:=⟨[(0,(.imm c b 1 e d)),(1,(.own 300000 0 f)),(5,(.own 300001 0 0))],(hq [(bQ 1 g),(bQ 1 [])])⟩
def Ajd (F:KF R):=LX N F [1,1,1,1,1] []
theorem sG (Q1:St→O R) (F:KF R) (c:LA) (b:Nat) (e d:Bool) (f:Nat) (i:Int) (g l:LA):∀ (p:Nat) (q:LA),A9 (Ajb N F Q1) (Aja c b e d f i g l p q)=(M7 N (fun m i l o=>Q1 (iS c b e d f g m i l o)) (Ft F) c b e d f i g l p q):=by
 intro p q
 kernel_rfl
theorem NI (F:KF R) (c:LA) (b:Nat) (e d:Bool) (f:Nat) (g:LA):∀ (n m:Nat) (i:Int) (l o:LA),Ao (iT N F) n (iS c b e d f g m i l o)=(Fs N (Ft F) c b e d f g n m i l o)
 | 0,_,_,_,_=>by kernel_rfl
 | n+1,m,i,l,o=>have e0:=(funext fun m=>funext fun i=>funext fun l=>funext fun o=>(NI F c b e d f g n m i l o))
  Eq.trans (by kernel_rfl) (VS (T8 N (Ft F) c b e d f g · · m i l o) e0 (funext fun p=>funext fun q=>(At ..).trans ((sG N (Ao (iT N F) n) F c b e d f i g l p q).trans (Bp (M7 N · (Ft F) c b e d f i g l p q) e0))):_)
theorem sH (F:KF R) (c:LA) (b:Nat) (e d:Bool) (f:Nat) (g:LA):A9 (Ajd N F) (Ajc c b e d f g)=(Qt N (Ft F) c b e d f g):=by
 exact Eq.trans (by kernel_rfl) (Bp (EI N (Ft F) c b e d f g ·) (funext fun m=>funext fun i=>funext fun l=>funext fun o=>(Aj ..).trans (NI N F c b e d f g N m i l o)):_)
theorem iU (c:LA) (b:Nat) (e d:Bool) (r:LA) (s:Nat) (u t:Bool) (F:KF R):Ch (n8 N) iR N 140 [(.imm c b 1 e d),(.imm r s 1 u t)] [] F=(Sh N c b e d r s u t (Ft F)):=by
 rw[bD]
 exact Eq.trans (by kernel_rfl) (Bp (IB N (Ft F) · c b e d r s u t) (funext fun f=>funext fun g=>(At ..).trans (sH N F c b e d f g)):_)
def bE (a:LA) (h:Am) (k:KF R):O R :=
 match a,h with
 | [(.imm c b 1 e d),(.imm r s 1 u t)],[]=>(Sh N c b e d r s u t (Ft k))
 | _,_=>none
theorem iV:Ap N 140 @bE:=by
 intro R Q a h k j;unfold bE;split;exact A0 (iU ..) (iU ..) ⟨G7 N,Ai7 N,HW N,Auq N,Abm N,Ay6 N,Ab3 N,trivial⟩;exact A3
def iW:=A1 (iV N)
def iX:=Ce (iV N)
def Tc (r0:Nat→LA→O R) (k0:Nat→Nat→LA→LA→O R) (c b:Nat) (d e:LA):O R :=
 (cond (decide (((b:Nat):Int)>0)) (Sh N (d.take (c*1)) c false true (e.take (b*1)) b false true (fun z r aa ab s=>(k0 b r e s))) (r0 c d))
def Eo (r0:Nat→LA→O R):Nat→Nat→Nat→LA→LA→O R
 | 0,_,_,_,_=>none
 | n+1,c,b,d,e=>(Tc N r0 (Eo r0 n) c b d e)
def n9 (r0:Nat→LA→O R) (q0:Nat→Nat→LA→LA→O R) (f:LA) (g:Nat) (p i:Bool) (l:LA) (m:Nat) (q o:Bool):O R :=
 (D1 N f g false i (fun t u=>(D1 N l m false o (fun v w=>(q0 t v u w)))))
def ff:=(Ah (fun (N:Nat) (f:LA) (g:Nat) (p i:Bool) (l:LA) (m:Nat) (q o:Bool) (r0:Nat→LA→O R)=>(n9 N r0 (fun c b d e=>(Eo N r0 N c b d e)) f g p i l m q o))).1
theorem vQ (f g p i l m q o r0):(@ff R N f g p i l m q o r0)=(n9 N r0 (fun c b d e=>(Eo N r0 N c b d e)) f g p i l m q o):=by rw[ff,(Ah _).2]
def Ab4:Hints:={ H:=(hS hL (hS hL (hS (hS (hP [0,1] hL) hL) hL))),nils:=[(4,1)],modes:=[(2,1)] }
def Amd:D9:=[(143,G6 N),(140,iW N)]
def Ay9 (F:KF R):=Jw Tryz.f139 Ab4 (Amd N) [] N F
def EJ (F:KF R):Nat→LA→O R:=(fun x y=>F (.own 300000 0 x) (hq [(bQ 1 y)]))
def Aza (c b:Nat) (d e:LA):St:=⟨[(0,(.own 300000 0 c)),(1,(.own 300001 0 b))],(hq [(bQ 1 d),(bQ 1 e)])⟩
def Azb (F:KF R):=Ay9 N F [1,1,0,0] []
theorem iY (F:KF R):∀ (n:Nat) (c b:Nat) (d e:LA),Ao (Azb N F) n (Aza c b d e)=(Eo N (EJ F) n c b d e)
 | 0,_,_,_,_=>by kernel_rfl
 | n+1,c,b,d,e=>Eq.trans (by kernel_rfl) (Bp (Tc N (EJ F) · c b d e) (funext fun c=>funext fun b=>funext fun d=>funext fun e=>(iY F n c b d e)):_)
theorem Ab5 (f:LA) (g:Nat) (p i:Bool) (l:LA) (m:Nat) (q o:Bool) (F:KF R):Ch (Amd N) Ab4 N 139 [(.imm f g 1 p i),(.imm l m 1 q o)] [] F=(ff N f g p i l m q o (EJ F)):=by
 rw[vQ]
 exact Eq.trans (by kernel_rfl) (Bp (n9 N (EJ F) · f g p i l m q o) (funext fun c=>funext fun b=>funext fun d=>funext fun e=>(Aj ..).trans (iY N F N c b d e)):_)
def vR (a:LA) (h:Am) (k:KF R):O R :=
 match a,h with
 | [(.imm f g 1 p i),(.imm l m 1 q o)],[]=>(ff N f g p i l m q o (EJ k))
 | _,_=>none
theorem Ab6:Ap N 139 @vR:=by
 intro R Q a h k j;unfold vR;split;exact A0 (Ab5 ..) (Ab5 ..) ⟨G7 N,iX N,trivial⟩;exact A3
def Azc:=A1 (Ab6 N)
def Azd:=Ce (Ab6 N)
def Ab7 (b:LA) (c:Bool) (d:LA) (e:Bool) (r0:LA→O R):O R :=
 (Co 1 (b.drop 1) fun i l=>(Co 1 (d.drop 1) fun m n=>(ff N i l false c m n false e (fun g o=>(Gz N false (o.take (g*1)) g false true (fun f=>(cond ((Nat.beq 0 0)&&((Nat.beq (f.length) 2)&&(Nat.beq 2 2))) (cond (Nat.ble 2 (f.length)) (r0 (f.take 2)) none) none)))))))
def n_:=(Ah (@Ab7 R)).1
theorem vS:@n_ R=@Ab7 R:=(Ah _).2
def A4b:D9:=[(139,Azc N),(93,Kx N)]
def Ab8 (F:KF R):LA→O R:=(fun p=>F (.pagg p false) [])
theorem Ab9 (b:LA) (c:Bool) (d:LA) (e:Bool) (F:KF R):Ch (A4b N) N8 N 90 [(.pagg b c),(.pagg d e)] [] F=(n_ N b c d e (Ab8 F)):=by
 rw[vS]
 kernel_rfl
def vT (a:LA) (h:Am) (k:KF R):O R :=
 match a,h with
 | [(.pagg b c),(.pagg d e)],[]=>(n_ N b c d e (Ab8 k))
 | _,_=>none
theorem Aca:Ap N 90 @vT:=by
 intro R Q a h k j;unfold vT;split;exact A0 (Ab9 ..) (Ab9 ..) ⟨Azd N,Ky N,trivial⟩;exact A3
def Aze:=A1 (Aca N)
def Azf:=Ce (Aca N)
def Aur (b:LA) (c:Bool) (r0:LA→O R):O R :=
 (Co 1 (b.drop 1) fun e f=>(Gz N false e f false c (fun d=>(cond ((Nat.beq 0 0)&&((Nat.beq (d.length) 2)&&(Nat.beq 2 2))) (cond (Nat.ble 2 (d.length)) (r0 (d.take 2)) none) none))))
def zk:=(Ah (@Aur R)).1
theorem Aus:@zk R=@Aur R:=(Ah _).2
def A4c:D9:=[(93,Kx N)]
def Acb (F:KF R):LA→O R:=(fun g=>F (.pagg g false) [])
theorem Acc (b:LA) (c:Bool) (F:KF R):Ch (A4c N) N8 N 141 [(.pagg b c)] [] F=(zk N b c (Acb F)):=by
 rw[Aus]
 kernel_rfl
def vU (a:LA) (h:Am) (k:KF R):O R :=
 match a,h with
 | [(.pagg b c)],[]=>(zk N b c (Acb k))
 | _,_=>none
theorem Acd:Ap N 141 @vU:=by
 intro R Q a h k j;unfold vU;split;exact A0 (Acc ..) (Acc ..) ⟨Ky N,trivial⟩;exact A3
def Azg:=A1 (Acd N)
def Azh:=Ce (Acd N)
def Ace (b:LA) (d:Bool) (c:LA) (e:Bool) (r0:LA→O R):O R :=
 (NC b fun o=>(NC c fun p=>(cond (o==p) (NC b fun q=>(Co 1 (b.drop 1) fun r s=>(Co 1 (c.drop 1) fun t u=>(HZ N r s false d t u false e (fun l v=>(Gz N q (v.take (l*1)) l false true (fun f=>(cond ((Nat.beq 0 0)&&((Nat.beq (f.length) 2)&&(Nat.beq 2 2))) (cond (Nat.ble 2 (f.length)) (r0 (f.take 2)) none) none)))))))) (Co 1 (b.drop 1) fun w x=>(Co 1 (c.drop 1) fun y z=>(IA N w x false d y z false e (fun m aa ab=>(cond aa (NC b fun ac=>(Gz N ac (ab.take (m*1)) m false true (fun g=>(cond ((Nat.beq 0 0)&&((Nat.beq (g.length) 2)&&(Nat.beq 2 2))) (cond (Nat.ble 2 (g.length)) (r0 (g.take 2)) none) none)))) (Co 1 (c.drop 1) fun ad ae=>(Co 1 (b.drop 1) fun af ag=>(IA N ad ae false e af ag false d (fun n ak ah=>(NC c fun ai=>(Gz N ai (ah.take (n*1)) n false true (fun i=>(cond ((Nat.beq 0 0)&&((Nat.beq (i.length) 2)&&(Nat.beq 2 2))) (cond (Nat.ble 2 (i.length)) (r0 (i.take 2)) none) none))))))))))))))))
def BZ:=(Ah (@Ace R)).1
theorem vV:@BZ R=@Ace R:=(Ah _).2
def A4d:D9:=[(122,Abl N),(93,Kx N),(123,Ab2 N)]
def Acf (F:KF R):LA→O R:=(fun aj=>F (.pagg aj false) [])
theorem Acg (b:LA) (d:Bool) (c:LA) (e:Bool) (F:KF R):Ch (A4d N) N8 N 71 [(.pagg b d),(.pagg c e)] [] F=(BZ N b d c e (Acf F)):=by
 rw[vV]
 kernel_rfl
def vW (a:LA) (h:Am) (k:KF R):O R :=
 match a,h with
 | [(.pagg b d),(.pagg c e)],[]=>(BZ N b d c e (Acf k))
 | _,_=>none
theorem Ach:Ap N 71 @vW:=by
 intro R Q a h k j;unfold vW;split;exact A0 (Acg ..) (Acg ..) ⟨Abm N,Ky N,Ab3 N,trivial⟩;exact A3
def lF:=A1 (Ach N)
def lG:=Ce (Ach N)
def Aci (b:LA) (c:Bool) (r0:LA→O R):O R :=
 (NC b fun e=>(Co 1 (b.drop 1) fun f g=>(Gz N (!e) f g false c (fun d=>(cond ((Nat.beq 0 0)&&((Nat.beq (d.length) 2)&&(Nat.beq 2 2))) (cond (Nat.ble 2 (d.length)) (r0 (d.take 2)) none) none)))))
def B_:=(Ah (@Aci R)).1
theorem vX:@B_ R=@Aci R:=(Ah _).2
def A4e:D9:=[(93,Kx N)]
def Acj (F:KF R):LA→O R:=(fun i=>F (.pagg i false) [])
theorem Ack (b:LA) (c:Bool) (F:KF R):Ch (A4e N) N8 N 92 [(.pagg b c)] [] F=(B_ N b c (Acj F)):=by
 rw[vX]
 kernel_rfl
def vY (a:LA) (h:Am) (k:KF R):O R :=
 match a,h with
 | [(.pagg b c)],[]=>(B_ N b c (Acj k))
 | _,_=>none
theorem Acl:Ap N 92 @vY:=by
 intro R Q a h k j;unfold vY;split;exact A0 (Ack ..) (Ack ..) ⟨Ky N,trivial⟩;exact A3
def lH:=A1 (Acl N)
def lI:=Ce (Acl N)
def Aut (b:LA) (d:Bool) (c:LA) (e:Bool) (r0:LA→O R):O R :=
 (cond (Nat.ble 2 (b.length)) (cond (Nat.ble 2 (c.length)) (B_ N (c.take 2) e (fun g=>(BZ N (b.take 2) d g false (fun f=>(cond ((Nat.beq 0 0)&&((Nat.beq (f.length) 2)&&(Nat.beq 2 2))) (cond (Nat.ble 2 (f.length)) (r0 (f.take 2)) none) none))))) none) none)
def zl:=(Ah (@Aut R)).1
theorem Auu:@zl R=@Aut R:=(Ah _).2
def A4f:D9:=[(92,lH N),(71,lF N)]
def Acm (F:KF R):LA→O R:=(fun i=>F (.pagg i false) [])
theorem Acn (b:LA) (d:Bool) (c:LA) (e:Bool) (F:KF R):Ch (A4f N) N8 N 142 [(.pagg b d),(.pagg c e)] [] F=(zl N b d c e (Acm F)):=by
 rw[Auu]
 kernel_rfl
def vZ (a:LA) (h:Am) (k:KF R):O R :=
 match a,h with
 | [(.pagg b d),(.pagg c e)],[]=>(zl N b d c e (Acm k))
 | _,_=>none
theorem Aco:Ap N 142 @vZ:=by
 intro R Q a h k j;unfold vZ;split;exact A0 (Acn ..) (Acn ..) ⟨lI N,lG N,trivial⟩;exact A3
def Azi:=A1 (Aco N)
def Azj:=Ce (Aco N)
def bF (f:LA) (m:Bool) (e:LA) (l:Bool) (r0:LA→LA→Bool→O R):O R :=
 (Co 1 (f.drop 1) fun p q=>(Co 1 (e.drop 1) fun r s=>(Sh N p q false m r s false l (fun n o t u v=>(cond (!t) (r0 [(.bool false),.nsl] [(.bool false),.nsl] false) (NC f fun w=>(NC e fun x=>(Gz N (!(w==x)) (u.take (n*1)) n false true (fun b=>(NC f fun y=>(Gz N y (v.take (o*1)) o false true (fun c=>(cond ((Nat.beq 0 0)&&((Nat.beq (b.length) 2)&&(Nat.beq 2 2))) (cond ((Nat.beq 0 0)&&((Nat.beq (c.length) 2)&&(Nat.beq 2 2))) (NC c fun z=>(cond z (cond (Nat.ble 2 (c.length)) (cond (Nat.ble 2 (e.length)) (zk N (e.take 2) l (fun aa=>(BZ N (c.take 2) false aa false (fun d=>(cond ((Nat.beq (d.length) 2)&&((Nat.ble 2 (c.length))&&(!false))) (NC e fun ab=>(cond ab (cond (Nat.ble 2 (b.length)) (Kz N 1 (fun ac=>(BZ N (b.take 2) false ac false (fun g=>(cond ((Nat.beq (g.length) 2)&&((Nat.ble 2 (b.length))&&(!false))) (cond (Nat.ble 2 ((setCells b 0 g).length)) (cond (Nat.ble 2 ((setCells c 0 d).length)) (cond ((Nat.beq (((setCells b 0 g).take 2).length) 2)&&((Nat.ble 2 ((setCells b 0 g).length))&&(!false))) (cond ((Nat.beq (((setCells c 0 d).take 2).length) 2)&&((Nat.ble 2 ((setCells c 0 d).length))&&(!false))) (cond (Nat.ble 2 ((setCells (setCells b 0 g) 0 ((setCells b 0 g).take 2)).length)) (cond (Nat.ble 2 ((setCells (setCells c 0 d) 0 ((setCells c 0 d).take 2)).length)) (r0 ((setCells (setCells b 0 g) 0 ((setCells b 0 g).take 2)).take 2) ((setCells (setCells c 0 d) 0 ((setCells c 0 d).take 2)).take 2) true) none) none) none) none) none) none) none))))) none) (cond (Nat.ble 2 (b.length)) (Kz N 1 (fun ad=>(zl N (b.take 2) false ad false (fun i=>(cond ((Nat.beq (i.length) 2)&&((Nat.ble 2 (b.length))&&(!false))) (cond (Nat.ble 2 ((setCells b 0 i).length)) (cond (Nat.ble 2 ((setCells c 0 d).length)) (cond ((Nat.beq (((setCells b 0 i).take 2).length) 2)&&((Nat.ble 2 ((setCells b 0 i).length))&&(!false))) (cond ((Nat.beq (((setCells c 0 d).take 2).length) 2)&&((Nat.ble 2 ((setCells c 0 d).length))&&(!false))) (cond (Nat.ble 2 ((setCells (setCells b 0 i) 0 ((setCells b 0 i).take 2)).length)) (cond (Nat.ble 2 ((setCells (setCells c 0 d) 0 ((setCells c 0 d).take 2)).length)) (r0 ((setCells (setCells b 0 i) 0 ((setCells b 0 i).take 2)).take 2) ((setCells (setCells c 0 d) 0 ((setCells c 0 d).take 2)).take 2) true) none) none) none) none) none) none) none))))) none))) none))))) none) none) (cond (Nat.ble 2 (b.length)) (cond (Nat.ble 2 (c.length)) (cond ((Nat.beq ((b.take 2).length) 2)&&((Nat.ble 2 (b.length))&&(!false))) (cond ((Nat.beq ((c.take 2).length) 2)&&((Nat.ble 2 (c.length))&&(!false))) (cond (Nat.ble 2 ((setCells b 0 (b.take 2)).length)) (cond (Nat.ble 2 ((setCells c 0 (c.take 2)).length)) (r0 ((setCells b 0 (b.take 2)).take 2) ((setCells c 0 (c.take 2)).take 2) true) none) none) none) none) none) none))) none) none)))))))))))))
def Wh:=(Ah (@bF R)).1
theorem bG:@Wh R=@bF R:=(Ah _).2
def Aje:Hints:={ H:=hL,modes:=[(3,0),(3,0),(0,0)] }
def Ap3:D9:=[(140,iW N),(93,Kx N),(141,Azg N),(71,lF N),(55,a6 N),(142,Azi N)]
def iZ (F:KF R):LA→LA→Bool→O R:=(fun ae af ag=>F (.tup [(.pagg ae false),(.pagg af false),(.bool ag)]) [])
theorem i0 (f:LA) (m:Bool) (e:LA) (l:Bool) (F:KF R):Ch (Ap3 N) Aje N 91 [(.pagg f m),(.pagg e l)] [] F=(Wh N f m e l (iZ F)):=by
 rw[bG]
 kernel_rfl
def bH (a:LA) (h:Am) (k:KF R):O R :=
 match a,h with
 | [(.pagg f m),(.pagg e l)],[]=>(Wh N f m e l (iZ k))
 | _,_=>none
theorem i6:Ap N 91 @bH:=by
 intro R Q a h k j;unfold bH;split;exact A0 (i0 ..) (i0 ..) ⟨iX N,Ky N,Azh N,lG N,a7 N,Azj N,trivial⟩;exact A3
def Ajf:=A1 (i6 N)
def Ajg:=Ce (i6 N)
end
end Gx

namespace Gx
open Go Go.Proofs
open IntKind (wrap)
set_option maxRecDepth 100000
noncomputable section
variable {R:Type} (N:Nat)
def IC (r0:LA→O R) (e:Bool) (c:LA) (d:Bool) (b:LA):O R :=
 (cond (Nat.ble 2 (c.length)) (cond (Nat.ble 2 (b.length)) (n_ N (c.take 2) e (b.take 2) d (fun l=>(cond ((Nat.beq 0 0)&&((Nat.beq (l.length) 2)&&(Nat.beq 2 2))) (cond (Nat.ble 2 (c.length)) (cond (Nat.ble 2 (l.length)) (Wh N (c.take 2) e (l.take 2) false (fun f w af=>(cond ((Nat.beq 0 0)&&((Nat.beq (f.length) 2)&&(Nat.beq 2 2))) (cond ((Nat.beq 0 0)&&((Nat.beq (w.length) 2)&&(Nat.beq 2 2))) (cond (Nat.ble 2 (b.length)) (cond (Nat.ble 2 (l.length)) (Wh N (b.take 2) d (l.take 2) false (fun g x ag=>(cond ((Nat.beq 0 0)&&((Nat.beq (g.length) 2)&&(Nat.beq 2 2))) (cond ((Nat.beq 0 0)&&((Nat.beq (x.length) 2)&&(Nat.beq 2 2))) (NC g fun y=>(cond y (cond (Nat.ble 2 (f.length)) (B_ N (f.take 2) false (fun i=>(cond (Nat.ble 2 (g.length)) (B_ N (g.take 2) false (fun v=>(cond ((Nat.beq (i.length) 2)&&((Nat.ble 2 (f.length))&&(!false))) (cond ((Nat.beq (v.length) 2)&&((Nat.ble 2 (g.length))&&(!false))) (cond (Nat.ble 2 ((setCells f 0 i).length)) (Co 1 ((setCells g 0 v).drop 1) fun o p=>(cond ((Nat.beq (((setCells f 0 i).take 2).length) 2)&&(Nat.ble 2 3)) (cond ((Nat.beq 1 1)&&(Nat.ble 3 ((setCells [(.bool false),.nsl,.nsl] 0 ((setCells f 0 i).take 2)).length))) (cond ((Nat.beq 0 0)&&((Nat.beq (((setCells [(.bool false),.nsl,.nsl] 0 ((setCells f 0 i).take 2)).set 2 (.imm o p 1 false false)).length) 3)&&(Nat.beq 3 3))) (cond (Nat.ble 3 (((setCells [(.bool false),.nsl,.nsl] 0 ((setCells f 0 i).take 2)).set 2 (.imm o p 1 false false)).length)) (r0 (((setCells [(.bool false),.nsl,.nsl] 0 ((setCells f 0 i).take 2)).set 2 (.imm o p 1 false false)).take 3)) none) none) none) none)) none) none) none))) none))) none) (cond (Nat.ble 2 (f.length)) (Co 1 (g.drop 1) fun q r=>(cond ((Nat.beq ((f.take 2).length) 2)&&(Nat.ble 2 3)) (cond ((Nat.beq 1 1)&&(Nat.ble 3 ((setCells [(.bool false),.nsl,.nsl] 0 (f.take 2)).length))) (cond ((Nat.beq 0 0)&&((Nat.beq (((setCells [(.bool false),.nsl,.nsl] 0 (f.take 2)).set 2 (.imm q r 1 false false)).length) 3)&&(Nat.beq 3 3))) (cond (Nat.ble 3 (((setCells [(.bool false),.nsl,.nsl] 0 (f.take 2)).set 2 (.imm q r 1 false false)).length)) (r0 (((setCells [(.bool false),.nsl,.nsl] 0 (f.take 2)).set 2 (.imm q r 1 false false)).take 3)) none) none) none) none)) none))) none) none))) none) none) none) none))) none) none) none))) none) none)
def fg (r0:LA→O R) (q0:O R) (c:LA) (e:Bool) (b:LA) (d:Bool):O R :=
 (cond (Nat.ble 2 (b.length)) (EF N (b.take 2) d (fun z=>(cond (z==0) (a8 N (fun s=>(cond ((Nat.beq 0 0)&&((Nat.beq (s.length) 3)&&(Nat.beq 3 3))) (cond (Nat.ble 3 (s.length)) (r0 (s.take 3)) none) none))) (cond (Nat.ble 2 (b.length)) (EE N (b.take 2) d (fun n=>(cond ((Nat.beq 0 0)&&((Nat.beq (n.length) 2)&&(Nat.beq 2 2))) (NC n fun aa=>(cond ((!aa)==true) (Co 1 (n.drop 1) fun ab ac=>(DB N ab ac false false [(.int .u32 1)] 1 false true (fun ad=>(cond (cond true ad false) (cond (Nat.ble 2 (c.length)) (EE N (c.take 2) e (fun m=>(Co 1 (n.drop 1) fun t u=>(cond ((Nat.beq (m.length) 2)&&(Nat.ble 2 3)) (cond ((Nat.beq 1 1)&&(Nat.ble 3 ((setCells [(.bool false),.nsl,.nsl] 0 m).length))) (cond ((Nat.beq 0 0)&&((Nat.beq (((setCells [(.bool false),.nsl,.nsl] 0 m).set 2 (.imm t u 1 false false)).length) 3)&&(Nat.beq 3 3))) (cond (Nat.ble 3 (((setCells [(.bool false),.nsl,.nsl] 0 m).set 2 (.imm t u 1 false false)).length)) (r0 (((setCells [(.bool false),.nsl,.nsl] 0 m).set 2 (.imm t u 1 false false)).take 3)) none) none) none) none)))) none) q0)))) q0)) none))) none)))) none)
def Qu:=(Ah (fun (N:Nat) (c:LA) (e:Bool) (b:LA) (d:Bool) (r0:LA→O R)=>(fg N r0 (IC N r0 e c d b) c e b d))).1
theorem na (c e b d r0):(@Qu R N c e b d r0)=(fg N r0 (IC N r0 e c d b) c e b d):=by rw[Qu,(Ah _).2]
def v5:Hints:={ H:=(hS hL (hS hL (hJ [2,3,4] hL hL))),modes:=[(3,0)] }
def Acp:D9:=[(75,vC N),(41,Auk N),(88,ux N),(89,Ap1 N),(90,Aze N),(91,Ajf N),(92,lH N)]
def Auv (F:KF R):=Jw Tryz.f54 v5 (Acp N) [] N F
def ID (F:KF R):LA→O R:=(fun ae=>F (.pagg ae false) [])
def Auw (e:Bool) (c:LA) (d:Bool) (b:LA):St:=⟨[(2,(op 0)),(3,(op 1)),(4,(op 2))],(hq [(bP e 0 c),(bP d 0 b),⟨false,false,false,false,0,[(.bool false),.nsl,.nsl],false⟩])⟩
def Aux (F:KF R):=Auv N F [1,1,1] []
theorem Acq (F:KF R) (e:Bool) (c:LA) (d:Bool) (b:LA):A9 (Aux N F) (Auw e c d b)=(IC N (ID F) e c d b):=by
 kernel_rfl
theorem v6 (c:LA) (e:Bool) (b:LA) (d:Bool) (F:KF R):Ch (Acp N) v5 N 54 [(.pagg c e),(.pagg b d)] [] F=(Qu N c e b d (ID F)):=by
 rw[na]
 exact Eq.trans (by kernel_rfl) (Bp (fg N (ID F) · c e b d) ((At ..).trans (Acq N F e c d b)):_)
def nc (a:LA) (h:Am) (k:KF R):O R :=
 match a,h with
 | [(.pagg c e),(.pagg b d)],[]=>(Qu N c e b d (ID k))
 | _,_=>none
theorem v7:Ap N 54 @nc:=by
 intro R Q a h k j;unfold nc;split;exact A0 (v6 ..) (v6 ..) ⟨vD N,Aul N,uy N,Ap2 N,Azf N,Ajg N,lI N,trivial⟩;exact A3
def IE:=A1 (v7 N)
def IF:=Ce (v7 N)
def SK (b:Int) (r0:LA→O R):O R :=
 (Kz N b (fun d=>(Kz N 1 (fun e=>(Qu N d false e false (fun c=>(cond ((Nat.beq 0 0)&&((Nat.beq (c.length) 3)&&(Nat.beq 3 3))) (cond (Nat.ble 3 (c.length)) (r0 (c.take 3)) none) none)))))))
def Cp:=(Ah (@SK R)).1
theorem VY:@Cp R=@SK R:=(Ah _).2
def Ajh:D9:=[(55,a6 N),(54,IE N)]
def bI (F:KF R):LA→O R:=(fun f=>F (.pagg f false) [])
theorem bJ (b:Int) (F:KF R):Ch (Ajh N) N8 N 20 [(iv b)] [] F=(Cp N b (bI F)):=by
 rw[VY]
 kernel_rfl
def VZ (a:LA) (h:Am) (k:KF R):O R :=
 match a,h with
 | [(.int .i64 b)],[]=>(Cp N b (bI k))
 | _,_=>none
theorem bK:Ap N 20 @VZ:=by
 intro R Q a h k j;unfold VZ;split;exact A0 (bJ ..) (bJ ..) ⟨a7 N,IF N,trivial⟩;exact A3
def T9:=A1 (bK N)
def Ua:=Ce (bK N)
def SL (N:Nat) (r0:Nat→O R) (b:Nat) (c:LA) (k0:Int→O R) (d:Int):O R :=
 (cond ((decide (d>0))==true) (cond (Ac (wrap .i64 (d - 1)) b) (An .u32 (c.drop (0+(((wrap .i64 (d - 1)).toNat)*1))) fun e=>(cond (cond true (e==0) false) (k0 (wrap .i64 (d - 1))) (cond ((decide ((0:Int)≤(0:Int)))&&((decide (0≤d))&&((decide (d≤((b:Nat):Int)))&&(decide (((b:Nat):Int)≤((b:Nat):Int)))))) (r0 (d.toNat)) none))) none) (cond ((decide ((0:Int)≤(0:Int)))&&((decide (0≤d))&&((decide (d≤((b:Nat):Int)))&&(decide (((b:Nat):Int)≤((b:Nat):Int)))))) (r0 (d.toNat)) none))
def Wi (r0:Nat→O R) (b:Nat) (c:LA):Nat→Int→O R
 | 0,_=>none
 | n+1,d=>(SL N r0 b c (Wi r0 b c n) d)
def nf (N:Nat) (r0:Nat→O R) (q0:Int→O R) (b:Nat) (c:LA):O R :=
 (q0 ((b:Nat):Int))
def Wj:=(Ah (fun (N b:Nat) (c:LA) (r0:Nat→O R)=>(nf N r0 (fun d=>(Wi N r0 b c N d)) b c))).1
theorem lJ (b c r0):(@Wj R N b c r0)=(nf N r0 (fun d=>(Wi N r0 b c N d)) b c):=by rw[Wj,(Ah _).2]
def A4g (F:KF R):=Jw Tryz.f171 uk [] [100000] N F
def DC (c:LA) (F:KF R):Nat→O R:=(fun f=>F (.own 100000 0 f) [(100000,(bQ 1 c))])
def A4h (b:Nat) (c:LA) (d:Int):St:=⟨[(0,(.own 100000 0 b)),(3,(iv d))],[(100000,(bQ 1 c))]⟩
def A4i (F:KF R):=A4g N F [1,1,0,0] []
theorem ng (F:KF R) (b:Nat) (c:LA):∀ (n:Nat) (d:Int),Ao (A4i N F) n (A4h b c d)=(Wi N (DC c F) b c n d)
 | 0,_=>by kernel_rfl
 | n+1,d=>Eq.trans (by kernel_rfl) (Bp (SL N (DC c F) b c · d) (funext fun d=>(ng F b c n d)):_)
theorem fh (b:Nat) (c:LA) (F:KF R):Ch [] uk N 171 [(.own 100000 0 b)] [(100000,(bQ 1 c))] F=(Wj N b c (DC c F)):=by
 rw[lJ]
 exact Eq.trans (by kernel_rfl) (Bp (nf N (DC c F) · b c) (funext fun d=>(Aj ..).trans (ng N F b c N d)):_)
def Acr (a:LA) (h:Am) (k:KF R):O R :=
 match a,h with
 | [(.own 100000 0 b)],[(100000,⟨false,false,true,false,1,c,false⟩)]=>(Wj N b c (DC c k))
 | _,_=>none
theorem Ame:Ap N 171 @Acr:=by
 intro R Q a h k j;unfold Acr;split;exact A0 (fh ..) (fh ..) trivial;exact A3
def sI:=A1 (Ame N)
def sJ:=Ce (Ame N)
def EK (b:Int) (r0:Nat→LA→O R):O R :=
 (Wj N 2 [(.int .u32 (wrap .u32 b)),(.int .u32 (wrap .u32 (Int.fdiv b (2 ^ 32))))] (fun c=>(r0 c [(.int .u32 (wrap .u32 b)),(.int .u32 (wrap .u32 (Int.fdiv b (2 ^ 32))))])))
def B7:=(Ah (@EK R)).1
theorem IG:@B7 R=@EK R:=(Ah _).2
def yX:D9:=[(171,sI N)]
def NJ (F:KF R):Nat→LA→O R:=(fun d e=>F (.own 300000 0 d) (hq [(bQ 1 e)]))
theorem NK (b:Int) (F:KF R):Ch (yX N) A7o N 149 [(.int .u64 b)] [] F=(B7 N b (NJ F)):=by
 rw[IG]
 kernel_rfl
def IH (a:LA) (h:Am) (k:KF R):O R :=
 match a,h with
 | [(.int .u64 b)],[]=>(B7 N b (NJ k))
 | _,_=>none
theorem NL:Ap N 149 @IH:=by
 intro R Q a h k j;unfold IH;split;exact A0 (NK ..) (NK ..) ⟨sJ N,trivial⟩;exact A3
def Hc:=A1 (NL N)
def Hd:=Ce (NL N)
def lK (N:Nat) (d:Bool) (b:Nat) (c:LA) (r0:Bool→O R):O R :=
 (cond (d==true) (r0 (cond true (decide (((b:Nat):Int)>0)) false)) (r0 false))
def J9:=(Ah (@lK R)).1
theorem i7:@J9 R=@lK R:=(Ah _).2
def nh (b:Nat) (c:LA) (F:KF R):Bool→O R:=(fun e=>F (.agg [(.bool e),(.own 100000 0 b)]) [(100000,(bQ 1 c))])
theorem ni (d:Bool) (b:Nat) (c:LA) (F:KF R):Ch [] Dj N 148 [(.bool d),(.own 100000 0 b)] [(100000,(bQ 1 c))] F=(J9 N d b c (nh b c F)):=by
 rw[i7]
 kernel_rfl
def i8 (a:LA) (h:Am) (k:KF R):O R :=
 match a,h with
 | [(.bool d),(.own 100000 0 b)],[(100000,⟨false,false,true,false,1,c,false⟩)]=>(J9 N d b c (nh b c k))
 | _,_=>none
theorem nk:Ap N 148 @i8:=by
 intro R Q a h k j;unfold i8;split;exact A0 (ni ..) (ni ..) trivial;exact A3
def B':=A1 (nk N)
def CA:=Ce (nk N)
def bL (b:Int) (r0:Bool→Nat→LA→O R):O R :=
 (cond (decide (b<0)) (B7 N (wrap .u64 ((0:Int) - (wrap .u64 b))) (fun c d=>(J9 N true c d (fun g=>(r0 g c d))))) (B7 N (wrap .u64 b) (fun e f=>(J9 N false e f (fun i=>(r0 i e f))))))
def EL:=(Ah (@bL R)).1
theorem bM:@EL R=@bL R:=(Ah _).2
def Ap4:D9:=[(149,Hc N),(148,B' N)]
def i9 (F:KF R):Bool→Nat→LA→O R:=(fun l m n=>F (.agg [(.bool l),(.own 300000 0 m)]) (hq [(bQ 1 n)]))
theorem i_ (b:Int) (F:KF R):Ch (Ap4 N) Dj N 104 [(iv b)] [] F=(EL N b (i9 F)):=by
 rw[bM]
 kernel_rfl
def bN (a:LA) (h:Am) (k:KF R):O R :=
 match a,h with
 | [(.int .i64 b)],[]=>(EL N b (i9 k))
 | _,_=>none
theorem ia:Ap N 104 @bN:=by
 intro R Q a h k j;unfold bN;split;exact A0 (i_ ..) (i_ ..) ⟨Hd N,CA N,trivial⟩;exact A3
def Aji:=A1 (ia N)
def Ajj:=Ce (ia N)
def bO (b:Int) (r0:LA→O R):O R :=
 (EL N b (fun d c e=>(r0 [(.bool d),(.imm (e.take (c*1)) c 1 false false),(.imm [(.int .u32 1)] 1 1 false false)])))
def Cr:=(Ah (@bO R)).1
theorem bR:@Cr R=@bO R:=(Ah _).2
def Ap5:D9:=[(104,Aji N)]
def ib (F:KF R):LA→O R:=(fun f=>F (.pagg f false) [])
theorem ic (b:Int) (F:KF R):Ch (Ap5 N) N8 N 60 [(iv b)] [] F=(Cr N b (ib F)):=by
 rw[bR]
 kernel_rfl
def bS (a:LA) (h:Am) (k:KF R):O R :=
 match a,h with
 | [(.int .i64 b)],[]=>(Cr N b (ib k))
 | _,_=>none
theorem ig:Ap N 60 @bS:=by
 intro R Q a h k j;unfold bS;split;exact A0 (ic ..) (ic ..) ⟨Ajj N,trivial⟩;exact A3
def Je:=A1 (ig N)
def Jf:=Ce (ig N)
def Xd (N:Nat) (r0:LA→Nat→O R) (e:LA) (b:Nat) (f c:Bool) (k0:Int→O R) (d:Int):O R :=
 (cond ((decide (d>0))==true) (cond (Ac (wrap .i64 (d - 1)) b) (An .u32 (e.drop (((wrap .i64 (d - 1)).toNat)*1)) fun g=>(cond (cond true (g==0) false) (k0 (wrap .i64 (d - 1))) (cond ((decide ((0:Int)≤(0:Int)))&&((decide (0≤d))&&((decide (d≤((b:Nat):Int)))&&(decide (((b:Nat):Int)≤((b:Nat):Int)))))) (r0 (e.take ((d.toNat)*1)) (d.toNat)) none))) none) (cond ((decide ((0:Int)≤(0:Int)))&&((decide (0≤d))&&((decide (d≤((b:Nat):Int)))&&(decide (((b:Nat):Int)≤((b:Nat):Int)))))) (r0 (e.take ((d.toNat)*1)) (d.toNat)) none))
def Lh (r0:LA→Nat→O R) (e:LA) (b:Nat) (f c:Bool):Nat→Int→O R
 | 0,_=>none
 | n+1,d=>(Xd N r0 e b f c (Lh r0 e b f c n) d)
def SM (N:Nat) (r0:LA→Nat→O R) (q0:Int→O R) (e:LA) (b:Nat) (f c:Bool):O R :=
 (q0 ((b:Nat):Int))
def Ci:=(Ah (fun (N:Nat) (e:LA) (b:Nat) (f c:Bool) (r0:LA→Nat→O R)=>(SM N r0 (fun d=>(Lh N r0 e b f c N d)) e b f c))).1
theorem ii (e b f c r0):(@Ci R N e b f c r0)=(SM N r0 (fun d=>(Lh N r0 e b f c N d)) e b f c):=by rw[Ci,(Ah _).2]
def Ap6 (F:KF R):=Jw Tryz.f171 uk [] [] N F
def Li (c:Bool) (F:KF R):LA→Nat→O R:=(fun i l=>F (.imm i l 1 false c) [])
def Ap7 (e:LA) (b:Nat) (f c:Bool) (d:Int):St:=⟨[(0,(.imm e b 1 f c)),(3,(iv d))],[]⟩
def Ap8 (F:KF R):=Ap6 N F [1,1,0,0] []
theorem V_ (F:KF R) (e:LA) (b:Nat) (f c:Bool):∀ (n:Nat) (d:Int),Ao (Ap8 N F) n (Ap7 e b f c d)=(Lh N (Li c F) e b f c n d)
 | 0,_=>by kernel_rfl
 | n+1,d=>Eq.trans (by kernel_rfl) (Bp (Xd N (Li c F) e b f c · d) (funext fun d=>(V_ F e b f c n d)):_)
theorem Pp (e:LA) (b:Nat) (f c:Bool) (F:KF R):Ch [] uk N 171 [(.imm e b 1 f c)] [] F=(Ci N e b f c (Li c F)):=by
 rw[ii]
 exact Eq.trans (by kernel_rfl) (Bp (SM N (Li c F) · e b f c) (funext fun d=>(Aj ..).trans (V_ N F e b f c N d)):_)
def ij (a:LA) (h:Am) (k:KF R):O R :=
 match a,h with
 | [(.imm e b 1 f c)],[]=>(Ci N e b f c (Li c k))
 | _,_=>none
theorem nm:Ap N 171 @ij:=by
 intro R Q a h k j;unfold ij;split;exact A0 (Pp ..) (Pp ..) trivial;exact A3
def Ub:=A1 (nm N)
def Uc:=Ce (nm N)
def ik (N:Nat) (r0:LA→O R) (k0:O R):O R :=
 (r0 [])
def Ud (r0:LA→O R):Nat→O R
 | 0=>none
 | n+1=>(ik N r0 (Ud r0 n))
def SN (N:Nat) (r0:LA→O R) (q0:O R):O R :=
 q0
def DD:=(Ah (fun (N:Nat) (r0:LA→O R)=>(SN N r0 (Ud N r0 N)))).1
theorem io (r0):(@DD R N r0)=(SN N r0 (Ud N r0 N)):=by rw[DD,(Ah _).2]
def Ap9 (F:KF R):=Jw Tryz.f171 uk [] [] N F
def Ue (F:KF R):LA→O R:=(fun b=>F (.own 300000 0 0) (hq [(bQ 1 b)]))
def Aqa:St:=⟨[(0,.nsl),(3,(iv 0))],[]⟩
def Aqb (F:KF R):=Ap9 N F [1,1,0,0] []
theorem V' (F:KF R):∀ (n:Nat) ,Ao (Aqb N F) n Aqa=(Ud N (Ue F) n)
 | 0=>by kernel_rfl
 | n+1=>Eq.trans (by kernel_rfl) (Bp (ik N (Ue F) ·) (V' F n):_)
theorem nn (F:KF R):Ch [] uk N 171 [.nsl] [] F=(DD N (Ue F)):=by
 rw[io]
 exact Eq.trans (by kernel_rfl) (Bp (SN N (Ue F) ·) ((Aj ..).trans (V' N F N)):_)
def EM (N:Nat) (r0:Int→O R) (e:LA) (d:Nat) (b:Bool) (f:LA) (k0:Int→O R) (c:Int):O R :=
 (cond (decide (c≥0)) (cond (Ac c d) (An .u32 (e.drop ((c.toNat)*1)) fun m=>(cond (Ac c 0) (An .u32 (f.drop (0+((c.toNat)*1))) fun o=>(cond (decide (m<o)) (r0 (-1)) (cond (Ac c d) (An .u32 (e.drop ((c.toNat)*1)) fun p=>(cond (Ac c 0) (An .u32 (f.drop (0+((c.toNat)*1))) fun q=>(cond (decide (p>q)) (r0 1) (k0 (wrap .i64 (c - 1))))) none)) none))) none)) none) (r0 0))
def Qv (r0:Int→O R) (e:LA) (d:Nat) (b:Bool) (f:LA):Nat→Int→O R
 | 0,_=>none
 | n+1,c=>(EM N r0 e d b f (Qv r0 e d b f n) c)
def II (r0:Int→O R) (q0:LA→Nat→LA→Int→O R) (g:LA) (i:Nat) (l b:Bool):O R :=
 (Ci N g i l b (fun e d=>(DD N (fun f=>(cond (((d:Nat):Int) != 0) (cond (decide (((d:Nat):Int)<0)) (r0 (-1)) (r0 1)) (q0 e d f (wrap .i64 (((d:Nat):Int) - 1))))))))
def Si:=(Ah (fun (N:Nat) (g:LA) (i:Nat) (l b:Bool) (r0:Int→O R)=>(II N r0 (fun e d f c=>(Qv N r0 e d b f N c)) g i l b))).1
theorem bU (g i l b r0):(@Si R N g i l b r0)=(II N r0 (fun e d f c=>(Qv N r0 e d b f N c)) g i l b):=by rw[Si,(Ah _).2]
def Nn (a:LA) (h:Am) (k:KF R):O R :=
 match a,h with
 | [(.imm g i 1 l b)],[]=>(Ci N g i l b (Li b k))
 | [.nsl],[]=>(DD N (Ue k))
 | _,_=>none
theorem Ob:Ap N 171 @Nn:=by
 intro R Q a h k j;unfold Nn;split;exact A0 (Pp ..) (Pp ..) trivial;exact A0 (nn ..) (nn ..) trivial;exact A3
def EO:=A1 (Ob N)
def EP:=Ce (Ob N)
def np:D9:=[(171,EO N)]
def Ajk (F:KF R):=Jw Tryz.f132 Ama (np N) [] N F
def Qw (F:KF R):Int→O R:=(fun r=>F (iv r) [])
def Ajl (e:LA) (d:Nat) (b:Bool) (f:LA) (c:Int):St:=⟨[(0,(.imm e d 1 false b)),(1,(.own 300000 0 0)),(5,(iv c))],(hq [(bQ 1 f)])⟩
def Ajm (F:KF R):=Ajk N F [1,1,1,0,1,0] []
theorem NM (F:KF R) (e:LA) (d:Nat) (b:Bool) (f:LA):∀ (n:Nat) (c:Int),Ao (Ajm N F) n (Ajl e d b f c)=(Qv N (Qw F) e d b f n c)
 | 0,_=>by kernel_rfl
 | n+1,c=>Eq.trans (by kernel_rfl) (Bp (EM N (Qw F) e d b f · c) (funext fun c=>(NM F e d b f n c)):_)
theorem ip (g:LA) (i:Nat) (l b:Bool) (F:KF R):Ch (np N) Ama N 132 [(.imm g i 1 l b),.nsl] [] F=(Si N g i l b (Qw F)):=by
 rw[bU]
 exact Eq.trans (by kernel_rfl) (Bp (II N (Qw F) · g i l b) (funext fun e=>funext fun d=>funext fun f=>funext fun c=>(Aj ..).trans (NM N F e d b f N c)):_)
def bV (a:LA) (h:Am) (k:KF R):O R :=
 match a,h with
 | [(.imm g i 1 l b),.nsl],[]=>(Si N g i l b (Qw k))
 | _,_=>none
theorem iq:Ap N 132 @bV:=by
 intro R Q a h k j;unfold bV;split;exact A0 (ip ..) (ip ..) ⟨EP N,trivial⟩;exact A3
def iw:=A1 (iq N)
def ix:=Ce (iq N)
def fi (b:LA) (c:Bool) (r0:LA→Bool→LA→Nat→Bool→O R):O R :=
 (Co 1 (b.drop 2) fun d e=>(Si N d e false c (fun f=>(cond (f==0) (r0 [(.bool false),.nsl] false [(.int .u32 1)] 1 false) (cond (Nat.ble 2 (b.length)) (Co 1 (b.drop 2) fun g i=>(cond ((Nat.beq 0 0)&&((Nat.beq ((b.take 2).length) 2)&&(Nat.beq 2 2))) (cond (Nat.ble 2 ((b.take 2).length)) (r0 ((b.take 2).take 2) c g i c) none) none)) none)))))
def Mn:=(Ah (@fi R)).1
theorem SO:@Mn R=@fi R:=(Ah _).2
def Auy:Hints:={ H:=hL,nils:=[(3,1)],modes:=[(3,0),(1,1)] }
def Azk:D9:=[(132,iw N)]
def v8 (F:KF R):LA→Bool→LA→Nat→Bool→O R:=(fun l m n o p=>F (.tup [(.pagg l m),(.imm n o 1 false p)]) [])
theorem v9 (b:LA) (c:Bool) (F:KF R):Ch (Azk N) Auy N 101 [(.pagg b c)] [] F=(Mn N b c (v8 F)):=by
 rw[SO]
 kernel_rfl
def nq (a:LA) (h:Am) (k:KF R):O R :=
 match a,h with
 | [(.pagg b c)],[]=>(Mn N b c (v8 k))
 | _,_=>none
theorem v_:Ap N 101 @nq:=by
 intro R Q a h k j;unfold nq;split;exact A0 (v9 ..) (v9 ..) ⟨ix N,trivial⟩;exact A3
def Ye:=A1 (v_ N)
def Yf:=Ce (v_ N)
def Acs (b:LA) (c:Bool) (r0:Int→O R):O R :=
 (Co 1 (b.drop 1) fun d e=>(Si N d e false c (fun f=>(cond (f==0) (r0 0) (NC b fun g=>(cond g (r0 (-1)) (r0 1)))))))
def SP:=(Ah (@Acs R)).1
theorem va:@SP R=@Acs R:=(Ah _).2
def A4j:D9:=[(132,iw N)]
def Acu (F:KF R):Int→O R:=(fun i=>F (iv i) [])
theorem Acv (b:LA) (c:Bool) (F:KF R):Ch (A4j N) Dj N 144 [(.pagg b c)] [] F=(SP N b c (Acu F)):=by
 rw[va]
 kernel_rfl
def vd (a:LA) (h:Am) (k:KF R):O R :=
 match a,h with
 | [(.pagg b c)],[]=>(SP N b c (Acu k))
 | _,_=>none
theorem Acw:Ap N 144 @vd:=by
 intro R Q a h k j;unfold vd;split;exact A0 (Acv ..) (Acv ..) ⟨ix N,trivial⟩;exact A3
def Acx:=A1 (Acw N)
def Acy:=Ce (Acw N)
def Acz (b:LA) (c:Bool) (r0:Int→O R):O R :=
 (cond (Nat.ble 3 (b.length)) (Mn N (b.take 3) c (fun d e i l m=>(cond ((Nat.beq 0 0)&&((Nat.beq (d.length) 2)&&(Nat.beq 2 2))) (cond (Nat.ble 2 (d.length)) (SP N (d.take 2) e (fun f=>(r0 f))) none) none))) none)
def Rs:=(Ah (@Acz R)).1
theorem ve:@Rs R=@Acz R:=(Ah _).2
def A4k:D9:=[(101,Ye N),(144,Acx N)]
def Ac0 (F:KF R):Int→O R:=(fun g=>F (iv g) [])
theorem Ac1 (b:LA) (c:Bool) (F:KF R):Ch (A4k N) Dj N 95 [(.pagg b c)] [] F=(Rs N b c (Ac0 F)):=by
 rw[ve]
 kernel_rfl
def vf (a:LA) (h:Am) (k:KF R):O R :=
 match a,h with
 | [(.pagg b c)],[]=>(Rs N b c (Ac0 k))
 | _,_=>none
theorem Ac2:Ap N 95 @vf:=by
 intro R Q a h k j;unfold vf;split;exact A0 (Ac1 ..) (Ac1 ..) ⟨Yf N,Acy N,trivial⟩;exact A3
def SQ:=A1 (Ac2 N)
def SR:=Ce (Ac2 N)
def EQ (N:Nat) (b:Int) (r0:Bool→O R):O R :=
 (r0 (b != b))
def Qx:=(Ah (@EQ R)).1
theorem IJ:@Qx R=@EQ R:=(Ah _).2
def NN (F:KF R):Bool→O R:=(fun c=>F (.bool c) [])
theorem NO (b:Int) (F:KF R):Ch [] Dj N 145 [(iv b)] [] F=(Qx N b (NN F)):=by
 rw[IJ]
 kernel_rfl
def IK (a:LA) (h:Am) (k:KF R):O R :=
 match a,h with
 | [(.int .i64 b)],[]=>(Qx N b (NN k))
 | _,_=>none
theorem NP:Ap N 145 @IK:=by
 intro R Q a h k j;unfold IK;split;exact A0 (NO ..) (NO ..) trivial;exact A3
def sK:=A1 (NP N)
def sL:=Ce (NP N)
def Wk (b c:Int) (r0:Int→O R):O R :=
 (Qx N b (fun e=>(Qx N c (fun d=>(cond e (cond d (r0 0) (r0 (-1))) (cond d (r0 1) (cond (decide (b<c)) (r0 (-1)) (cond (decide (b>c)) (r0 1) (r0 0)))))))))
def Mo:=(Ah (@Wk R)).1
theorem Z9:@Mo R=@Wk R:=(Ah _).2
def nr:D9:=[(145,sK N)]
def ER (F:KF R):Int→O R:=(fun f=>F (iv f) [])
theorem ES (b c:Int) (F:KF R):Ch (nr N) Dj N 98 [(iv b),(iv c)] [] F=(Mo N b c (ER F)):=by
 rw[Z9]
 kernel_rfl
def AA (a:LA) (h:Am) (k:KF R):O R :=
 match a,h with
 | [(.int .i64 b),(.int .i64 c)],[]=>(Mo N b c (ER k))
 | _,_=>none
theorem ET:Ap N 98 @AA:=by
 intro R Q a h k j;unfold AA;split;exact A0 (ES ..) (ES ..) ⟨sL N,trivial⟩;exact A3
def lL:=A1 (ET N)
def lM:=Ce (ET N)
def K4 (N:Nat) (r0:Int→O R) (c:LA) (b:Nat) (d e:Bool) (k0:Int→Int→Int→O R) (g i f:Int):O R :=
 (cond (decide (f<i)) (cond (Ac f b) (An .u32 (c.drop ((f.toNat)*1)) fun l=>(cond (decide ((wrap .i64 (32*f))<0)) none (k0 (Ta .u64 g (wrap .u64 ((wrap .u64 l)*2 ^ (min ((wrap .i64 (32*f)).toNat) 64)))) i (wrap .i64 (f+1))))) none) (r0 g))
def Jg (r0:Int→O R) (c:LA) (b:Nat) (d e:Bool):Nat→Int→Int→Int→O R
 | 0,_,_,_=>none
 | n+1,g,i,f=>(K4 N r0 c b d e (Jg r0 c b d e n) g i f)
def nv (N:Nat) (r0:Int→O R) (q0:Int→Int→Int→O R) (c:LA) (b:Nat) (d e:Bool):O R :=
 (q0 0 ((b:Nat):Int) 0)
def Rt:=(Ah (fun (N:Nat) (c:LA) (b:Nat) (d e:Bool) (r0:Int→O R)=>(nv N r0 (fun g i f=>(Jg N r0 c b d e N g i f)) c b d e))).1
theorem vg (c b d e r0):(@Rt R N c b d e r0)=(nv N r0 (fun g i f=>(Jg N r0 c b d e N g i f)) c b d e):=by rw[Rt,(Ah _).2]
def Ac3:Hints:={ H:=(hS hL (hS hL (hS (hS hL (hS (hP [3,6,7,8] hL) hL)) hL))) }
def Azl (F:KF R):=Jw Tryz.f181 Ac3 [] [] N F
def EU (F:KF R):Int→O R:=(fun m=>F (.int .u64 m) [])
def Azm (c:LA) (b:Nat) (d e:Bool) (g i f:Int):St:=⟨[(3,(.int .u64 g)),(6,(.imm c b 1 d e)),(7,(iv i)),(8,(iv f))],[]⟩
def Azn (F:KF R):=Azl N F [1,1,0,1,0] []
theorem iy (F:KF R) (c:LA) (b:Nat) (d e:Bool):∀ (n:Nat) (g i f:Int),Ao (Azn N F) n (Azm c b d e g i f)=(Jg N (EU F) c b d e n g i f)
 | 0,_,_,_=>by kernel_rfl
 | n+1,g,i,f=>Eq.trans (by kernel_rfl) (Bp (K4 N (EU F) c b d e · g i f) (funext fun g=>funext fun i=>funext fun f=>(iy F c b d e n g i f)):_)
theorem Ac4 (c:LA) (b:Nat) (d e:Bool) (F:KF R):Ch [] Ac3 N 181 [(.imm c b 1 d e)] [] F=(Rt N c b d e (EU F)):=by
 rw[vg]
 exact Eq.trans (by kernel_rfl) (Bp (nv N (EU F) · c b d e) (funext fun g=>funext fun i=>funext fun f=>(Aj ..).trans (iy N F c b d e N g i f)):_)
def vh (a:LA) (h:Am) (k:KF R):O R :=
 match a,h with
 | [(.imm c b 1 d e)],[]=>(Rt N c b d e (EU k))
 | _,_=>none
theorem Ac5:Ap N 181 @vh:=by
 intro R Q a h k j;unfold vh;split;exact A0 (Ac4 ..) (Ac4 ..) trivial;exact A3
def lN:=A1 (Ac5 N)
def lO:=Ce (Ac5 N)
def lP (c:LA) (d:Nat) (e b:Bool) (r0:Int→Bool→O R):O R :=
 (Ci N c d e b (fun g f=>(cond (decide (((f:Nat):Int)>2)) (r0 0 false) (Rt N g f false b (fun i=>(r0 i true))))))
def DE:=(Ah (@lP R)).1
theorem iz:@DE R=@lP R:=(Ah _).2
def Auz:D9:=[(171,Ub N),(181,lN N)]
def nw (F:KF R):Int→Bool→O R:=(fun l m=>F (.tup [(.int .u64 l),(.bool m)]) [])
theorem ny (c:LA) (d:Nat) (e b:Bool) (F:KF R):Ch (Auz N) Dj N 146 [(.imm c d 1 e b)] [] F=(DE N c d e b (nw F)):=by
 rw[iz]
 kernel_rfl
def jA (a:LA) (h:Am) (k:KF R):O R :=
 match a,h with
 | [(.imm c d 1 e b)],[]=>(DE N c d e b (nw k))
 | _,_=>none
theorem nz:Ap N 146 @jA:=by
 intro R Q a h k j;unfold jA;split;exact A0 (ny ..) (ny ..) ⟨Uc N,lO N,trivial⟩;exact A3
def Aqc:=A1 (nz N)
def Aqd:=Ce (nz N)
def F6 (N:Nat) (r0:Int→Int→Bool→O R) (e d:Int) (c:Bool) (b:LA) (f:Bool):O R :=
 (cond f (r0 0 0 false) (cond (d==0) (r0 0 1 true) (NC b fun g=>(cond g (r0 (wrap .i64 ((0:Int) - (wrap .i64 e))) (wrap .i64 d) true) (r0 (wrap .i64 e) (wrap .i64 d) true)))))
def DF (r0:Int→Int→Bool→O R) (q0:Int→Int→Bool→O R) (b:LA) (c:Bool):O R :=
 (Co 1 (b.drop 1) fun i l=>(DE N i l false c (fun e m=>(Co 1 (b.drop 2) fun n o=>(DE N n o false c (fun d p=>(cond ((!m)==false) (cond ((cond false true (!p))==false) (cond ((cond false true (decide (e≥2147483648)))==false) (q0 e d (cond false true (decide (d≥2147483648)))) (q0 e d true)) (q0 e d true)) (q0 e d true))))))))
def G0:=(Ah (fun (N:Nat) (b:LA) (c:Bool) (r0:Int→Int→Bool→O R)=>(DF N r0 (fun e d f=>(F6 N r0 e d c b f)) b c))).1
theorem CB (b c r0):(@G0 R N b c r0)=(DF N r0 (fun e d f=>(F6 N r0 e d c b f)) b c):=by rw[G0,(Ah _).2]
def vj:Hints:={ H:=(hS hL (hS hL (hS hL (hS (hS (hJ [1,5,6,21] hL hL) hL) hL)))) }
def Ac6:D9:=[(146,Aqc N)]
def Au0 (F:KF R):=Jw Tryz.f99 vj (Ac6 N) [] N F
def IL (F:KF R):Int→Int→Bool→O R:=(fun q r s=>F (.tup [(iv q),(iv r),(.bool s)]) [])
def Au1 (e d:Int) (c:Bool) (b:LA) (f:Bool):St:=⟨[(1,(op 0)),(5,(.int .u64 e)),(6,(.int .u64 d)),(21,(.bool f))],(hq [(bP c 0 b)])⟩
def Au2 (F:KF R):=Au0 N F [1,1,1,0,0,1] []
theorem Ac7 (F:KF R) (e d:Int) (c:Bool) (b:LA):∀ (f:Bool),A9 (Au2 N F) (Au1 e d c b f)=(F6 N (IL F) e d c b f):=by
 intro f
 kernel_rfl
theorem vn (b:LA) (c:Bool) (F:KF R):Ch (Ac6 N) vj N 99 [(.pagg b c)] [] F=(G0 N b c (IL F)):=by
 rw[CB]
 exact Eq.trans (by kernel_rfl) (Bp (DF N (IL F) · b c) (funext fun e=>funext fun d=>funext fun f=>(At ..).trans (Ac7 N F e d c b f)):_)
def oA (a:LA) (h:Am) (k:KF R):O R :=
 match a,h with
 | [(.pagg b c)],[]=>(G0 N b c (IL k))
 | _,_=>none
theorem vq:Ap N 99 @oA:=by
 intro R Q a h k j;unfold oA;split;exact A0 (vn ..) (vn ..) ⟨Aqd N,trivial⟩;exact A3
def IM:=A1 (vq N)
def IN:=Ce (vq N)
def Wl (N:Nat) (b:Int) (r0:Bool→O R):O R :=
 (r0 (b != b))
def Mp:=(Ah (@Wl R)).1
theorem AB:@Mp R=@Wl R:=(Ah _).2
def EV (F:KF R):Bool→O R:=(fun c=>F (.bool c) [])
theorem EW (b:Int) (F:KF R):Ch [] Dj N 147 [(iv b)] [] F=(Mp N b (EV F)):=by
 rw[AB]
 kernel_rfl
def AC (a:LA) (h:Am) (k:KF R):O R :=
 match a,h with
 | [(.int .i64 b)],[]=>(Mp N b (EV k))
 | _,_=>none
theorem EX:Ap N 147 @AC:=by
 intro R Q a h k j;unfold AC;split;exact A0 (EW ..) (EW ..) trivial;exact A3
def lQ:=A1 (EX N)
def lR:=Ce (EX N)
def Sj (b c:Int) (r0:Int→O R):O R :=
 (Mp N b (fun e=>(Mp N c (fun d=>(cond e (cond d (r0 0) (r0 (-1))) (cond d (r0 1) (cond (decide (b<c)) (r0 (-1)) (cond (decide (b>c)) (r0 1) (r0 0)))))))))
def It:=(Ah (@Sj R)).1
theorem Vp:@It R=@Sj R:=(Ah _).2
def gW:D9:=[(147,lQ N)]
def Yg (F:KF R):Int→O R:=(fun f=>F (iv f) [])
theorem Yh (b c:Int) (F:KF R):Ch (gW N) Dj N 100 [(iv b),(iv c)] [] F=(It N b c (Yg F)):=by
 rw[Vp]
 kernel_rfl
def Vq (a:LA) (h:Am) (k:KF R):O R :=
 match a,h with
 | [(.int .i64 b),(.int .i64 c)],[]=>(It N b c (Yg k))
 | _,_=>none
theorem Yi:Ap N 100 @Vq:=by
 intro R Q a h k j;unfold Vq;split;exact A0 (Yh ..) (Yh ..) ⟨lR N,trivial⟩;exact A3
def bW:=A1 (Yi N)
def bX:=Ce (Yi N)
def ST (N:Nat) (k1:Nat→Int→Int→LA→O R) (r0:Nat→LA→O R) (f:LA) (b:Nat) (e:Bool) (l:Nat) (g r:Int) (i:LA) (d:Nat) (c:Bool) (m:Int) (k2:Int→Int→Int→LA→O R) (s t o:Int) (q:LA):O R :=
 (cond (decide (o<t)) (cond (Ac o b) (An .u32 (f.drop ((o.toNat)*1)) fun aa=>(cond (Ac (wrap .i64 (g+o)) l) (An .u32 (q.drop (0+(((wrap .i64 (g+o)).toNat)*1))) fun ab=>(cond (Ac (wrap .i64 (g+o)) l) (cond ((Nat.beq 1 1)&&((Nat.ble ((0+(((wrap .i64 (g+o)).toNat)*1))+1) (q.length))&&(!false))) (k2 (Int.fdiv (wrap .u64 (s+(wrap .u64 ((wrap .u64 ((wrap .u64 r)*(wrap .u64 aa)))+(wrap .u64 ab))))) (2 ^ 32)) t (wrap .i64 (o+1)) (q.set (0+(((wrap .i64 (g+o)).toNat)*1)) (.int .u32 (wrap .u32 (wrap .u64 (s+(wrap .u64 ((wrap .u64 ((wrap .u64 r)*(wrap .u64 aa)))+(wrap .u64 ab))))))))) none) none)) none)) none) (cond (Ac (wrap .i64 (g+((b:Nat):Int))) l) (cond ((Nat.beq 1 1)&&((Nat.ble ((0+(((wrap .i64 (g+((b:Nat):Int))).toNat)*1))+1) (q.length))&&(!false))) (k1 l m (wrap .i64 (g+1)) (q.set (0+(((wrap .i64 (g+((b:Nat):Int))).toNat)*1)) (.int .u32 (wrap .u32 s)))) none) none))
def Wm (k1:Nat→Int→Int→LA→O R) (r0:Nat→LA→O R) (f:LA) (b:Nat) (e:Bool) (l:Nat) (g r:Int) (i:LA) (d:Nat) (c:Bool) (m:Int):Nat→Int→Int→Int→LA→O R
 | 0,_,_,_,_=>none
 | n+1,s,t,o,q=>(ST N k1 r0 f b e l g r i d c m (Wm k1 r0 f b e l g r i d c m n) s t o q)
def EY (r0:Nat→LA→O R) (f:LA) (b:Nat) (e:Bool) (i:LA) (d:Nat) (c:Bool) (k1:Nat→Int→Int→LA→O R) (q2:Int→Int→Int→Int→LA→O R) (l:Nat) (m g:Int) (p:LA):O R :=
 (cond (decide (g<m)) (cond (Ac g d) (An .u32 (i.drop ((g.toNat)*1)) fun r=>(cond (r==0) (k1 l m (wrap .i64 (g+1)) p) (q2 r 0 ((b:Nat):Int) 0 p))) none) (Wj N l p (fun ad=>(r0 ad p))))
def Pq (r0:Nat→LA→O R) (f:LA) (b:Nat) (e:Bool) (i:LA) (d:Nat) (c:Bool):Nat→Nat→Int→Int→LA→O R
 | 0,_,_,_,_=>none
 | n+1,l,m,g,p=>(EY N r0 f b e i d c (Pq r0 f b e i d c n) (fun r s t o q=>(Wm N (Pq r0 f b e i d c n) r0 f b e l g r i d c m N s t o q)) l m g p)
def lS (N:Nat) (r0:Nat→LA→O R) (i:LA) (d:Nat) (c:Bool) (f:LA) (b:Nat) (e:Bool) (q1:Nat→Int→Int→LA→O R):O R :=
 (cond ((decide (0≤(wrap .i64 (((d:Nat):Int)+((b:Nat):Int)))))&&((decide ((wrap .i64 (((d:Nat):Int)+((b:Nat):Int)))≤(wrap .i64 (((d:Nat):Int)+((b:Nat):Int)))))&&((decide ((wrap .i64 (((d:Nat):Int)+((b:Nat):Int)))≤140737488355328))&&(decide (((wrap .i64 (((d:Nat):Int)+((b:Nat):Int)))*((4:Nat):Int))≤140737488355328))))) (q1 ((wrap .i64 (((d:Nat):Int)+((b:Nat):Int))).toNat) ((d:Nat):Int) 0 (List.replicate ((wrap .i64 (((d:Nat):Int)+((b:Nat):Int))).toNat) (.int .u32 0))) none)
def fj (r0:Nat→LA→O R) (i:LA) (d:Nat) (c:Bool) (f:LA) (b:Nat) (e:Bool):O R:=(lS N r0 i d c f b e (fun l m g p=>(Pq N r0 f b e i d c N l m g p)))
def fk (r0:Nat→LA→O R) (q0:LA→Nat→LA→Nat→O R) (v:LA) (u:Nat) (w c:Bool) (x:LA) (y:Nat) (z e:Bool):O R :=
 (Ci N v u w c (fun i d=>(Ci N x y z e (fun f b=>(cond ((((d:Nat):Int)==0)==false) (cond (cond false true (((b:Nat):Int)==0)) (r0 0 []) (q0 i d f b)) (r0 0 []))))))
def LY:=(Ah (fun (N:Nat) (v:LA) (u:Nat) (w c:Bool) (x:LA) (y:Nat) (z e:Bool) (r0:Nat→LA→O R)=>(fk N r0 (fun i d f b=>(fj N r0 i d c f b e)) v u w c x y z e))).1
theorem SU (v u w c x y z e r0):(@LY R N v u w c x y z e r0)=(fk N r0 (fun i d f b=>(fj N r0 i d c f b e)) v u w c x y z e):=by rw[LY,(Ah _).2]
def Amf:Hints:={ H:=(hS hL (hS hL (hJ [0,1] hL (hS hL (hS (hS hL (hS (hP [1,5,29,30,31] (hS hL (hS hL (hS (hS (hS hL (hS hL (hS hL (hS (hS hL (hS (hP [1,5,6,7,8,29,30,31,38,39,40] hL) hL)) hL)))) hL) hL)))) hL)) hL))))),nils:=[(4,1)],modes:=[(2,1)] }
def Qy (a:LA) (h:Am) (k:KF R):O R :=
 match a,h with
 | [(.imm v u 1 w c)],[]=>(Ci N v u w c (Li c k))
 | [(.own 100000 0 u)],[(100000,⟨false,false,true,false,1,ac,false⟩)]=>(Wj N u ac (DC ac k))
 | _,_=>none
theorem Td:Ap N 171 @Qy:=by
 intro R Q a h k j;unfold Qy;split;exact A0 (Pp ..) (Pp ..) trivial;exact A0 (fh ..) (fh ..) trivial;exact A3
def Gg:=A1 (Td N)
def Gh:=Ce (Td N)
def Au3:D9:=[(171,Gg N)]
def sM (F:KF R):=Jw Tryz.f135 Amf (Au3 N) [] N F
def M8 (F:KF R):Nat→LA→O R:=(fun ae af=>F (.own 300000 0 ae) (hq [(bQ 1 af)]))
def A4l (f:LA) (b:Nat) (e:Bool) (l:Nat) (g r:Int) (i:LA) (d:Nat) (c:Bool) (m s t o:Int) (q:LA):St:=⟨[(1,(.imm f b 1 false e)),(5,(.own 300000 0 l)),(6,(iv g)),(7,(.int .u32 r)),(8,(.int .u64 s)),(29,(.imm i d 1 false c)),(30,(iv m)),(31,(iv g)),(38,(.imm f b 1 false e)),(39,(iv t)),(40,(iv o))],(hq [(bQ 1 q)])⟩
def A4m (F:KF R) (Q1:St→O R):=sM N F [1,1,1,1,0,1,0,0,1,1,0,0,1,1,1,0,1,0] [Q1]
def sN (f:LA) (b:Nat) (e:Bool) (i:LA) (d:Nat) (c:Bool) (l:Nat) (m g:Int) (p:LA):St:=⟨[(1,(.imm f b 1 false e)),(5,(.own 300000 0 l)),(29,(.imm i d 1 false c)),(30,(iv m)),(31,(iv g))],(hq [(bQ 1 p)])⟩
def Amg (F:KF R):=sM N F [1,1,1,1,0,1,0] []
def A4n (i:LA) (d:Nat) (c:Bool) (f:LA) (b:Nat) (e:Bool):St:=⟨[(0,(.imm i d 1 false c)),(1,(.imm f b 1 false e))],[]⟩
def A4o (F:KF R):=sM N F [1,1,1] []
theorem oB (Q1:St→O R) (F:KF R) (f:LA) (b:Nat) (e:Bool) (l:Nat) (g r:Int) (i:LA) (d:Nat) (c:Bool) (m:Int):∀ (n:Nat) (s t o:Int) (q:LA),Ao (A4m N F Q1) n (A4l f b e l g r i d c m s t o q)=(Wm N (fun l m g p=>Q1 (sN f b e i d c l m g p)) (M8 F) f b e l g r i d c m n s t o q)
 | 0,_,_,_,_=>by kernel_rfl
 | n+1,s,t,o,q=>Eq.trans (by kernel_rfl) (Bp (ST N (fun l m g p=>Q1 (sN f b e i d c l m g p)) (M8 F) f b e l g r i d c m · s t o q) (funext fun s=>funext fun t=>funext fun o=>funext fun q=>(oB Q1 F f b e l g r i d c m n s t o q)):_)
theorem oC (F:KF R) (f:LA) (b:Nat) (e:Bool) (i:LA) (d:Nat) (c:Bool):∀ (n l:Nat) (m g:Int) (p:LA),Ao (Amg N F) n (sN f b e i d c l m g p)=(Pq N (M8 F) f b e i d c n l m g p)
 | 0,_,_,_,_=>by kernel_rfl
 | n+1,l,m,g,p=>have e0:=(funext fun l=>funext fun m=>funext fun g=>funext fun p=>(oC F f b e i d c n l m g p))
  Eq.trans (by kernel_rfl) (VS (EY N (M8 F) f b e i d c · · l m g p) e0 (funext fun r=>funext fun s=>funext fun t=>funext fun o=>funext fun q=>(Aj ..).trans ((oB N (Ao (Amg N F) n) F f b e l g r i d c m N s t o q).trans (Bp (Wm N · (M8 F) f b e l g r i d c m N s t o q) e0))):_)
theorem Aqe (F:KF R) (i:LA) (d:Nat) (c:Bool) (f:LA) (b:Nat) (e:Bool):A9 (A4o N F) (A4n i d c f b e)=(fj N (M8 F) i d c f b e):=by
 exact Eq.trans (by kernel_rfl) (Bp (lS N (M8 F) i d c f b e ·) (funext fun l=>funext fun m=>funext fun g=>funext fun p=>(Aj ..).trans (oC N F f b e i d c N l m g p)):_)
theorem Amh (v:LA) (u:Nat) (w c:Bool) (x:LA) (y:Nat) (z e:Bool) (F:KF R):Ch (Au3 N) Amf N 135 [(.imm v u 1 w c),(.imm x y 1 z e)] [] F=(LY N v u w c x y z e (M8 F)):=by
 rw[SU]
 exact Eq.trans (by kernel_rfl) (Bp (fk N (M8 F) · v u w c x y z e) (funext fun i=>funext fun d=>funext fun f=>funext fun b=>(At ..).trans (Aqe N F i d c f b e)):_)
def Ac8 (a:LA) (h:Am) (k:KF R):O R :=
 match a,h with
 | [(.imm v u 1 w c),(.imm x y 1 z e)],[]=>(LY N v u w c x y z e (M8 k))
 | _,_=>none
theorem Ami:Ap N 135 @Ac8:=by
 intro R Q a h k j;unfold Ac8;split;exact A0 (Amh ..) (Amh ..) ⟨Gh N,trivial⟩;exact A3
def fl:=A1 (Ami N)
def fm:=Ce (Ami N)
def Aqf (b:LA) (d:Bool) (c:LA) (e:Bool) (r0:Bool→Nat→LA→O R):O R :=
 (NC b fun i=>(NC c fun l=>(Co 1 (b.drop 1) fun m n=>(Co 1 (c.drop 1) fun o p=>(LY N m n false d o p false e (fun f g=>(J9 N (!(i==l)) f g (fun q=>(r0 q f g)))))))))
def SV:=(Ah (@Aqf R)).1
theorem Ac9:@SV R=@Aqf R:=(Ah _).2
def A7p:D9:=[(135,fl N),(148,B' N)]
def Amj (F:KF R):Bool→Nat→LA→O R:=(fun r s t=>F (.agg [(.bool r),(.own 300000 0 s)]) (hq [(bQ 1 t)]))
theorem Amk (b:LA) (d:Bool) (c:LA) (e:Bool) (F:KF R):Ch (A7p N) Dj N 103 [(.pagg b d),(.pagg c e)] [] F=(SV N b d c e (Amj F)):=by
 rw[Ac9]
 kernel_rfl
def Ada (a:LA) (h:Am) (k:KF R):O R :=
 match a,h with
 | [(.pagg b d),(.pagg c e)],[]=>(SV N b d c e (Amj k))
 | _,_=>none
theorem Aml:Ap N 103 @Ada:=by
 intro R Q a h k j;unfold Ada;split;exact A0 (Amk ..) (Amk ..) ⟨fm N,CA N,trivial⟩;exact A3
def sO:=A1 (Aml N)
def sP:=Ce (Aml N)
def No (N:Nat) (r0:Int→O R) (g:LA) (e:Nat) (c:Bool) (i:LA) (f:Nat) (d:Bool) (k0:Int→O R) (b:Int):O R :=
 (cond (decide (b≥0)) (cond (Ac b e) (An .u32 (g.drop ((b.toNat)*1)) fun s=>(cond (Ac b f) (An .u32 (i.drop ((b.toNat)*1)) fun t=>(cond (decide (s<t)) (r0 (-1)) (cond (Ac b e) (An .u32 (g.drop ((b.toNat)*1)) fun u=>(cond (Ac b f) (An .u32 (i.drop ((b.toNat)*1)) fun v=>(cond (decide (u>v)) (r0 1) (k0 (wrap .i64 (b - 1))))) none)) none))) none)) none) (r0 0))
def Ff (r0:Int→O R) (g:LA) (e:Nat) (c:Bool) (i:LA) (f:Nat) (d:Bool):Nat→Int→O R
 | 0,_=>none
 | n+1,b=>(No N r0 g e c i f d (Ff r0 g e c i f d n) b)
def Uf (r0:Int→O R) (q0:LA→Nat→LA→Nat→Int→O R) (l:LA) (m:Nat) (o c:Bool) (p:LA) (q:Nat) (r d:Bool):O R :=
 (Ci N l m o c (fun g e=>(Ci N p q r d (fun i f=>(cond (((e:Nat):Int) != ((f:Nat):Int)) (cond (decide (((e:Nat):Int)<((f:Nat):Int))) (r0 (-1)) (r0 1)) (q0 g e i f (wrap .i64 (((e:Nat):Int) - 1))))))))
def D2:=(Ah (fun (N:Nat) (l:LA) (m:Nat) (o c:Bool) (p:LA) (q:Nat) (r d:Bool) (r0:Int→O R)=>(Uf N r0 (fun g e i f b=>(Ff N r0 g e c i f d N b)) l m o c p q r d))).1
theorem IP (l m o c p q r d r0):(@D2 R N l m o c p q r d r0)=(Uf N r0 (fun g e i f b=>(Ff N r0 g e c i f d N b)) l m o c p q r d):=by rw[D2,(Ah _).2]
def WA:D9:=[(171,Ub N)]
def sQ (F:KF R):=Jw Tryz.f132 Ama (WA N) [] N F
def Ka (F:KF R):Int→O R:=(fun w=>F (iv w) [])
def sR (g:LA) (e:Nat) (c:Bool) (i:LA) (f:Nat) (d:Bool) (b:Int):St:=⟨[(0,(.imm g e 1 false c)),(1,(.imm i f 1 false d)),(5,(iv b))],[]⟩
def sS (F:KF R):=sQ N F [1,1,1,0,1,0] []
theorem AD (F:KF R) (g:LA) (e:Nat) (c:Bool) (i:LA) (f:Nat) (d:Bool):∀ (n:Nat) (b:Int),Ao (sS N F) n (sR g e c i f d b)=(Ff N (Ka F) g e c i f d n b)
 | 0,_=>by kernel_rfl
 | n+1,b=>Eq.trans (by kernel_rfl) (Bp (No N (Ka F) g e c i f d · b) (funext fun b=>(AD F g e c i f d n b)):_)
theorem NQ (l:LA) (m:Nat) (o c:Bool) (p:LA) (q:Nat) (r d:Bool) (F:KF R):Ch (WA N) Ama N 132 [(.imm l m 1 o c),(.imm p q 1 r d)] [] F=(D2 N l m o c p q r d (Ka F)):=by
 rw[IP]
 exact Eq.trans (by kernel_rfl) (Bp (Uf N (Ka F) · l m o c p q r d) (funext fun g=>funext fun e=>funext fun i=>funext fun f=>funext fun b=>(Aj ..).trans (AD N F g e c i f d N b)):_)
def IQ (a:LA) (h:Am) (k:KF R):O R :=
 match a,h with
 | [(.imm l m 1 o c),(.imm p q 1 r d)],[]=>(D2 N l m o c p q r d (Ka k))
 | _,_=>none
theorem NR:Ap N 132 @IQ:=by
 intro R Q a h k j;unfold IQ;split;exact A0 (NQ ..) (NQ ..) ⟨Uc N,trivial⟩;exact A3
def Kb:=A1 (NR N)
def Kc:=Ce (NR N)
def bY (b:LA) (d:Bool) (c:LA) (e:Bool) (r0:Int→O R):O R :=
 (cond (Nat.ble 2 (b.length)) (SP N (b.take 2) d (fun f=>(cond (Nat.ble 2 (c.length)) (SP N (c.take 2) e (fun g=>(cond (decide (f<g)) (r0 (-1)) (cond (decide (f>g)) (r0 1) (cond (decide (f<0)) (Co 1 (c.drop 1) fun i l=>(Co 1 (b.drop 1) fun m n=>(D2 N i l false e m n false d (fun o=>(r0 o))))) (Co 1 (b.drop 1) fun p q=>(Co 1 (c.drop 1) fun r s=>(D2 N p q false d r s false e (fun t=>(r0 t)))))))))) none))) none)
def EZ:=(Ah (@bY R)).1
theorem bZ:@EZ R=@bY R:=(Ah _).2
def Aqg:D9:=[(144,Acx N),(132,Kb N)]
def jB (F:KF R):Int→O R:=(fun u=>F (iv u) [])
theorem jC (b:LA) (d:Bool) (c:LA) (e:Bool) (F:KF R):Ch (Aqg N) Dj N 102 [(.pagg b d),(.pagg c e)] [] F=(EZ N b d c e (jB F)):=by
 rw[bZ]
 kernel_rfl
def b6 (a:LA) (h:Am) (k:KF R):O R :=
 match a,h with
 | [(.pagg b d),(.pagg c e)],[]=>(EZ N b d c e (jB k))
 | _,_=>none
theorem jD:Ap N 102 @b6:=by
 intro R Q a h k j;unfold b6;split;exact A0 (jC ..) (jC ..) ⟨Acy N,Kc N,trivial⟩;exact A3
def Ajn:=A1 (jD N)
def Ajo:=Ce (jD N)
def Qz (r0:Int→O R) (d:Bool) (b:LA) (e:Bool) (c:LA):O R :=
 (cond (Nat.ble 3 (b.length)) (Mn N (b.take 3) d (fun f q r s i=>(cond ((Nat.beq 0 0)&&((Nat.beq (f.length) 2)&&(Nat.beq 2 2))) (cond (Nat.ble 3 (c.length)) (Mn N (c.take 3) e (fun g t u v l=>(cond ((Nat.beq 0 0)&&((Nat.beq (g.length) 2)&&(Nat.beq 2 2))) (cond (Nat.ble 2 (f.length)) (SV N (f.take 2) q [(.bool false),(.imm u v 1 false l)] (l||false) (fun w m x=>(cond (Nat.ble 2 (g.length)) (SV N (g.take 2) t [(.bool false),(.imm r s 1 false i)] (i||false) (fun y n z=>(EZ N [(.bool w),(.imm (x.take (m*1)) m 1 false true)] true [(.bool y),(.imm (z.take (n*1)) n 1 false true)] true (fun aa=>(r0 aa))))) none))) none) none))) none) none))) none)
def IR (r0:Int→O R) (q0:O R) (b:LA) (d:Bool) (c:LA) (e:Bool):O R :=
 (cond (Nat.ble 3 (b.length)) (Rs N (b.take 3) d (fun o=>(cond (Nat.ble 3 (c.length)) (Rs N (c.take 3) e (fun p=>(cond (o != p) (Mo N o p (fun ab=>(r0 ab))) (cond (Nat.ble 3 (b.length)) (G0 N (b.take 3) d (fun ac ad ae=>(cond (Nat.ble 3 (c.length)) (G0 N (c.take 3) e (fun af ag ah=>(cond (ae==true) (cond (cond true ah false) (It N (wrap .i64 (ac*ag)) (wrap .i64 (af*ad)) (fun ai=>(r0 ai))) q0) q0))) none))) none)))) none))) none)
def Fg:=(Ah (fun (N:Nat) (b:LA) (d:Bool) (c:LA) (e:Bool) (r0:Int→O R)=>(IR N r0 (Qz N r0 d b e c) b d c e))).1
theorem b7 (b d c e r0):(@Fg R N b d c e r0)=(IR N r0 (Qz N r0 d b e c) b d c e):=by rw[Fg,(Ah _).2]
def jE:Hints:={ H:=(hS hL (hS hL (hS hL (hS hL (hJ [2,3] hL hL))))) }
def oD:D9:=[(95,SQ N),(98,lL N),(99,IM N),(100,bW N),(101,Ye N),(103,sO N),(102,Ajn N)]
def Ajp (F:KF R):=Jw Tryz.f59 jE (oD N) [] N F
def Xe (F:KF R):Int→O R:=(fun aj=>F (iv aj) [])
def Ajq (d:Bool) (b:LA) (e:Bool) (c:LA):St:=⟨[(2,(op 0)),(3,(op 1))],(hq [(bP d 0 b),(bP e 0 c)])⟩
def Ajr (F:KF R):=Ajp N F [1,1,1,1,1] []
theorem sT (F:KF R) (d:Bool) (b:LA) (e:Bool) (c:LA):A9 (Ajr N F) (Ajq d b e c)=(Qz N (Xe F) d b e c):=by
 kernel_rfl
theorem jF (b:LA) (d:Bool) (c:LA) (e:Bool) (F:KF R):Ch (oD N) jE N 59 [(.pagg b d),(.pagg c e)] [] F=(Fg N b d c e (Xe F)):=by
 rw[b7]
 exact Eq.trans (by kernel_rfl) (Bp (IR N (Xe F) · b d c e) ((At ..).trans (sT N F d b e c)):_)
def b8 (a:LA) (h:Am) (k:KF R):O R :=
 match a,h with
 | [(.pagg b d),(.pagg c e)],[]=>(Fg N b d c e (Xe k))
 | _,_=>none
theorem jG:Ap N 59 @b8:=by
 intro R Q a h k j;unfold b8;split;exact A0 (jF ..) (jF ..) ⟨SR N,lM N,IN N,bX N,Yf N,sP N,Ajo N,trivial⟩;exact A3
def Q4:=A1 (jG N)
def Q5:=Ce (jG N)
def Mq (r0:LA→O R) (b c d:Int) (k1:Int→Int→O R) (e f:Int):O R :=
 (cond (f != 0) (cond (f==0) none (k1 f (Int.tmod e f))) (cond (e==0) none (B7 N (wrap .u64 (Int.tdiv d e)) (fun g l=>(cond (e==0) none (B7 N (wrap .u64 (Int.tdiv (wrap .u64 c) e)) (fun i m=>(r0 [(.bool (decide (b<0))),(.imm (l.take (g*1)) g 1 false false),(.imm (m.take (i*1)) i 1 false false)]))))))))
def Dc (r0:LA→O R) (b c d:Int):Nat→Int→Int→O R
 | 0,_,_=>none
 | n+1,e,f=>(Mq N r0 b c d (Dc r0 b c d n) e f)
def Zs (N:Nat) (r0:LA→O R) (b c:Int) (q1:Int→Int→O R) (d:Int):O R :=
 (q1 (wrap .u64 c) d)
def Ug (r0:LA→O R) (b c:Int) (d:Int):O R:=(Zs N r0 b c (fun e f=>(Dc N r0 b c d N e f)) d)
def CC (N:Nat) (r0:LA→O R) (q0:Int→O R) (b c:Int):O R :=
 (cond (decide (b<0)) (q0 (wrap .u64 ((0:Int) - (wrap .u64 b)))) (q0 (wrap .u64 b)))
def Iu:=(Ah (fun (N:Nat) (b c:Int) (r0:LA→O R)=>(CC N r0 (fun d=>(Ug N r0 b c d)) b c))).1
theorem WB (b c r0):(@Iu R N b c r0)=(CC N r0 (fun d=>(Ug N r0 b c d)) b c):=by rw[Iu,(Ah _).2]
def b9:Hints:={ H:=(hS hL (hS hL (hJ [0,1,4,5] hL (hS hL (hS (hS (hP [0,1,4,5,6,7] hL) hL) hL))))),modes:=[(3,0)] }
def jH:D9:=[(149,Hc N)]
def b_ (F:KF R):=Jw Tryz.f131 b9 (jH N) [] N F
def Hr (F:KF R):LA→O R:=(fun o=>F (.pagg o false) [])
def Adb (b c d e f:Int):St:=⟨[(0,(iv b)),(1,(iv c)),(4,(op 0)),(5,(.int .u64 d)),(6,(.int .u64 e)),(7,(.int .u64 f))],(hq [⟨false,false,false,false,0,[(.bool false),.nsl,.nsl],false⟩])⟩
def Adc (F:KF R):=b_ N F [1,1,1,1,0,0] []
def Add (b c d:Int):St:=⟨[(0,(iv b)),(1,(iv c)),(4,(op 0)),(5,(.int .u64 d))],(hq [⟨false,false,false,false,0,[(.bool false),.nsl,.nsl],false⟩])⟩
def Ade (F:KF R):=b_ N F [1,1,1] []
theorem IS (F:KF R) (b c d:Int):∀ (n:Nat) (e f:Int),Ao (Adc N F) n (Adb b c d e f)=(Dc N (Hr F) b c d n e f)
 | 0,_,_=>by kernel_rfl
 | n+1,e,f=>Eq.trans (by kernel_rfl) (Bp (Mq N (Hr F) b c d · e f) (funext fun e=>funext fun f=>(IS F b c d n e f)):_)
theorem oE (F:KF R) (b c:Int):∀ (d:Int),A9 (Ade N F) (Add b c d)=(Ug N (Hr F) b c d):=by
 intro d
 exact Eq.trans (by kernel_rfl) (Bp (Zs N (Hr F) b c · d) (funext fun e=>funext fun f=>(Aj ..).trans (IS N F b c d N e f)):_)
theorem cA (b c:Int) (F:KF R):Ch (jH N) b9 N 131 [(iv b),(iv c)] [] F=(Iu N b c (Hr F)):=by
 rw[WB]
 exact Eq.trans (by kernel_rfl) (Bp (CC N (Hr F) · b c) (funext fun d=>(At ..).trans (oE N F b c d)):_)
def WC (a:LA) (h:Am) (k:KF R):O R :=
 match a,h with
 | [(.int .i64 b),(.int .i64 c)],[]=>(Iu N b c (Hr k))
 | _,_=>none
theorem cB:Ap N 131 @WC:=by
 intro R Q a h k j;unfold WC;split;exact A0 (cA ..) (cA ..) ⟨Hd N,trivial⟩;exact A3
def E_:=A1 (cB N)
def E':=Ce (cB N)
end
end Gx

namespace Gx
open Go Go.Proofs
section
variable {R:Type}
def fit (k N:Nat):Prop:=100*k+1000≤N∧k≤1000000000
theorem fit.le {j k N:Nat} (h:fit k N) (C:j≤k):fit j N:=⟨by have:=h.1;omega,by have:=h.2;omega⟩
theorem ct (x y:O R):cond true x y=x:=rfl
theorem cf (x y:O R):cond false x y=y:=rfl
theorem Au4 (x y:Bool):cond true x y=x:=rfl
theorem Bd7 (x y:Bool):cond false x y=y:=rfl
theorem Azo (c:Nat):((decide (((c+1:Nat):Int)>(0:Int)))==true)=true:=by simp
theorem Jh {j n:Nat} (h:j<n):decide ((j:Int)<(n:Int))=true:=by simp;omega
theorem Ku {j n:Nat} (h:n≤j):decide ((j:Int)<(n:Int))=false:=by simp;omega
theorem wS {j:Nat} (h:j≤1000000000000):IntKind.wrap .i64 ((j:Int)+1)=((j+1:Nat):Int):=by rw[i64 (by omega)];omega
theorem wP {j:Nat} (h:j≤1000000000000):IntKind.wrap .i64 (((j+1:Nat):Int) - 1)=(j:Int):=by rw[i64 (by omega)];omega
theorem wA {j k:Nat} (h:j+k≤1000000000000):IntKind.wrap .i64 ((j:Int)+(k:Int))=((j+k:Nat):Int):=by rw[i64 (by omega)];omega
theorem ZO {l:List Nat} {j:Nat} (h:j<l.length) {f:Int→O R}:An .u32 (List.drop ((Int.toNat (j:Int))*1) (Ae l)) f=f (l[j]:Nat):=by
 rw[Int.toNat_natCast,Nat.mul_one,Aug h]
theorem oF {l:List Nat} {j:Nat} (h:j<l.length) {f:Int→O R}:An .u32 (List.drop (0+((Int.toNat (j:Int))*1)) (Ae l)) f=f (l[j]:Nat):=by
 rw[Nat.zero_add,ZO h]
theorem Bbd {c a:Nat} (h:c≤a):((decide ((0:Int)≤(0:Int)))&&((decide ((0:Int)≤(c:Int)))&&((decide ((c:Int)≤(a:Int)))&&(decide ((a:Int)≤(a:Int))))))=true:=by
 simp;omega
theorem A64 {n:Nat} (h:n≤1000000000000):((decide ((0:Int)≤(n:Int)))&&((decide ((n:Int)≤(n:Int)))&&((decide ((n:Int)≤(140737488355328:Int)))&&(decide (((n:Int)*((4:Nat):Int))≤(140737488355328:Int))))))=true:=by
 simp;omega
theorem Al1 {x:Nat} {m:List Nat} (h:x<m.length):((Nat.beq 1 1)&&((Nat.ble ((0+((Int.toNat (x:Int))*1))+1) (List.length (Ae m)))&&(!false)))=true:=by
 rw[B4,Int.toNat_natCast];simp;omega
theorem cC {x v:Nat} {m:List Nat}:List.set (Ae m) (0+((Int.toNat (x:Int))*1)) (.int .u32 (v:Int))=Ae (m.set x v):=by
 rw[Int.toNat_natCast,Nat.mul_one,Nat.zero_add,nL]
theorem Au5 {l:List Nat} (h:Al l):l.take (Ar (val l)).length=Ar (val l):=by
 obtain⟨k,C⟩:=Bt h
 rw[congrArg (List.take (Ar (val l)).length) k,List.take_left]
theorem M9 {l:List Nat} (h:Al l):List.take ((Ar (val l)).length*1) (Ae l)=Ae (Ar (val l)):=by rw[Nat.mul_one,Wg,Au5 h]
theorem A5 {l:List Nat} {c:Nat} (h:c<l.length):val (l.take (c+1))=val (l.take c)+4294967296 ^ c*l[c]:=by
 rw[List.take_succ_eq_append_getElem h,Ayy,List.length_take,Nat.min_eq_left (by omega)]
theorem Aqh {l:List Nat} {c:Nat} (k:Al l) (h:c<l.length) (C:l[c]≠0):Ar (val (l.take (c+1)))=l.take (c+1):=by
 apply Bb9 (Cq k _)
 intro D
 rw[List.getLast_eq_getElem]
 simp only[List.length_take,Nat.min_eq_left (show c+1≤l.length by omega),Nat.add_sub_cancel,List.getElem_take]
 exact C
theorem Adf {N:Nat} {l:List Nat} {K:Nat→O R} (C:Al l) (hs:l.length≤1000000000000):∀ (c fuel:Nat),c≤l.length→c<fuel →
  Wi N K l.length (Ae l) fuel (c:Int)=K (Ar (val (l.take c))).length
 | 0,fuel+1,D,_=>by
  rw[Wi];unfold SL
  rw[show decide (((0:Nat):Int)>0)=false by simp]
  rw[show((false:Bool)==true)=false by rfl,cf,Bbd (by omega),ct,Int.toNat_natCast];rfl
 | c+1,fuel+1,D,F=>by
  rw[Wi];unfold SL
  rw[Azo,ct,wP (by omega),Aa (by omega),ct,oF (by omega),Au4,Bbd (by omega),ct,Adf C hs c fuel (by omega) (by omega),Int.toNat_natCast]
  by_cases k:l[c]=0
  ·rw[A5 (by omega),k];simp
  ·rw[Aqh C (by omega) k,List.length_take,Nat.min_eq_left D]
   rw[show(((l[c]:Nat):Int)==0)=false by simp;exact k,cf]
theorem NS {N:Nat} {l:List Nat} {n:Nat} {K:Nat→O R} (hn:n=l.length) (C:Al l) (k:fit l.length N):Wj N n (Ae l) K=K (Ar (val l)).length:=by
 subst hn
 have D:=k.1;have F:=k.2
 rw[lJ];unfold nf
 dsimp only
 rw[Adf C (by omega) l.length N (Nat.le_refl _) (by omega),List.take_length]
theorem Amm {N:Nat} {l:List Nat} {t o:Bool} {K:LA→Nat→O R} (C:Al l) (hs:l.length≤1000000000000):∀ (c fuel:Nat),c≤l.length→c<fuel →
  Lh N K (Ae l) l.length t o fuel (c:Int)=K (Ae (Ar (val (l.take c)))) (Ar (val (l.take c))).length
 | 0,fuel+1,D,_=>by
  rw[Lh];unfold Xd
  rw[show decide (((0:Nat):Int)>0)=false by simp]
  rw[show((false:Bool)==true)=false by rfl,cf,Bbd (by omega),ct,Int.toNat_natCast];rfl
 | c+1,fuel+1,D,F=>by
  rw[Lh];unfold Xd
  rw[Azo,ct,wP (by omega),Aa (by omega),ct,ZO (by omega),Au4,Bbd (by omega),ct,Amm C hs c fuel (by omega) (by omega),Int.toNat_natCast,Nat.mul_one,Wg]
  by_cases k:l[c]=0
  ·rw[A5 (by omega),k];simp
  ·rw[Aqh C (by omega) k,List.length_take,Nat.min_eq_left D]
   rw[show(((l[c]:Nat):Int)==0)=false by simp;exact k,cf]
theorem B9 {N:Nat} {l:List Nat} {n:Nat} {t o:Bool} {K:LA→Nat→O R} (hn:n=l.length) (C:Al l) (k:fit l.length N):Ci N (Ae l) n t o K=K (Ae (Ar (val l))) (Ar (val l)).length:=by
 subst hn
 have D:=k.1;have F:=k.2
 rw[ii];unfold SM
 dsimp only
 rw[Amm C (by omega) l.length N (Nat.le_refl _) (by omega),List.take_length]
theorem A4p {N:Nat} {K:LA→O R} (hN:1≤N):DD N K=K []:=by
 rw[io];unfold SN
 cases N with
 | zero=>omega
 | succ N=>rw[Ud];rfl
end
end Gx

namespace Gx
open Go Go.RowKit
theorem A4q {P:Program} {f:Nat} {t:Tw} (G:A9w P f t) {W:World} {avs:LA} {vs:List Value} (hr:Reps (fun _ k=>k<W.heap.size) (fun _=>none) [] W avs vs)
  (D:(t.runK avs [] fun v h=>some (v,h))=some (.bool true,[])):Calls P f vs.toArray W fun e w'=>e=.returned (.bool true)∧Below W.heap.size W w':=by
 have S:SimH (fun _ k=>k<W.heap.size) (fun _=>none) [] W:=⟨fun _ _ h=>h,fun _ h=>h,fun b x C=>by simp[Au] at C,fun b x C=>by simp[Au] at C,fun b M x x' k o o' C=>by simp[Au] at C⟩
 refine Calls.mono (G avs [] _ _ D _ _ W vs S hr) ?_
 rintro e w' ⟨vc,J',β',rfl,F,I⟩
 rw[Rep] at I;subst I
 refine⟨rfl,F.os,F.tape,F.output,F.size,fun k L=>F.frame k L ?_⟩
 rintro⟨b,x,o,C,_⟩
 change Au [] b=some x at C
 simp[Au] at C
structure Opens (P:Program) (t:TypeId) {α:Type} (e:α→List AV) (n:Nat):Prop where
 size:P.cellsOf t=n
 pos:0<n
 len:∀ a,(e a).length=n
 read:∀ {H:Type} (enc:TypeId×Value→H) (W:World) (fuel:Nat) (cs:List Value) (d:DataW H) (ps:List MemPlace),DataW.trod enc P W 0 (fun _=>true) true fuel t cs=some (d,ps) →
  cs.length=n∧∃ a,RepCs (fun k=>k<W.heap.size) W (e a) (fun j=>cs[j]?) 0
theorem Amn {P:Program} {t:TypeId} {k:IntKind} (C:P.underlying t=some (.int k)) (D:P.cellsOf t=1):Opens P t (α:={ n:Int // (Lit.int k n).wf=true }) (fun n=>[.int k n.1]) 1:=by
 refine⟨D,by omega,fun _=>rfl,fun enc W fuel cs d ps h=>?_⟩
 obtain⟨n,rfl,_,F⟩:=DataW.trod_int C h
 exact⟨rfl,⟨n,F⟩,by simp[RepCs,RepC]⟩
theorem vr {α β:Type} {e:α→List β} {n:Nat} (hn:0<n) (k:∀ a,(e a).length=n):∀ (l:List α) (j:Nat),(l.flatMap e)[j]?=(l[j/n]?).bind fun a=>(e a)[j%n]?
 | [],j=>by simp
 | a::r,j=>by
  rw[List.flatMap_cons]
  by_cases C:j<n
  ·rw[List.getElem?_append_left (by rw[k];exact C),Nat.div_eq_of_lt C,Nat.mod_eq_of_lt C];simp
  ·rw[List.getElem?_append_right (by rw[k];omega),k,vr hn k r (j - n)]
   have D:j/n=(j - n)/n+1:=by
    have:=Nat.add_div_right (j - n) hn
    rw[show j - n+n=j by omega] at this;exact this
   have F:j%n=(j - n)%n:=by
    have:=Nat.add_mod_right (j - n) n
    rw[show j - n+n=j by omega] at this;exact this
   rw[D,F];simp
theorem cD {α β:Type} {e:α→List β} {n:Nat} (k:∀ a,(e a).length=n):∀ (l:List α),(l.flatMap e).length=l.length*n
 | []=>by simp
 | a::r=>by rw[List.flatMap_cons,List.length_append,k,cD k r,List.length_cons,Nat.succ_mul];omega
theorem Au6 {α β:Type} {f:α→Option β}:∀ {l:List α} {r:List β},l.mapM f=some r→r.length=l.length∧∀ (i:Nat) (a:α),l[i]?=some a→f a=r[i]?
 | [],r,h=>by simp at h;subst h;simp
 | x::l,r,h=>by
  rw[List.mapM_cons] at h
  cases k:f x with
  | none=>simp[k] at h
  | some y =>
   cases C:l.mapM f with
   | none=>simp[k,C] at h
   | some ys =>
    simp[k,C] at h
    subst h
    obtain⟨D,F⟩:=Au6 C
    refine⟨by simp[D],fun i a hi=>?_⟩
    cases i with
    | zero=>simp at hi;subst hi;simpa using k
    | succ i=>simpa using F i a (by simpa using hi)
theorem Au7 {P:Program} {t U:TypeId} {α:Type} {e:α→LA} {n:Nat} (hu:P.underlying t=some (.slice U)) (hc:P.cellsOf t=1) (G:Opens P U e n) :
  Opens P t (α:={ l:List α // l.length≤maxLen }) (fun l=>[.imm (l.1.flatMap e) l.1.length n false false]) 1:=by
 refine⟨hc,by omega,fun _=>rfl,fun enc W fuel cs d ps h=>?_⟩
 cases fuel with
 | zero=>simp[DataW.trod] at h
 | succ fuel =>
  unfold DataW.trod at h
  simp only[hu] at h
  split at h
  all_goals first | (rename_i C;simp at C;done) | (rename_i C _;simp at C;done) | (rename_i C _ _;simp at C;done) | skip
  ·refine⟨rfl,⟨[],by simp⟩,?_⟩
   simp[RepCs,RepC]
  ·rename_i e' a len cap C
   simp at C;subst C
   split at h
   ·rename_i I
    obtain⟨hb,hlc,hcm⟩:=I
    refine⟨rfl,?_⟩
    cases hm:(List.range len).mapM (fun i=>(W.cells? 0 (a.add (i*P.cellsOf U)) (P.cellsOf U)).bind (DataW.trod enc P W 0 (fun _=>true) true fuel U)) with
    | none=>rw[hm] at h;simp at h
    | some A17 =>
     obtain⟨h1,h2⟩:=Au6 hm
     rw[G.size] at h2
     have each:∀ i:Nat,i<len→∃ x:α,∃ cs,W.cells? 0 (a.add (i*n)) n=some cs∧RepCs (fun k=>k<W.heap.size) W (e x) (fun j=>cs[j]?) 0:=by
      intro i hi
      have V:=h2 i i (by simp[hi])
      rw[List.getElem?_eq_getElem (by rw[h1];simpa using hi)] at V
      cases D:W.cells? 0 (a.add (i*n)) n with
      | none=>rw[D] at V;simp at V
      | some cs =>
       rw[D] at V
       obtain⟨_,x,C⟩:=G.read enc W fuel cs _ _ V
       exact⟨x,cs,rfl,C⟩
     have build:∀ m,m≤len→∃ l:List α,l.length=m∧∀ i x,l[i]?=some x→∃ cs,W.cells? 0 (a.add (i*n)) n=some cs∧RepCs (fun k=>k<W.heap.size) W (e x) (fun j=>cs[j]?) 0:=by
      intro m
      induction m with
      | zero=>intro _;exact⟨[],rfl,by simp⟩
      | succ m ih =>
       intro hm
       obtain⟨l,hl,L⟩:=ih (by omega)
       obtain⟨x,cs,hx1,hx2⟩:=each m (by omega)
       refine⟨l++[x],by simp[hl],fun i y S=>?_⟩
       rw[List.getElem?_append] at S
       split at S
       ·exact L i y S
       ·have:i=m:=by
         have:=(List.getElem?_eq_some_iff.1 S).1
         simp at this;omega
        subst this
        simp[hl] at S;subst S
        exact⟨cs,hx1,hx2⟩
     obtain⟨l,hl,L⟩:=build len (Nat.le_refl _)
     refine⟨⟨l,by omega⟩,?_⟩
     simp only[RepCs,RepC,and_true]
     refine⟨_,rfl,?_,some a,cap,by rw[hl],by omega,by simp,?_⟩
     ·exact cD G.len l
     ·by_cases h0:l.length=0
      ·exact .inl h0
      ·right
       refine⟨a,rfl,?_,?_⟩
       ·obtain⟨x,cs,C,_⟩:=each 0 (by omega)
        have:=World.cells?_block C G.pos
        rwa [Wa] at this
       ·rw[Dl]
        intro j x T
        rw[vr G.pos G.len] at T
        cases hq:l[j/n]? with
        | none=>rw[hq] at T;simp at T
        | some y =>
         rw[hq] at T
         simp at T
         obtain⟨cs,D,F⟩:=L (j/n) y hq
         rw[Dl] at F
         obtain⟨u,Y,hu2⟩:=F (j%n) x T
         refine⟨u,?_,hu2⟩
         obtain⟨_,hlen,M⟩:=World.cells?_some D
         have hlt:j%n<n:=Nat.mod_lt _ G.pos
         have:=M (j%n) hlt
         rw[Addr.add_add,show j/n*n+j%n=j by rw[Nat.mul_comm];exact Nat.div_add_mod j n] at this
         simp only[Nat.zero_add] at Y ⊢
         rw[this];exact Y
   ·simp at h
  ·simp at h
end Gx

namespace Gx
open Go Go.RowKit
section
variable {P:Program} {W:World} {H:Type} {enc:TypeId×Value→H} {β:C1} {h:Am}
theorem A2r {t D:TypeId} {α:Type} {e:α→LA} {n:Nat} {a:Option Addr} {len cap:Nat} {d:DataW H} {p:List MemPlace} (C:P.underlying t=some (.slice D)) (F:P.cellsOf t=1) (G:Opens P D e n)
  (I:DataW.Trod enc P W 0 (fun _=>true) true t (.slice a len cap) d p):∃ l:List α,l.length≤maxLen∧Rep (fun _ k=>k<W.heap.size) β h W (.imm (l.flatMap e) l.length n false false) (.slice a len cap):=by
 obtain⟨fuel,L⟩:=I
 obtain⟨_,⟨l,M⟩,hr⟩:=(Au7 C F G).read enc W fuel _ _ _ L
 refine⟨l,M,?_⟩
 simp only[RepCs,Value.cells,and_true] at hr
 obtain⟨u,C,hr⟩:=hr
 simp at C;subst C
 rw[Rep];exact hr
theorem A9y {k:IntKind} {n:Int}:Rep (fun _ k=>k<W.heap.size) β h W (.int k n) (.int k n):=by rw[Rep]
theorem A7q:Reps (fun _ k=>k<W.heap.size) β h W [] []:=by rw[Reps]
theorem sU {x:AV} {xs:LA} {v:Value} {vs:List Value} (C:Rep (fun _ k=>k<W.heap.size) β h W x v) (D:Reps (fun _ k=>k<W.heap.size) β h W xs vs):Reps (fun _ k=>k<W.heap.size) β h W (x::xs) (v::vs):=by
 rw[Reps];exact⟨v,vs,rfl,C,D⟩
end
end Gx

namespace Gx
open Go Go.Proofs
open IntKind (wrap)
set_option maxRecDepth 100000
noncomputable section
variable {R:Type} (N:Nat)
def lT (N:Nat) (c b:Int) (r0:Int→O R):O R :=
 (cond (b==0) none (cond (b==0) none (r0 (Int.tmod (wrap .i64 ((Int.tmod c b)+b)) b))))
def DG:=(Ah (@lT R)).1
theorem jI:@DG R=@lT R:=(Ah _).2
def oG (F:KF R):Int→O R:=(fun d=>F (iv d) [])
theorem oH (c b:Int) (F:KF R):Ch [] Dj N 12 [(iv c),(iv b)] [] F=(DG N c b (oG F)):=by
 rw[jI]
 kernel_rfl
def jJ (a:LA) (h:Am) (k:KF R):O R :=
 match a,h with
 | [(.int .i64 c),(.int .i64 b)],[]=>(DG N c b (oG k))
 | _,_=>none
theorem oI:Ap N 12 @jJ:=by
 intro R Q a h k j;unfold jJ;split;exact A0 (oH ..) (oH ..) trivial;exact A3
def oJ:=A1 (oI N)
def oK:=Ce (oI N)
def SW (N:Nat) (r0:Bool→O R) (c:LA) (b:Nat) (e f:Bool) (d:Int) (k0:Int→O R) (g:Int):O R :=
 (cond (decide (g<((b:Nat):Int))) (cond (Ac g b) (An .i64 (c.drop ((g.toNat)*1)) fun i=>(cond (i==d) (r0 true) (k0 (wrap .i64 (g+1))))) none) (r0 false))
def Wn (r0:Bool→O R) (c:LA) (b:Nat) (e f:Bool) (d:Int):Nat→Int→O R
 | 0,_=>none
 | n+1,g=>(SW N r0 c b e f d (Wn r0 c b e f d n) g)
def zm (N:Nat) (r0:Bool→O R) (q0:Int→O R) (c:LA) (b:Nat) (e f:Bool) (d:Int):O R :=
 (q0 0)
def lU:=(Ah (fun (N:Nat) (c:LA) (b:Nat) (e f:Bool) (d:Int) (r0:Bool→O R)=>(zm N r0 (fun g=>(Wn N r0 c b e f d N g)) c b e f d))).1
theorem Adg (c b e f d r0):(@lU R N c b e f d r0)=(zm N r0 (fun g=>(Wn N r0 c b e f d N g)) c b e f d):=by rw[lU,(Ah _).2]
def Amo:Hints:={ H:=(hS hL (hS (hS hL (hS (hP [0,1,5] hL) hL)) hL)) }
def A4r (F:KF R):=Jw Tryz.f45 Amo [] [] N F
def NT (F:KF R):Bool→O R:=(fun l=>F (.bool l) [])
def A4s (c:LA) (b:Nat) (e f:Bool) (d g:Int):St:=⟨[(0,(.imm c b 1 e f)),(1,(iv d)),(5,(iv g))],[]⟩
def A4t (F:KF R):=A4r N F [1,0,1,0] []
theorem oL (F:KF R) (c:LA) (b:Nat) (e f:Bool) (d:Int):∀ (n:Nat) (g:Int),Ao (A4t N F) n (A4s c b e f d g)=(Wn N (NT F) c b e f d n g)
 | 0,_=>by kernel_rfl
 | n+1,g=>Eq.trans (by kernel_rfl) (Bp (SW N (NT F) c b e f d · g) (funext fun g=>(oL F c b e f d n g)):_)
theorem Amp (c:LA) (b:Nat) (e f:Bool) (d:Int) (F:KF R):Ch [] Amo N 45 [(.imm c b 1 e f),(iv d)] [] F=(lU N c b e f d (NT F)):=by
 rw[Adg]
 exact Eq.trans (by kernel_rfl) (Bp (zm N (NT F) · c b e f d) (funext fun g=>(Aj ..).trans (oL N F c b e f d N g)):_)
def Adh (a:LA) (h:Am) (k:KF R):O R :=
 match a,h with
 | [(.imm c b 1 e f),(.int .i64 d)],[]=>(lU N c b e f d (NT k))
 | _,_=>none
theorem Amq:Ap N 45 @Adh:=by
 intro R Q a h k j;unfold Adh;split;exact A0 (Amp ..) (Amp ..) trivial;exact A3
def A4u:=A1 (Amq N)
def A4v:=Ce (Amq N)
end
end Gx

namespace Gx
open Go Go.Proofs
open IntKind (wrap)
set_option maxRecDepth 100000
noncomputable section
variable {R:Type} (N:Nat)
def cE (N:Nat) (r0:LA→O R):O R :=
 (r0 [(.str ([]:List UInt8)),(.int .i64 0),(.int .i64 10),(.int .i64 40),(.imm [(.int .i64 20),(.int .i64 3),(.int .i64 10),(.int .i64 5)] 2 2 false false),(.int .i64 0),(.int .i64 5),(.int .i64 10),(.int .i64 15),(.int .i64 15),(.int .i64 0),(.int .i64 0),(.int .i64 0),(.int .i64 0),(.int .i64 0),(.int .i64 0),(.int .i64 0),(.int .i64 0),.nsl,(.int .i64 2),(.int .i64 1),(.int .i64 12)])
def Q6:=(Ah (@cE R)).1
theorem IT:@Q6 R=@cE R:=(Ah _).2
def NU (F:KF R):LA→O R:=(fun b=>F (.pagg b false) [])
theorem NV (F:KF R):Ch [] N8 N 46 [] [] F=(Q6 N (NU F)):=by
 rw[IT]
 kernel_rfl
def IU (a:LA) (h:Am) (k:KF R):O R :=
 match a,h with
 | [],[]=>(Q6 N (NU k))
 | _,_=>none
theorem NW:Ap N 46 @IU:=by
 intro R Q a h k j;unfold IU;split;exact A0 (NV ..) (NV ..) trivial;exact A3
def sV:=A1 (NW N)
def sW:=Ce (NW N)
def Uh (N:Nat) (r0:Bool→O R) (c d:Int) (e:LA) (b:Nat) (f g:Bool) (k0:Int→Int→O R) (l i:Int):O R :=
 (cond (decide (i<l)) (cond (Ac i b) (An .i64 (e.drop ((i.toNat)*1)) fun m=>(cond ((decide (m<c))==false) (cond (cond false true (decide (m>d))) (r0 false) (k0 l (wrap .i64 (i+1)))) (r0 false))) none) (r0 true))
def Ji (r0:Bool→O R) (c d:Int) (e:LA) (b:Nat) (f g:Bool):Nat→Int→Int→O R
 | 0,_,_=>none
 | n+1,l,i=>(Uh N r0 c d e b f g (Ji r0 c d e b f g n) l i)
def IV (N:Nat) (r0:Bool→O R) (q0:Int→Int→O R) (c d:Int) (e:LA) (b:Nat) (f g:Bool):O R :=
 (q0 ((b:Nat):Int) 0)
def Dd:=(Ah (fun (N:Nat) (c d:Int) (e:LA) (b:Nat) (f g:Bool) (r0:Bool→O R)=>(IV N r0 (fun l i=>(Ji N r0 c d e b f g N l i)) c d e b f g))).1
theorem cF (c d e b f g r0):(@Dd R N c d e b f g r0)=(IV N r0 (fun l i=>(Ji N r0 c d e b f g N l i)) c d e b f g):=by rw[Dd,(Ah _).2]
def jK:Hints:={ H:=(hS hL (hS (hS hL (hS (hP [0,1,9,10,11] hL) hL)) hL)) }
def Ajs (F:KF R):=Jw Tryz.f47 jK [] [] N F
def Q8 (F:KF R):Bool→O R:=(fun o=>F (.bool o) [])
def Ajt (c d:Int) (e:LA) (b:Nat) (f g:Bool) (l i:Int):St:=⟨[(0,(iv c)),(1,(iv d)),(9,(.imm e b 1 f g)),(10,(iv l)),(11,(iv i))],[]⟩
def Aju (F:KF R):=Ajs N F [1,0,1,0] []
theorem NX (F:KF R) (c d:Int) (e:LA) (b:Nat) (f g:Bool):∀ (n:Nat) (l i:Int),Ao (Aju N F) n (Ajt c d e b f g l i)=(Ji N (Q8 F) c d e b f g n l i)
 | 0,_,_=>by kernel_rfl
 | n+1,l,i=>Eq.trans (by kernel_rfl) (Bp (Uh N (Q8 F) c d e b f g · l i) (funext fun l=>funext fun i=>(NX F c d e b f g n l i)):_)
theorem jL (c d:Int) (e:LA) (b:Nat) (f g:Bool) (F:KF R):Ch [] jK N 47 [(iv c),(iv d),(.imm e b 1 f g)] [] F=(Dd N c d e b f g (Q8 F)):=by
 rw[cF]
 exact Eq.trans (by kernel_rfl) (Bp (IV N (Q8 F) · c d e b f g) (funext fun l=>funext fun i=>(Aj ..).trans (NX N F c d e b f g N l i)):_)
def cG (a:LA) (h:Am) (k:KF R):O R :=
 match a,h with
 | [(.int .i64 c),(.int .i64 d),(.imm e b 1 f g)],[]=>(Dd N c d e b f g (Q8 k))
 | _,_=>none
theorem jM:Ap N 47 @cG:=by
 intro R Q a h k j;unfold cG;split;exact A0 (jL ..) (jL ..) trivial;exact A3
def LZ:=A1 (jM N)
def L_:=Ce (jM N)
def IW (N:Nat) (r0:Bool→O R) (c:Bool) (b:LA):O R :=
 (An .i64 (b.drop 20) fun l=>(cond ((decide (l<1))==false) (An .i64 (b.drop 20) fun m=>(cond (cond false true (decide (m>48))) (r0 false) (An .i64 (b.drop 19) fun o=>(cond ((o != 1)==false) (An .i64 (b.drop 20) fun p=>(An .i64 (b.drop 12) fun q=>(r0 (cond false true (decide (p≤q)))))) (r0 true))))) (r0 false)))
def SX (N:Nat) (r0:Bool→O R) (e f g i:Int) (c:Bool) (b:LA) (k0:Int→O R) (q1:O R) (d:Int):O R :=
 (cond (decide (d<4)) (cond (Ac d 4) (cond (Nat.beq ((d.toNat)*1) 0) (cond ((decide (e<0))==false) (cond (cond false true (decide (e>24))) (r0 false) (k0 (wrap .i64 (d+1)))) (r0 false)) (cond (Nat.beq ((d.toNat)*1) 1) (cond ((decide (f<0))==false) (cond (cond false true (decide (f>24))) (r0 false) (k0 (wrap .i64 (d+1)))) (r0 false)) (cond (Nat.beq ((d.toNat)*1) 2) (cond ((decide (g<0))==false) (cond (cond false true (decide (g>24))) (r0 false) (k0 (wrap .i64 (d+1)))) (r0 false)) (cond (Nat.beq ((d.toNat)*1) 3) (cond ((decide (i<0))==false) (cond (cond false true (decide (i>24))) (r0 false) (k0 (wrap .i64 (d+1)))) (r0 false)) none)))) none) (An .i64 (b.drop 19) fun r=>(cond ((r != 0)==true) (An .i64 (b.drop 19) fun s=>(cond ((cond true (s != 1) false)==true) (An .i64 (b.drop 19) fun t=>(cond (cond true (t != 2) false) (r0 false) q1)) q1)) q1)))
def Te (r0:Bool→O R) (e f g i:Int) (c:Bool) (b:LA):Nat→Int→O R
 | 0,_=>none
 | n+1,d=>(SX N r0 e f g i c b (Te r0 e f g i c b n) (IW N r0 c b) d)
def fq (N:Nat) (r0:Bool→O R) (q0:Int→Int→Int→Int→Int→O R) (b:LA) (c:Bool):O R :=
 (An .i64 (b.drop 10) fun e=>(An .i64 (b.drop 11) fun f=>(An .i64 (b.drop 12) fun g=>(An .i64 (b.drop 15) fun i=>(q0 e f g i 0)))))
def Oc:=(Ah (fun (N:Nat) (b:LA) (c:Bool) (r0:Bool→O R)=>(fq N r0 (fun e f g i d=>(Te N r0 e f g i c b N d)) b c))).1
theorem oM (b c r0):(@Oc R N b c r0)=(fq N r0 (fun e f g i d=>(Te N r0 e f g i c b N d)) b c):=by rw[Oc,(Ah _).2]
def vt:Hints:={ H:=(hS hL (hS (hS hL (hS (hP [1,13,14] hL) hL)) (hJ [1] hL hL))) }
def vu (F:KF R):=Jw Tryz.f48 vt [] [] N F
def Tf (F:KF R):Bool→O R:=(fun u=>F (.bool u) [])
def Au8 (c:Bool) (b:LA):St:=⟨[(1,(op 0))],(hq [(bP c 0 b)])⟩
def Au9 (F:KF R):=vu N F [1,1,1] []
def Ava (e f g i:Int) (c:Bool) (b:LA) (d:Int):St:=⟨[(1,(op 0)),(13,(.agg [(iv e),(iv f),(iv g),(iv i)])),(14,(iv d))],(hq [(bP c 0 b)])⟩
def Avb (F:KF R):=vu N F [1,0,1,0] []
theorem Adi (F:KF R) (c:Bool) (b:LA):A9 (Au9 N F) (Au8 c b)=(IW N (Tf F) c b):=by
 kernel_rfl
theorem cH (F:KF R) (e f g i:Int) (c:Bool) (b:LA):∀ (n:Nat) (d:Int),Ao (Avb N F) n (Ava e f g i c b d)=(Te N (Tf F) e f g i c b n d)
 | 0,_=>by kernel_rfl
 | n+1,d=>Eq.trans (by kernel_rfl) (VS (SX N (Tf F) e f g i c b · · d) (funext fun d=>(cH F e f g i c b n d)) ((At ..).trans (Adi N F c b)):_)
theorem vw (b:LA) (c:Bool) (F:KF R):Ch [] vt N 48 [(.pagg b c)] [] F=(Oc N b c (Tf F)):=by
 rw[oM]
 exact Eq.trans (by kernel_rfl) (Bp (fq N (Tf F) · b c) (funext fun e=>funext fun f=>funext fun g=>funext fun i=>funext fun d=>(Aj ..).trans (cH N F e f g i c b N d)):_)
def oN (a:LA) (h:Am) (k:KF R):O R :=
 match a,h with
 | [(.pagg b c)],[]=>(Oc N b c (Tf k))
 | _,_=>none
theorem vz:Ap N 48 @oN:=by
 intro R Q a h k j;unfold oN;split;exact A0 (vw ..) (vw ..) trivial;exact A3
def Yj:=A1 (vz N)
def Yk:=Ce (vz N)
def Jx (N:Nat) (k0:Int→Int→Int→O R) (r0:Bool→O R) (d:LA) (e:Nat) (c:Bool) (f:Int) (b:LA) (o l p:Int) (m:LA):O R :=
 (cond ((decide (l>0))==true) (An .i64 (m.drop 1) fun q=>(Co 2 (b.drop 4) fun r s=>(cond (Ac (wrap .i64 (l - 1)) s) (An .i64 ((r.drop (((wrap .i64 (l - 1)).toNat)*2)).drop 1) fun t=>(cond (cond true (decide (q<t)) false) (r0 false) (An .i64 m fun u=>(k0 (wrap .i64 (o+u)) f (wrap .i64 (p+1)))))) none))) (An .i64 m fun v=>(k0 (wrap .i64 (o+v)) f (wrap .i64 (p+1)))))
def Iv (r0:Bool→O R) (d:LA) (e:Nat) (c:Bool) (b:LA) (k0:Int→Int→Int→O R) (q1:Int→Int→Int→LA→O R) (i f g:Int):O R :=
 (cond (decide (g<f)) (cond (Ac g e) (cond (Nat.ble 2 ((d.drop ((g.toNat)*2)).length)) (cond ((!c)||(Bb ((d.drop ((g.toNat)*2)).take 2))) (cond ((Nat.beq (((d.drop ((g.toNat)*2)).take 2).length) 2)&&((Nat.ble 2 2)&&(!false))) (An .i64 (setCells [(.int .i64 0),(.int .i64 0)] 0 ((d.drop ((g.toNat)*2)).take 2)) fun w=>(Dd N 1 1048576 [(.int .i64 w)] 1 false true (fun x=>(cond ((!x)==false) (An .i64 ((setCells [(.int .i64 0),(.int .i64 0)] 0 ((d.drop ((g.toNat)*2)).take 2)).drop 1) fun y=>(Dd N (-1048576) 1048576 [(.int .i64 y)] 1 false true (fun z=>(cond (cond false true (!z)) (r0 false) (q1 i g g (setCells [(.int .i64 0),(.int .i64 0)] 0 ((d.drop ((g.toNat)*2)).take 2))))))) (r0 false))))) none) none) none) none) (An .i64 (b.drop 3) fun aa=>(An .i64 (b.drop 2) fun ab=>(r0 (i==(wrap .i64 (aa - ab)))))))
def Cy (r0:Bool→O R) (d:LA) (e:Nat) (c:Bool) (b:LA):Nat→Int→Int→Int→O R
 | 0,_,_,_=>none
 | n+1,i,f,g=>(Iv N r0 d e c b (Cy r0 d e c b n) (fun o l p m=>(Jx N (Cy r0 d e c b n) r0 d e c f b o l p m)) i f g)
def Np (N:Nat) (r0:Bool→O R) (q0:LA→Nat→Int→Int→Int→O R) (b:LA) (c:Bool):O R :=
 (Co 2 (b.drop 4) fun ae ac=>(cond (decide (((ac:Nat):Int)>8)) (r0 false) (Co 2 (b.drop 4) fun d e=>(q0 d e 0 ((e:Nat):Int) 0))))
def Fh:=(Ah (fun (N:Nat) (b:LA) (c:Bool) (r0:Bool→O R)=>(Np N r0 (fun d e i f g=>(Cy N r0 d e c b N i f g)) b c))).1
theorem Yl (b c r0):(@Fh R N b c r0)=(Np N r0 (fun d e i f g=>(Cy N r0 d e c b N i f g)) b c):=by rw[Fh,(Ah _).2]
def AE:Hints:={ H:=(hS hL (hS hL (hS hL (hS (hS hL (hS (hP [1,3,11,12,13] (hS hL (hS hL (hS (hS (hS hL (hJ [1,3,4,5,11,12,13] hL hL)) hL) hL)))) hL)) hL)))) }
def FA:D9:=[(47,LZ N)]
def AF (F:KF R):=Jw Tryz.f49 AE (FA N) [] N F
def Dt (F:KF R):Bool→O R:=(fun ad=>F (.bool ad) [])
def gX (d:LA) (e:Nat) (c:Bool) (f:Int) (b:LA) (o l p:Int) (m:LA):St:=⟨[(1,(op 0)),(3,(iv o)),(4,(iv l)),(5,(op 1)),(11,(.imm d e 2 false c)),(12,(iv f)),(13,(iv p))],(hq [(bP c 0 b),(bQ 0 m)])⟩
def gY (F:KF R) (Q0:St→O R):=AF N F [1,1,1,0,1,0,0,1,1,0,0,1,1] [Q0]
def AG (d:LA) (e:Nat) (c:Bool) (b:LA) (i f g:Int):St:=⟨[(1,(op 0)),(3,(iv i)),(11,(.imm d e 2 false c)),(12,(iv f)),(13,(iv g))],(hq [(bP c 0 b)])⟩
def AH (F:KF R):=AF N F [1,1,1,0,1,0] []
theorem SY (Q0:St→O R) (F:KF R) (d:LA) (e:Nat) (c:Bool) (f:Int) (b:LA):∀ (o l p:Int) (m:LA),A9 (gY N F Q0) (gX d e c f b o l p m)=(Jx N (fun i f g=>Q0 (AG d e c b i f g)) (Dt F) d e c f b o l p m):=by
 intro o l p m
 kernel_rfl
theorem Ui (F:KF R) (d:LA) (e:Nat) (c:Bool) (b:LA):∀ (n:Nat) (i f g:Int),Ao (AH N F) n (AG d e c b i f g)=(Cy N (Dt F) d e c b n i f g)
 | 0,_,_,_=>by kernel_rfl
 | n+1,i,f,g=>have e0:=(funext fun i=>funext fun f=>funext fun g=>(Ui F d e c b n i f g))
  Eq.trans (by kernel_rfl) (VS (Iv N (Dt F) d e c b · · i f g) e0 (funext fun o=>funext fun l=>funext fun p=>funext fun m=>(At ..).trans ((SY N (Ao (AH N F) n) F d e c f b o l p m).trans (Bp (Jx N · (Dt F) d e c f b o l p m) e0))):_)
theorem AI (b:LA) (c:Bool) (F:KF R):Ch (FA N) AE N 49 [(.pagg b c)] [] F=(Fh N b c (Dt F)):=by
 rw[Yl]
 exact Eq.trans (by kernel_rfl) (Bp (Np N (Dt F) · b c) (funext fun d=>funext fun e=>funext fun i=>funext fun f=>funext fun g=>(Aj ..).trans (Ui N F d e c b N i f g)):_)
def Ym (a:LA) (h:Am) (k:KF R):O R :=
 match a,h with
 | [(.pagg b c)],[]=>(Fh N b c (Dt k))
 | _,_=>none
theorem AJ:Ap N 49 @Ym:=by
 intro R Q a h k j;unfold Ym;split;exact A0 (AI ..) (AI ..) ⟨L_ N,trivial⟩;exact A3
def gZ:=A1 (AJ N)
def g8:=Ce (AJ N)
def Pr (r0:Bool→O R) (c:LA) (b:Nat) (d e:Bool) (f:Int) (k0:Int→Int→O R) (i g:Int):O R :=
 (cond (decide (g<i)) (cond (Ac g b) (An .i64 (c.drop ((g.toNat)*1)) fun l=>(Dd N 0 (wrap .i64 (f - 1)) [(.int .i64 l)] 1 false true (fun m=>(cond ((!m)==false) (cond ((decide (g>0))==true) (cond (Ac (wrap .i64 (g - 1)) b) (An .i64 (c.drop (((wrap .i64 (g - 1)).toNat)*1)) fun o=>(cond (cond false true (cond true (decide (l≤o)) false)) (r0 false) (k0 i (wrap .i64 (g+1))))) none) (k0 i (wrap .i64 (g+1)))) (r0 false))))) none) (r0 true))
def Gp (r0:Bool→O R) (c:LA) (b:Nat) (d e:Bool) (f:Int):Nat→Int→Int→O R
 | 0,_,_=>none
 | n+1,i,g=>(Pr N r0 c b d e f (Gp r0 c b d e f n) i g)
def Xf (N:Nat) (r0:Bool→O R) (q0:Int→Int→O R) (c:LA) (b:Nat) (d e:Bool) (f:Int):O R :=
 (q0 ((b:Nat):Int) 0)
def Lj:=(Ah (fun (N:Nat) (c:LA) (b:Nat) (d e:Bool) (f:Int) (r0:Bool→O R)=>(Xf N r0 (fun i g=>(Gp N r0 c b d e f N i g)) c b d e f))).1
theorem NY (c b d e f r0):(@Lj R N c b d e f r0)=(Xf N r0 (fun i g=>(Gp N r0 c b d e f N i g)) c b d e f):=by rw[Lj,(Ah _).2]
def WD:Hints:={ H:=(hS hL (hS (hS hL (hS (hP [0,1,7,8,9] hL) hL)) hL)) }
def cI:D9:=[(47,LZ N)]
def yY (F:KF R):=Jw Tryz.f50 WD (cI N) [] N F
def Mr (F:KF R):Bool→O R:=(fun p=>F (.bool p) [])
def yZ (c:LA) (b:Nat) (d e:Bool) (f i g:Int):St:=⟨[(0,(.imm c b 1 d e)),(1,(iv f)),(7,(.imm c b 1 d e)),(8,(iv i)),(9,(iv g))],[]⟩
def y5 (F:KF R):=yY N F [1,0,1,0] []
theorem FB (F:KF R) (c:LA) (b:Nat) (d e:Bool) (f:Int):∀ (n:Nat) (i g:Int),Ao (y5 N F) n (yZ c b d e f i g)=(Gp N (Mr F) c b d e f n i g)
 | 0,_,_=>by kernel_rfl
 | n+1,i,g=>Eq.trans (by kernel_rfl) (Bp (Pr N (Mr F) c b d e f · i g) (funext fun i=>funext fun g=>(FB F c b d e f n i g)):_)
theorem WE (c:LA) (b:Nat) (d e:Bool) (f:Int) (F:KF R):Ch (cI N) WD N 50 [(.imm c b 1 d e),(iv f)] [] F=(Lj N c b d e f (Mr F)):=by
 rw[NY]
 exact Eq.trans (by kernel_rfl) (Bp (Xf N (Mr F) · c b d e f) (funext fun i=>funext fun g=>(Aj ..).trans (FB N F c b d e f N i g)):_)
def NZ (a:LA) (h:Am) (k:KF R):O R :=
 match a,h with
 | [(.imm c b 1 d e),(.int .i64 f)],[]=>(Lj N c b d e f (Mr k))
 | _,_=>none
theorem WF:Ap N 50 @NZ:=by
 intro R Q a h k j;unfold NZ;split;exact A0 (WE ..) (WE ..) ⟨L_ N,trivial⟩;exact A3
def y7:=A1 (WF N)
def y9:=Ce (WF N)
def cJ (r0:Bool→O R) (d:Int) (c:Bool) (b:LA):O R :=
 (An .i64 (b.drop 2) fun e=>(An .i64 (b.drop 3) fun f=>(An .i64 (b.drop 8) fun g=>(An .i64 (b.drop 9) fun i=>(Dd N e f [(.int .i64 g),(.int .i64 i)] 2 false true (fun l=>(cond (!l) (r0 false) (An .i64 (b.drop 5) fun m=>(An .i64 (b.drop 13) fun n=>(An .i64 (b.drop 14) fun o=>(An .i64 (b.drop 17) fun p=>(Dd N 0 1048576 [(.int .i64 m),(.int .i64 n),(.int .i64 o),(.int .i64 p)] 4 false true (fun q=>(cond (!q) (r0 false) (An .i64 (b.drop 19) fun r=>(cond (r==2) (An .i64 (b.drop 2) fun s=>(An .i64 (b.drop 3) fun t=>(An .i64 (b.drop 21) fun u=>(Dd N s t [(.int .i64 u)] 1 false true (fun v=>(cond (!v) (r0 false) (cond (Nat.ble 22 (b.length)) (Fh N (b.take 22) c (fun w=>(cond (w==true) (Co 1 (b.drop 18) fun x y=>(Lj N x y false c d (fun z=>(r0 (cond true z false))))) (r0 false)))) none))))))) (An .i64 (b.drop 21) fun aa=>(cond (aa != 0) (r0 false) (cond (Nat.ble 22 (b.length)) (Fh N (b.take 22) c (fun ab=>(cond (ab==true) (Co 1 (b.drop 18) fun ac ad=>(Lj N ac ad false c d (fun ae=>(r0 (cond true ae false))))) (r0 false)))) none)))))))))))))))))))
def SZ (r0:Bool→O R) (d:Int) (c:Bool) (b:LA) (q1:O R):O R :=
 (An .i64 (b.drop 2) fun af=>(An .i64 (b.drop 3) fun ag=>(An .i64 (b.drop 6) fun ah=>(An .i64 (b.drop 7) fun ai=>(An .i64 (b.drop 16) fun aj=>(Dd N 0 1048576 [(.int .i64 af),(.int .i64 ag),(.int .i64 ah),(.int .i64 ai),(.int .i64 aj)] 5 false true (fun ak=>(cond ((!ak)==false) (An .i64 (b.drop 2) fun al=>(An .i64 (b.drop 3) fun am=>(cond (cond false true (decide (al>am))) (r0 false) q1))) (r0 false)))))))))
def IX (r0:Bool→O R) (d:Int) (c:Bool) (b:LA):O R:=(SZ N r0 d c b (cJ N r0 d c b))
def ft (r0:Bool→O R) (q0:O R) (b:LA) (c:Bool) (d:Int):O R :=
 (Dd N 1 24 [(.int .i64 d)] 1 false true (fun an=>(cond ((!an)==false) (cond (Nat.ble 22 (b.length)) (Oc N (b.take 22) c (fun ao=>(cond (cond false true (!ao)) (r0 false) q0))) none) (r0 false))))
def Uj:=(Ah (fun (N:Nat) (b:LA) (c:Bool) (d:Int) (r0:Bool→O R)=>(ft N r0 (IX N r0 d c b) b c d))).1
theorem oO (b c d r0):(@Uj R N b c d r0)=(ft N r0 (IX N r0 d c b) b c d):=by rw[Uj,(Ah _).2]
def wB:Hints:={ H:=(hS hL (hJ [1,2] hL (hJ [1,2] hL hL))) }
def Adj:D9:=[(47,LZ N),(48,Yj N),(49,gZ N),(50,y7 N)]
def wC (F:KF R):=Jw Tryz.f16 wB (Adj N) [] N F
def Tg (F:KF R):Bool→O R:=(fun ap=>F (.bool ap) [])
def Avc (d:Int) (c:Bool) (b:LA):St:=⟨[(1,(iv d)),(2,(op 0))],(hq [(bP c 0 b)])⟩
def Avd (F:KF R):=wC N F [1,1,1] []
def Ave (d:Int) (c:Bool) (b:LA):St:=⟨[(1,(iv d)),(2,(op 0))],(hq [(bP c 0 b)])⟩
def Avf (F:KF R):=wC N F [1,1] []
theorem Adk (F:KF R) (d:Int) (c:Bool) (b:LA):A9 (Avd N F) (Avc d c b)=(cJ N (Tg F) d c b):=by
 kernel_rfl
theorem Adl (F:KF R) (d:Int) (c:Bool) (b:LA):A9 (Avf N F) (Ave d c b)=(IX N (Tg F) d c b):=by
 exact Eq.trans (by kernel_rfl) (Bp (SZ N (Tg F) d c b ·) ((At ..).trans (Adk N F d c b)):_)
theorem wD (b:LA) (c:Bool) (d:Int) (F:KF R):Ch (Adj N) wB N 16 [(.pagg b c),(iv d)] [] F=(Uj N b c d (Tg F)):=by
 rw[oO]
 exact Eq.trans (by kernel_rfl) (Bp (ft N (Tg F) · b c d) ((At ..).trans (Adl N F d c b)):_)
def oP (a:LA) (h:Am) (k:KF R):O R :=
 match a,h with
 | [(.pagg b c),(.int .i64 d)],[]=>(Uj N b c d (Tg k))
 | _,_=>none
theorem wE:Ap N 16 @oP:=by
 intro R Q a h k j;unfold oP;split;exact A0 (wD ..) (wD ..) ⟨L_ N,Yk N,g8 N,y9 N,trivial⟩;exact A3
def IY:=A1 (wE N)
def IZ:=Ce (wE N)
end
end Gx

namespace Gx
open Go Go.Proofs
open IntKind (wrap)
set_option maxRecDepth 100000
noncomputable section
variable {R:Type} (N:Nat)
def Adm (d:LA) (e:Nat) (f c:Bool) (r0:Nat→LA→O R):O R :=
 (Ci N d e f c (fun g b=>(cond ((decide (0≤((b:Nat):Int)))&&((decide (((b:Nat):Int)≤((b:Nat):Int)))&&((decide (((b:Nat):Int)≤140737488355328))&&(decide ((((b:Nat):Int)*((4:Nat):Int))≤140737488355328))))) (cond ((!c)||(Bb g)) (r0 b (Cu (List.replicate b (.int .u32 0)) 0 (g.take ((min b b)*1)))) none) none)))
def CD:=(Ah (@Adm R)).1
theorem wF:@CD R=@Adm R:=(Ah _).2
def A4w:D9:=[(171,Ub N)]
def Adn (F:KF R):Nat→LA→O R:=(fun i l=>F (.own 300000 0 i) (hq [(bQ 1 l)]))
theorem Ado (d:LA) (e:Nat) (f c:Bool) (F:KF R):Ch (A4w N) A7o N 173 [(.imm d e 1 f c)] [] F=(CD N d e f c (Adn F)):=by
 rw[wF]
 kernel_rfl
def wH (a:LA) (h:Am) (k:KF R):O R :=
 match a,h with
 | [(.imm d e 1 f c)],[]=>(CD N d e f c (Adn k))
 | _,_=>none
theorem Adp:Ap N 173 @wH:=by
 intro R Q a h k j;unfold wH;split;exact A0 (Ado ..) (Ado ..) ⟨Uc N,trivial⟩;exact A3
def S_:=A1 (Adp N)
def TA:=Ce (Adp N)
def Adq (b:LA) (c:Bool) (r0:Bool→Nat→LA→O R):O R :=
 (NC b fun f=>(Co 1 (b.drop 1) fun g i=>(CD N g i false c (fun d e=>(J9 N f d e (fun l=>(r0 l d e)))))))
def oQ:=(Ah (@Adq R)).1
theorem wI:@oQ R=@Adq R:=(Ah _).2
def A4x:D9:=[(173,S_ N),(148,B' N)]
def Adr (F:KF R):Bool→Nat→LA→O R:=(fun m n o=>F (.agg [(.bool m),(.own 300000 0 n)]) (hq [(bQ 1 o)]))
theorem Ads (b:LA) (c:Bool) (F:KF R):Ch (A4x N) Dj N 172 [(.pagg b c)] [] F=(oQ N b c (Adr F)):=by
 rw[wI]
 kernel_rfl
def wJ (a:LA) (h:Am) (k:KF R):O R :=
 match a,h with
 | [(.pagg b c)],[]=>(oQ N b c (Adr k))
 | _,_=>none
theorem Adt:Ap N 172 @wJ:=by
 intro R Q a h k j;unfold wJ;split;exact A0 (Ads ..) (Ads ..) ⟨TA N,CA N,trivial⟩;exact A3
def Azp:=A1 (Adt N)
def Azq:=Ce (Adt N)
def Fi (N:Nat) (r0:Int→O R) (b c:Int):O R :=
 (cond (decide (b≥256)) (cond (Ac (wrap .u8 (Int.fdiv b (2 ^ 8))) 256) (r0 (wrap .i64 ((wrap .i64 (c+8))+(wrap .i64 ((UInt8.toNat (List.getD ([0,1,2,2,3,3,3,3,4,4,4,4,4,4,4,4,5,5,5,5,5,5,5,5,5,5,5,5,5,5,5,5,6,6,6,6,6,6,6,6,6,6,6,6,6,6,6,6,6,6,6,6,6,6,6,6,6,6,6,6,6,6,6,6,7,7,7,7,7,7,7,7,7,7,7,7,7,7,7,7,7,7,7,7,7,7,7,7,7,7,7,7,7,7,7,7,7,7,7,7,7,7,7,7,7,7,7,7,7,7,7,7,7,7,7,7,7,7,7,7,7,7,7,7,7,7,7,7,8,8,8,8,8,8,8,8,8,8,8,8,8,8,8,8,8,8,8,8,8,8,8,8,8,8,8,8,8,8,8,8,8,8,8,8,8,8,8,8,8,8,8,8,8,8,8,8,8,8,8,8,8,8,8,8,8,8,8,8,8,8,8,8,8,8,8,8,8,8,8,8,8,8,8,8,8,8,8,8,8,8,8,8,8,8,8,8,8,8,8,8,8,8,8,8,8,8,8,8,8,8,8,8,8,8,8,8,8,8,8,8,8,8,8,8,8,8,8,8,8,8,8,8,8,8,8,8]:List UInt8) ((wrap .u8 (Int.fdiv b (2 ^ 8))).toNat) 0):Nat):Int))))) none) (cond (Ac (wrap .u8 b) 256) (r0 (wrap .i64 (c+(wrap .i64 ((UInt8.toNat (List.getD ([0,1,2,2,3,3,3,3,4,4,4,4,4,4,4,4,5,5,5,5,5,5,5,5,5,5,5,5,5,5,5,5,6,6,6,6,6,6,6,6,6,6,6,6,6,6,6,6,6,6,6,6,6,6,6,6,6,6,6,6,6,6,6,6,7,7,7,7,7,7,7,7,7,7,7,7,7,7,7,7,7,7,7,7,7,7,7,7,7,7,7,7,7,7,7,7,7,7,7,7,7,7,7,7,7,7,7,7,7,7,7,7,7,7,7,7,7,7,7,7,7,7,7,7,7,7,7,7,8,8,8,8,8,8,8,8,8,8,8,8,8,8,8,8,8,8,8,8,8,8,8,8,8,8,8,8,8,8,8,8,8,8,8,8,8,8,8,8,8,8,8,8,8,8,8,8,8,8,8,8,8,8,8,8,8,8,8,8,8,8,8,8,8,8,8,8,8,8,8,8,8,8,8,8,8,8,8,8,8,8,8,8,8,8,8,8,8,8,8,8,8,8,8,8,8,8,8,8,8,8,8,8,8,8,8,8,8,8,8,8,8,8,8,8,8,8,8,8,8,8,8,8,8,8,8,8]:List UInt8) ((wrap .u8 b).toNat) 0):Nat):Int))))) none))
def Ps (N:Nat) (r0:Int→O R) (q0:Int→Int→O R) (d:Int):O R :=
 (cond (decide (d≥65536)) (q0 (Int.fdiv d (2 ^ 16)) 16) (q0 d 0))
def Im:=(Ah (fun (N:Nat) (d:Int) (r0:Int→O R)=>(Ps N r0 (fun b c=>(Fi N r0 b c)) d))).1
theorem AK (d r0):(@Im R N d r0)=(Ps N r0 (fun b c=>(Fi N r0 b c)) d):=by rw[Im,(Ah _).2]
def FC:Hints:={ H:=(hS hL (hJ [0,2] hL hL)) }
def lV (F:KF R):=Jw Tryz.f205 FC [] [] N F
def Lk (F:KF R):Int→O R:=(fun e=>F (iv e) [])
def lW (b c:Int):St:=⟨[(0,(.int .u32 b)),(2,(iv c))],[]⟩
def lX (F:KF R):=lV N F [1,1] []
theorem ZP (F:KF R):∀ (b c:Int),A9 (lX N F) (lW b c)=(Fi N (Lk F) b c):=by
 intro b c
 kernel_rfl
theorem FD (d:Int) (F:KF R):Ch [] FC N 205 [(.int .u32 d)] [] F=(Im N d (Lk F)):=by
 rw[AK]
 exact Eq.trans (by kernel_rfl) (Bp (Ps N (Lk F) · d) (funext fun b=>funext fun c=>(At ..).trans (ZP N F b c)):_)
def AL (a:LA) (h:Am) (k:KF R):O R :=
 match a,h with
 | [(.int .u32 d)],[]=>(Im N d (Lk k))
 | _,_=>none
theorem FE:Ap N 205 @AL:=by
 intro R Q a h k j;unfold AL;split;exact A0 (FD ..) (FD ..) trivial;exact A3
def lY:=A1 (FE N)
def lZ:=Ce (FE N)
def Ib (b:Int) (r0:Int→O R):O R :=
 (Im N b (fun c=>(r0 (wrap .i64 (32 - c)))))
def Cb:=(Ah (@Ib R)).1
theorem Ms:@Cb R=@Ib R:=(Ah _).2
def FF:D9:=[(205,lY N)]
def Nq (F:KF R):Int→O R:=(fun d=>F (iv d) [])
theorem Nr (b:Int) (F:KF R):Ch (FF N) Dj N 200 [(.int .u32 b)] [] F=(Cb N b (Nq F)):=by
 rw[Ms]
 kernel_rfl
def Mt (a:LA) (h:Am) (k:KF R):O R :=
 match a,h with
 | [(.int .u32 b)],[]=>(Cb N b (Nq k))
 | _,_=>none
theorem Ns:Ap N 200 @Mt:=by
 intro R Q a h k j;unfold Mt;split;exact A0 (Nr ..) (Nr ..) ⟨lZ N,trivial⟩;exact A3
def Nt:=A1 (Ns N)
def Nu:=Ce (Ns N)
def MA (N:Nat) (f:Int) (c:LA) (b:Nat) (d e:Bool) (r0:Int→O R):O R :=
 (cond (decide (f<((b:Nat):Int))) (cond (Ac f b) (An .u32 (c.drop ((f.toNat)*1)) fun g=>(r0 (wrap .u64 g))) none) (r0 0))
def Ll:=(Ah (@MA R)).1
theorem N_:@Ll R=@MA R:=(Ah _).2
def WG (c:LA) (b:Nat) (d e:Bool) (F:KF R):Int→O R:=(fun i=>F (.int .u64 i) [(100000,⟨false,false,false,false,0,[(.imm c b 1 d e)],false⟩)])
theorem WH (f:Int) (c:LA) (b:Nat) (d e:Bool) (F:KF R):Ch [] Dj N 206 [(iv f),(.optr 100000 0)] [(100000,⟨false,false,false,false,0,[(.imm c b 1 d e)],false⟩)] F=(Ll N f c b d e (WG c b d e F)):=by
 rw[N_]
 kernel_rfl
def N' (a:LA) (h:Am) (k:KF R):O R :=
 match a,h with
 | [(.int .i64 f),(.optr 100000 0)],[(100000,⟨false,false,false,false,0,[(.imm c b 1 d e)],false⟩)]=>(Ll N f c b d e (WG c b d e k))
 | _,_=>none
theorem WI:Ap N 206 @N':=by
 intro R Q a h k j;unfold N';split;exact A0 (WH ..) (WH ..) trivial;exact A3
def y_:=A1 (WI N)
def ya:=Ce (WI N)
def l7 (c:LA) (d:Nat) (e f:Bool) (g b:Int) (r0:Int→O R):O R :=
 (Ll N (wrap .i64 (g - 1)) c d e f (fun i=>(Ll N (wrap .i64 (g - 2)) c d e f (fun l=>(cond (decide (b<0)) none (Ll N (wrap .i64 (g - 3)) c d e f (fun m=>(cond (decide ((wrap .i64 (32 - b))<0)) none (r0 (Ta .u64 (wrap .u64 ((Ta .u64 (wrap .u64 (i*2 ^ 32)) l)*2 ^ (min (b.toNat) 64))) (Int.fdiv m (2 ^ (min ((wrap .i64 (32 - b)).toNat) 64)))))))))))))
def DH:=(Ah (@l7 R)).1
theorem jN:@DH R=@l7 R:=(Ah _).2
def Avg:D9:=[(206,y_ N)]
def oR (F:KF R):Int→O R:=(fun n=>F (.int .u64 n) [])
theorem oS (c:LA) (d:Nat) (e f:Bool) (g b:Int) (F:KF R):Ch (Avg N) Dj N 201 [(.imm c d 1 e f),(iv g),(iv b)] [] F=(DH N c d e f g b (oR F)):=by
 rw[jN]
 kernel_rfl
def jO (a:LA) (h:Am) (k:KF R):O R :=
 match a,h with
 | [(.imm c d 1 e f),(.int .i64 g),(.int .i64 b)],[]=>(DH N c d e f g b (oR k))
 | _,_=>none
theorem oT:Ap N 201 @jO:=by
 intro R Q a h k j;unfold jO;split;exact A0 (oS ..) (oS ..) ⟨ya N,trivial⟩;exact A3
def Aqi:=A1 (oT N)
def Aqj:=Ce (oT N)
def Xg (N:Nat) (k0:Int→Int→Int→Int→Int→Int→Int→Int→Bool→O R) (r0:LA→O R) (q o r s t u:Int) (w:Bool):O R :=
 (cond (o==0) none (cond (o==0) none (k0 o (Int.tmod q o) r s (wrap .u64 (r+(wrap .u64 ((wrap .u64 (Int.tdiv q o))*s)))) t u (wrap .u64 (t+(wrap .u64 ((wrap .u64 (Int.tdiv q o))*u)))) (!w))))
def Kd (N:Nat) (r0:LA→O R) (k0:Int→Int→Int→Int→Int→Int→Int→Int→Bool→O R) (q1:Int→Int→Int→Int→Int→Int→Bool→O R) (g c i d m l b e:Int) (f:Bool):O R :=
 (cond ((decide (c≥e))==true) (cond (cond true (decide ((wrap .u64 (g - c))≥(wrap .u64 (b+e)))) false) (q1 g c d m b e f) (r0 [(.int .u64 i),(.int .u64 d),(.int .u64 l),(.int .u64 b),(.bool f)])) (r0 [(.int .u64 i),(.int .u64 d),(.int .u64 l),(.int .u64 b),(.bool f)]))
def Ek (r0:LA→O R):Nat→Int→Int→Int→Int→Int→Int→Int→Int→Bool→O R
 | 0,_,_,_,_,_,_,_,_,_=>none
 | n+1,g,c,i,d,m,l,b,e,f=>(Kd N r0 (Ek r0 n) (fun q o r s t u w=>(Xg N (Ek r0 n) r0 q o r s t u w)) g c i d m l b e f)
def I_ (r0:LA→O R) (q0:Int→Int→Int→Int→Int→Int→Int→Int→Bool→O R) (v:LA) (p:Nat) (ab x:Bool) (y:LA) (z:Nat) (ac aa:Bool):O R :=
 (cond (Ac (wrap .i64 (((p:Nat):Int) - 1)) p) (An .u32 (v.drop (((wrap .i64 (((p:Nat):Int) - 1)).toNat)*1)) fun ae=>(Cb N ae (fun ad=>(DH N v p false x ((p:Nat):Int) ad (fun af=>(DH N y z false aa ((p:Nat):Int) ad (fun ag=>(q0 af ag 0 1 0 0 0 1 false)))))))) none)
def Wo:=(Ah (fun (N:Nat) (v:LA) (p:Nat) (ab x:Bool) (y:LA) (z:Nat) (ac aa:Bool) (r0:LA→O R)=>(I_ N r0 (fun g c i d m l b e f=>(Ek N r0 N g c i d m l b e f)) v p ab x y z ac aa))).1
theorem cL (v p ab x y z ac aa r0):(@Wo R N v p ab x y z ac aa r0)=(I_ N r0 (fun g c i d m l b e f=>(Ek N r0 N g c i d m l b e f)) v p ab x y z ac aa):=by rw[Wo,(Ah _).2]
def jP:Hints:={ H:=(hS hL (hS hL (hS hL (hS hL (hS hL (hS hL (hS hL (hS (hS (hP [4,7,8,9,10,11,12,13,14,15] (hJ [4,7,8,10,11,13,14,15] hL hL)) hL) hL)))))))),modes:=[(3,0)] }
def oU:D9:=[(200,Nt N),(201,Aqi N)]
def jQ (F:KF R):=Jw Tryz.f195 jP (oU N) [] N F
def Jj (F:KF R):LA→O R:=(fun ah=>F (.pagg ah false) [])
def Ajv (q o r s t u:Int) (w:Bool):St:=⟨[(4,(op 0)),(7,(.int .u64 q)),(8,(.int .u64 o)),(10,(.int .u64 r)),(11,(.int .u64 s)),(13,(.int .u64 t)),(14,(.int .u64 u)),(15,(.bool w))],(hq [(bQ 0 [(.int .u64 0),(.int .u64 0),(.int .u64 0),(.int .u64 0),(.bool false)])])⟩
def Ajw (F:KF R) (Q0:St→O R):=jQ N F [1,1,1,1,1,1,1,0,0,0,1] [Q0]
def jR (g c i d m l b e:Int) (f:Bool):St:=⟨[(4,(op 0)),(7,(.int .u64 g)),(8,(.int .u64 c)),(9,(.int .u64 i)),(10,(.int .u64 d)),(11,(.int .u64 m)),(12,(.int .u64 l)),(13,(.int .u64 b)),(14,(.int .u64 e)),(15,(.bool f))],(hq [(bQ 0 [(.int .u64 0),(.int .u64 0),(.int .u64 0),(.int .u64 0),(.bool false)])])⟩
def jS (F:KF R):=jQ N F [1,1,1,1,1,1,1,0,0] []
theorem sX (Q0:St→O R) (F:KF R):∀ (q o r s t u:Int) (w:Bool),A9 (Ajw N F Q0) (Ajv q o r s t u w)=(Xg N (fun g c i d m l b e f=>Q0 (jR g c i d m l b e f)) (Jj F) q o r s t u w):=by
 intro q o r s t u w
 kernel_rfl
theorem OA (F:KF R):∀ (n:Nat) (g c i d m l b e:Int) (f:Bool),Ao (jS N F) n (jR g c i d m l b e f)=(Ek N (Jj F) n g c i d m l b e f)
 | 0,_,_,_,_,_,_,_,_,_=>by kernel_rfl
 | n+1,g,c,i,d,m,l,b,e,f=>have e0:=(funext fun g=>funext fun c=>funext fun i=>funext fun d=>funext fun m=>funext fun l=>funext fun b=>funext fun e=>funext fun f=>(OA F n g c i d m l b e f))
  Eq.trans (by kernel_rfl) (VS (Kd N (Jj F) · · g c i d m l b e f) e0 (funext fun q=>funext fun o=>funext fun r=>funext fun s=>funext fun t=>funext fun u=>funext fun w=>(At ..).trans ((sX N (Ao (jS N F) n) F q o r s t u w).trans (Bp (Xg N · (Jj F) q o r s t u w) e0))):_)
theorem jT (v:LA) (p:Nat) (ab x:Bool) (y:LA) (z:Nat) (ac aa:Bool) (F:KF R):Ch (oU N) jP N 195 [(.imm v p 1 ab x),(.imm y z 1 ac aa)] [] F=(Wo N v p ab x y z ac aa (Jj F)):=by
 rw[cL]
 exact Eq.trans (by kernel_rfl) (Bp (I_ N (Jj F) · v p ab x y z ac aa) (funext fun g=>funext fun c=>funext fun i=>funext fun d=>funext fun m=>funext fun l=>funext fun b=>funext fun e=>funext fun f=>(Aj ..).trans (OA N F N g c i d m l b e f)):_)
def cM (a:LA) (h:Am) (k:KF R):O R :=
 match a,h with
 | [(.imm v p 1 ab x),(.imm y z 1 ac aa)],[]=>(Wo N v p ab x y z ac aa (Jj k))
 | _,_=>none
theorem jU:Ap N 195 @cM:=by
 intro R Q a h k j;unfold cM;split;exact A0 (jT ..) (jT ..) ⟨Nu N,Aqj N,trivial⟩;exact A3
def Ajx:=A1 (jU N)
def Ajy:=Ce (jU N)
def Jy (r0:Nat→Nat→LA→LA→O R) (d:LA) (b:Nat) (e f:Bool) (c:Int) (k0:Int→Int→LA→O R) (l g:Int) (i:LA):O R :=
 (cond (decide (g≥0)) (cond (Ac g b) (An .u32 (d.drop ((g.toNat)*1)) fun m=>(cond ((wrap .u64 c)==0) none (cond (Ac g b) (cond ((Nat.beq 1 1)&&((Nat.ble ((0+((g.toNat)*1))+1) (i.length))&&(!false))) (cond ((wrap .u64 c)==0) none (k0 (Int.tmod (Ta .u64 (wrap .u64 (l*2 ^ 32)) (wrap .u64 m)) (wrap .u64 c)) (wrap .i64 (g - 1)) (i.set (0+((g.toNat)*1)) (.int .u32 (wrap .u32 (wrap .u64 (Int.tdiv (Ta .u64 (wrap .u64 (l*2 ^ 32)) (wrap .u64 m)) (wrap .u64 c)))))))) none) none))) none) (Wj N b i (fun o=>(B7 N l (fun p q=>(r0 o p i q))))))
def Ea (r0:Nat→Nat→LA→LA→O R) (d:LA) (b:Nat) (e f:Bool) (c:Int):Nat→Int→Int→LA→O R
 | 0,_,_,_=>none
 | n+1,l,g,i=>(Jy N r0 d b e f c (Ea r0 d b e f c n) l g i)
def Pt (N:Nat) (r0:Nat→Nat→LA→LA→O R) (q0:Int→Int→LA→O R) (d:LA) (b:Nat) (e f:Bool) (c:Int):O R :=
 (cond ((decide (0≤((b:Nat):Int)))&&((decide (((b:Nat):Int)≤((b:Nat):Int)))&&((decide (((b:Nat):Int)≤140737488355328))&&(decide ((((b:Nat):Int)*((4:Nat):Int))≤140737488355328))))) (q0 0 (wrap .i64 (((b:Nat):Int) - 1)) (List.replicate b (.int .u32 0))) none)
def Gq:=(Ah (fun (N:Nat) (d:LA) (b:Nat) (e f:Bool) (c:Int) (r0:Nat→Nat→LA→LA→O R)=>(Pt N r0 (fun l g i=>(Ea N r0 d b e f c N l g i)) d b e f c))).1
theorem AM (d b e f c r0):(@Gq R N d b e f c r0)=(Pt N r0 (fun l g i=>(Ea N r0 d b e f c N l g i)) d b e f c):=by rw[Gq,(Ah _).2]
def FG:Hints:={ H:=(hS hL (hS hL (hS hL (hS (hS hL (hS (hP [0,1,4,6,7] hL) hL)) hL)))),nils:=[(4,1),(5,1)],modes:=[(2,1),(2,1)] }
def JA:D9:=[(171,sI N),(149,Hc N)]
def l8 (F:KF R):=Jw Tryz.f197 FG (JA N) [] N F
def Hs (F:KF R):Nat→Nat→LA→LA→O R:=(fun r s t u=>F (.tup [(.own 300000 0 r),(.own 300001 0 s)]) (hq [(bQ 1 t),(bQ 1 u)]))
def l_ (d:LA) (b:Nat) (e f:Bool) (c l g:Int) (i:LA):St:=⟨[(0,(.imm d b 1 e f)),(1,(.int .u32 c)),(4,(.own 300000 0 b)),(6,(.int .u64 l)),(7,(iv g))],(hq [(bQ 1 i)])⟩
def lc (F:KF R):=l8 N F [1,1,1,0,1,0] []
theorem Vr (F:KF R) (d:LA) (b:Nat) (e f:Bool) (c:Int):∀ (n:Nat) (l g:Int) (i:LA),Ao (lc N F) n (l_ d b e f c l g i)=(Ea N (Hs F) d b e f c n l g i)
 | 0,_,_,_=>by kernel_rfl
 | n+1,l,g,i=>Eq.trans (by kernel_rfl) (Bp (Jy N (Hs F) d b e f c · l g i) (funext fun l=>funext fun g=>funext fun i=>(Vr F d b e f c n l g i)):_)
theorem FH (d:LA) (b:Nat) (e f:Bool) (c:Int) (F:KF R):Ch (JA N) FG N 197 [(.imm d b 1 e f),(.int .u32 c)] [] F=(Gq N d b e f c (Hs F)):=by
 rw[AM]
 exact Eq.trans (by kernel_rfl) (Bp (Pt N (Hs F) · d b e f c) (funext fun l=>funext fun g=>funext fun i=>(Aj ..).trans (Vr N F d b e f c N l g i)):_)
def AN (a:LA) (h:Am) (k:KF R):O R :=
 match a,h with
 | [(.imm d b 1 e f),(.int .u32 c)],[]=>(Gq N d b e f c (Hs k))
 | _,_=>none
theorem FI:Ap N 197 @AN:=by
 intro R Q a h k j;unfold AN;split;exact A0 (FH ..) (FH ..) ⟨sJ N,Hd N,trivial⟩;exact A3
def ld:=A1 (FI N)
def lh:=Ce (FI N)
def Uk (N:Nat) (r0:Nat→LA→O R) (d:LA) (b:Nat) (e f:Bool) (c:Int) (k0:Nat→Int→Int→Int→LA→O R) (i:Nat) (m o g:Int) (l:LA):O R :=
 (cond (decide (g<o)) (cond (Ac g b) (An .u32 (d.drop ((g.toNat)*1)) fun p=>(cond (decide (c<0)) none (cond (Ac g i) (cond ((Nat.beq 1 1)&&((Nat.ble ((0+((g.toNat)*1))+1) (l.length))&&(!false))) (k0 i (Int.fdiv (Ta .u64 m (wrap .u64 ((wrap .u64 p)*2 ^ (min (c.toNat) 64)))) (2 ^ 32)) o (wrap .i64 (g+1)) (l.set (0+((g.toNat)*1)) (.int .u32 (wrap .u32 (Ta .u64 m (wrap .u64 ((wrap .u64 p)*2 ^ (min (c.toNat) 64)))))))) none) none))) none) (cond (Ac ((b:Nat):Int) i) (cond ((Nat.beq 1 1)&&((Nat.ble ((0+(b*1))+1) (l.length))&&(!false))) (r0 i (l.set (0+(b*1)) (.int .u32 (wrap .u32 m)))) none) none))
def Jk (r0:Nat→LA→O R) (d:LA) (b:Nat) (e f:Bool) (c:Int):Nat→Nat→Int→Int→Int→LA→O R
 | 0,_,_,_,_,_=>none
 | n+1,i,m,o,g,l=>(Uk N r0 d b e f c (Jk r0 d b e f c n) i m o g l)
def JB (N:Nat) (r0:Nat→LA→O R) (q0:Nat→Int→Int→Int→LA→O R) (d:LA) (b:Nat) (e f:Bool) (c:Int):O R :=
 (cond ((decide (0≤(wrap .i64 (((b:Nat):Int)+1))))&&((decide ((wrap .i64 (((b:Nat):Int)+1))≤(wrap .i64 (((b:Nat):Int)+1))))&&((decide ((wrap .i64 (((b:Nat):Int)+1))≤140737488355328))&&(decide (((wrap .i64 (((b:Nat):Int)+1))*((4:Nat):Int))≤140737488355328))))) (q0 ((wrap .i64 (((b:Nat):Int)+1)).toNat) 0 ((b:Nat):Int) 0 (List.replicate ((wrap .i64 (((b:Nat):Int)+1)).toNat) (.int .u32 0))) none)
def Sk:=(Ah (fun (N:Nat) (d:LA) (b:Nat) (e f:Bool) (c:Int) (r0:Nat→LA→O R)=>(JB N r0 (fun i m o g l=>(Jk N r0 d b e f c N i m o g l)) d b e f c))).1
theorem cN (d b e f c r0):(@Sk R N d b e f c r0)=(JB N r0 (fun i m o g l=>(Jk N r0 d b e f c N i m o g l)) d b e f c):=by rw[Sk,(Ah _).2]
def jV:Hints:={ H:=(hS hL (hS hL (hS hL (hS (hS hL (hS (hP [0,1,5,6,13,14,15] hL) hL)) hL)))),nils:=[(4,1)],modes:=[(2,1)] }
def Ajz (F:KF R):=Jw Tryz.f202 jV [] [] N F
def Ra (F:KF R):Nat→LA→O R:=(fun q r=>F (.own 300000 0 q) (hq [(bQ 1 r)]))
def Aj0 (d:LA) (b:Nat) (e f:Bool) (c:Int) (i:Nat) (m o g:Int) (l:LA):St:=⟨[(0,(.imm d b 1 e f)),(1,(iv c)),(5,(.own 300000 0 i)),(6,(.int .u64 m)),(13,(.imm d b 1 e f)),(14,(iv o)),(15,(iv g))],(hq [(bQ 1 l)])⟩
def Aj1 (F:KF R):=Ajz N F [1,1,1,0,1,0] []
theorem OB (F:KF R) (d:LA) (b:Nat) (e f:Bool) (c:Int):∀ (n i:Nat) (m o g:Int) (l:LA),Ao (Aj1 N F) n (Aj0 d b e f c i m o g l)=(Jk N (Ra F) d b e f c n i m o g l)
 | 0,_,_,_,_,_=>by kernel_rfl
 | n+1,i,m,o,g,l=>Eq.trans (by kernel_rfl) (Bp (Uk N (Ra F) d b e f c · i m o g l) (funext fun i=>funext fun m=>funext fun o=>funext fun g=>funext fun l=>(OB F d b e f c n i m o g l)):_)
theorem jW (d:LA) (b:Nat) (e f:Bool) (c:Int) (F:KF R):Ch [] jV N 202 [(.imm d b 1 e f),(iv c)] [] F=(Sk N d b e f c (Ra F)):=by
 rw[cN]
 exact Eq.trans (by kernel_rfl) (Bp (JB N (Ra F) · d b e f c) (funext fun i=>funext fun m=>funext fun o=>funext fun g=>funext fun l=>(Aj ..).trans (OB N F d b e f c N i m o g l)):_)
def cO (a:LA) (h:Am) (k:KF R):O R :=
 match a,h with
 | [(.imm d b 1 e f),(.int .i64 c)],[]=>(Sk N d b e f c (Ra k))
 | _,_=>none
theorem jX:Ap N 202 @cO:=by
 intro R Q a h k j;unfold cO;split;exact A0 (jW ..) (jW ..) trivial;exact A3
def Aj2:=A1 (jX N)
def Aj3:=Ce (jX N)
def Pu (N:Nat) (r0:Int→LA→O R) (c d:Nat) (e m:Int) (f:LA) (b:Nat) (g i:Bool) (k4:Int→Int→Int→LA→O R) (v w q:Int) (t:LA):O R :=
 (cond (decide (q<w)) (cond (Ac q b) (An .u32 (f.drop ((q.toNat)*1)) fun aa=>(cond (Ac q d) (An .u32 (t.drop (c+((q.toNat)*1))) fun ab=>(cond (Ac q d) (cond ((Nat.beq 1 1)&&((Nat.ble ((c+((q.toNat)*1))+1) (t.length))&&(!false))) (k4 (Int.fdiv (wrap .u64 (v+(wrap .u64 ((wrap .u64 ab)+(wrap .u64 aa))))) (2 ^ 32)) w (wrap .i64 (q+1)) (t.set (c+((q.toNat)*1)) (.int .u32 (wrap .u32 (wrap .u64 (v+(wrap .u64 ((wrap .u64 ab)+(wrap .u64 aa))))))))) none) none)) none)) none) (cond (Ac e d) (An .u32 (t.drop (c+((e.toNat)*1))) fun ai=>(cond (Ac e d) (cond ((Nat.beq 1 1)&&((Nat.ble ((c+((e.toNat)*1))+1) (t.length))&&(!false))) (r0 (wrap .u32 (wrap .u64 (m - 1))) (t.set (c+((e.toNat)*1)) (.int .u32 (wrap .u32 (ai+(wrap .u32 v)))))) none) none)) none))
def In (r0:Int→LA→O R) (c d:Nat) (e m:Int) (f:LA) (b:Nat) (g i:Bool):Nat→Int→Int→Int→LA→O R
 | 0,_,_,_,_=>none
 | n+1,v,w,q,t=>(Pu N r0 c d e m f b g i (In r0 c d e m f b g i n) v w q t)
def Ke (N:Nat) (r0:Int→LA→O R) (c d:Nat) (f:LA) (b:Nat) (g i:Bool) (e m:Int) (k3:Int→Int→Int→LA→O R) (q4:Int→Int→Int→LA→O R) (u x r:Int) (s:LA):O R :=
 (cond (decide (r<x)) (cond (Ac r b) (An .u32 (f.drop ((r.toNat)*1)) fun y=>(cond (Ac r d) (An .u32 (s.drop (c+((r.toNat)*1))) fun ac=>(cond (Ac r d) (cond ((Nat.beq 1 1)&&((Nat.ble ((c+((r.toNat)*1))+1) (s.length))&&(!false))) (k3 (wrap .u64 ((Int.fdiv (wrap .u64 ((wrap .u64 (m*(wrap .u64 y)))+u)) (2 ^ 32))+(Int.fdiv (wrap .u64 ((wrap .u64 ac) - (wrap .u64 (wrap .u32 (wrap .u64 ((wrap .u64 (m*(wrap .u64 y)))+u)))))) (2 ^ 63)))) x (wrap .i64 (r+1)) (s.set (c+((r.toNat)*1)) (.int .u32 (wrap .u32 (wrap .u64 ((wrap .u64 ac) - (wrap .u64 (wrap .u32 (wrap .u64 ((wrap .u64 (m*(wrap .u64 y)))+u)))))))))) none) none)) none)) none) (cond (Ac e d) (An .u32 (s.drop (c+((e.toNat)*1))) fun z=>(cond (Ac e d) (cond ((Nat.beq 1 1)&&((Nat.ble ((c+((e.toNat)*1))+1) (s.length))&&(!false))) (cond ((Int.fdiv (wrap .u64 ((wrap .u64 z) - u)) (2 ^ 63))==0) (r0 (wrap .u32 m) (s.set (c+((e.toNat)*1)) (.int .u32 (wrap .u32 (wrap .u64 ((wrap .u64 z) - u)))))) (q4 0 ((b:Nat):Int) 0 (s.set (c+((e.toNat)*1)) (.int .u32 (wrap .u32 (wrap .u64 ((wrap .u64 z) - u))))))) none) none)) none))
def Gr (r0:Int→LA→O R) (c d:Nat) (f:LA) (b:Nat) (g i:Bool) (e m:Int):Nat→Int→Int→Int→LA→O R
 | 0,_,_,_,_=>none
 | n+1,u,x,r,s=>(Ke N r0 c d f b g i e m (Gr r0 c d f b g i e m n) (fun v w q t=>(In N r0 c d e m f b g i N v w q t)) u x r s)
def Wp (N:Nat) (r0:Int→LA→O R) (c d:Nat) (f:LA) (b:Nat) (g i:Bool) (e:Int) (l:LA) (q3:Int→Int→Int→LA→O R) (m:Int):O R :=
 (q3 0 ((b:Nat):Int) 0 l)
def E6 (r0:Int→LA→O R) (c d:Nat) (f:LA) (b:Nat) (g i:Bool) (e:Int) (l:LA) (m:Int):O R:=(Wp N r0 c d f b g i e l (fun u x r s=>(Gr N r0 c d f b g i e m N u x r s)) m)
def Wq (N:Nat) (k0:Int→Int→Int→O R) (r0:Int→LA→O R) (c d:Nat) (f:LA) (b:Nat) (g i:Bool) (e o p:Int) (l:LA) (q2:Int→O R):O R :=
 (cond (Ac (wrap .i64 (e - 1)) b) (An .u32 (f.drop (((wrap .i64 (e - 1)).toNat)*1)) fun ad=>(cond ((Int.fdiv (wrap .u64 (p+(wrap .u64 ad))) (2 ^ 32)) != 0) (q2 (wrap .u64 (o - 1))) (k0 e (wrap .u64 (o - 1)) (wrap .u64 (p+(wrap .u64 ad)))))) none)
def Mu (k0:Int→Int→Int→O R) (r0:Int→LA→O R) (c d:Nat) (f:LA) (b:Nat) (g i:Bool) (e o p:Int) (l:LA):O R:=(Wq N k0 r0 c d f b g i e o p l (fun m=>(E6 N r0 c d f b g i e l m)))
def Wr (N:Nat) (r0:Int→LA→O R) (c d:Nat) (f:LA) (b:Nat) (g i:Bool) (l:LA) (k0:Int→Int→Int→O R) (q1:O R) (q2:Int→O R) (e o p:Int):O R :=
 (cond (((Int.fdiv o (2 ^ 32)) != 0)==false) (cond (Ac (wrap .i64 (e - 2)) b) (An .u32 (f.drop (((wrap .i64 (e - 2)).toNat)*1)) fun aj=>(cond (Ac (wrap .i64 (e - 2)) d) (An .u32 (l.drop (c+(((wrap .i64 (e - 2)).toNat)*1))) fun ak=>(cond (cond false true (decide ((wrap .u64 (o*(wrap .u64 aj)))>(Ta .u64 (wrap .u64 (p*2 ^ 32)) (wrap .u64 ak))))) q1 (q2 o))) none)) none) q1)
def E7 (r0:Int→LA→O R) (c d:Nat) (f:LA) (b:Nat) (g i:Bool) (l:LA):Nat→Int→Int→Int→O R
 | 0,_,_,_=>none
 | n+1,e,o,p=>(Wr N r0 c d f b g i l (E7 r0 c d f b g i l n) (Mu N (E7 r0 c d f b g i l n) r0 c d f b g i e o p l) (fun m=>(E6 N r0 c d f b g i e l m)) e o p)
def Xh (N:Nat) (r0:Int→LA→O R) (q0:Int→Int→Int→O R) (c d:Nat) (f:LA) (b:Nat) (g i:Bool) (l:LA):O R :=
 (cond (Ac ((b:Nat):Int) d) (An .u32 (l.drop (c+(b*1))) fun ae=>(cond (Ac (wrap .i64 (((b:Nat):Int) - 1)) d) (An .u32 (l.drop (c+(((wrap .i64 (((b:Nat):Int) - 1)).toNat)*1))) fun af=>(cond (Ac (wrap .i64 (((b:Nat):Int) - 1)) b) (An .u32 (f.drop (((wrap .i64 (((b:Nat):Int) - 1)).toNat)*1)) fun ag=>(cond ((wrap .u64 ag)==0) none (cond (Ac (wrap .i64 (((b:Nat):Int) - 1)) b) (An .u32 (f.drop (((wrap .i64 (((b:Nat):Int) - 1)).toNat)*1)) fun ah=>(cond ((wrap .u64 ah)==0) none (q0 ((b:Nat):Int) (wrap .u64 (Int.tdiv (Ta .u64 (wrap .u64 ((wrap .u64 ae)*2 ^ 32)) (wrap .u64 af)) (wrap .u64 ag))) (Int.tmod (Ta .u64 (wrap .u64 ((wrap .u64 ae)*2 ^ 32)) (wrap .u64 af)) (wrap .u64 ah))))) none))) none)) none)) none)
def Lm:=(Ah (fun (N:Nat) (c d:Nat) (f:LA) (b:Nat) (g i:Bool) (l:LA) (r0:Int→LA→O R)=>(Xh N r0 (fun e o p=>(E7 N r0 c d f b g i l N e o p)) c d f b g i l))).1
theorem OC (c d f b g i l r0):(@Lm R N c d f b g i l r0)=(Xh N r0 (fun e o p=>(E7 N r0 c d f b g i l N e o p)) c d f b g i l):=by rw[Lm,(Ah _).2]
def WJ:Hints:={ H:=(hS hL (hS hL (hS hL (hS hL (hJ [0,1,5,7] (hS (hP [0,1,5,7,8] (hJ [0,1,5,7,8] hL hL)) hL) (hS hL (hS (hS hL (hS (hP [0,1,5,7,9,84,85,86] hL) hL)) (hS hL (hS hL (hS hL (hS hL (hS (hS hL (hS (hP [0,5,7,9,134,135,136] hL) hL)) hL)))))))))))) }
def Mv (F:KF R):=Jw Tryz.f203 WJ [] [100000] N F
def Bw (F:KF R):Int→LA→O R:=(fun al am=>F (.int .u32 al) [(100000,(bQ 1 am))])
def yb (c d:Nat) (e m:Int) (f:LA) (b:Nat) (g i:Bool) (v w q:Int) (t:LA):St:=⟨[(0,(.own 100000 c d)),(5,(iv e)),(7,(.int .u64 m)),(9,(.int .u64 v)),(134,(.imm f b 1 g i)),(135,(iv w)),(136,(iv q))],[(100000,(bQ 1 t))]⟩
def yc (F:KF R):=Mv N F [1,1,1,1,1,1,1,1,1,1,1,0,1,0] []
def yd (c d:Nat) (f:LA) (b:Nat) (g i:Bool) (e m u x r:Int) (s:LA):St:=⟨[(0,(.own 100000 c d)),(1,(.imm f b 1 g i)),(5,(iv e)),(7,(.int .u64 m)),(9,(.int .u64 u)),(84,(.imm f b 1 g i)),(85,(iv x)),(86,(iv r))],[(100000,(bQ 1 s))]⟩
def ye (F:KF R):=Mv N F [1,1,1,1,1,1,0,1,0] []
def yf (c d:Nat) (f:LA) (b:Nat) (g i:Bool) (e:Int) (l:LA) (m:Int):St:=⟨[(0,(.own 100000 c d)),(1,(.imm f b 1 g i)),(5,(iv e)),(7,(.int .u64 m))],[(100000,(bQ 1 l))]⟩
def yg (F:KF R):=Mv N F [1,1,1,1,1] []
def yh (c d:Nat) (f:LA) (b:Nat) (g i:Bool) (e o p:Int) (l:LA):St:=⟨[(0,(.own 100000 c d)),(1,(.imm f b 1 g i)),(5,(iv e)),(7,(.int .u64 o)),(8,(.int .u64 p))],[(100000,(bQ 1 l))]⟩
def yi (F:KF R) (Q0:St→O R):=Mv N F [1,1,1,1,0,0,0,1] [Q0]
def Zt (c d:Nat) (f:LA) (b:Nat) (g i:Bool) (l:LA) (e o p:Int):St:=⟨[(0,(.own 100000 c d)),(1,(.imm f b 1 g i)),(5,(iv e)),(7,(.int .u64 o)),(8,(.int .u64 p))],[(100000,(bQ 1 l))]⟩
def WK (F:KF R):=Mv N F [1,1,1,1,0,0] []
theorem FJ (F:KF R) (c d:Nat) (e m:Int) (f:LA) (b:Nat) (g i:Bool):∀ (n:Nat) (v w q:Int) (t:LA),Ao (yc N F) n (yb c d e m f b g i v w q t)=(In N (Bw F) c d e m f b g i n v w q t)
 | 0,_,_,_,_=>by kernel_rfl
 | n+1,v,w,q,t=>Eq.trans (by kernel_rfl) (Bp (Pu N (Bw F) c d e m f b g i · v w q t) (funext fun v=>funext fun w=>funext fun q=>funext fun t=>(FJ F c d e m f b g i n v w q t)):_)
theorem FK (F:KF R) (c d:Nat) (f:LA) (b:Nat) (g i:Bool) (e m:Int):∀ (n:Nat) (u x r:Int) (s:LA),Ao (ye N F) n (yd c d f b g i e m u x r s)=(Gr N (Bw F) c d f b g i e m n u x r s)
 | 0,_,_,_,_=>by kernel_rfl
 | n+1,u,x,r,s=>Eq.trans (by kernel_rfl) (VS (Ke N (Bw F) c d f b g i e m · · u x r s) (funext fun u=>funext fun x=>funext fun r=>funext fun s=>(FK F c d f b g i e m n u x r s)) (funext fun v=>funext fun w=>funext fun q=>funext fun t=>(Aj ..).trans (FJ N F c d e m f b g i N v w q t)):_)
theorem FL (F:KF R) (c d:Nat) (f:LA) (b:Nat) (g i:Bool) (e:Int) (l:LA):∀ (m:Int),A9 (yg N F) (yf c d f b g i e l m)=(E6 N (Bw F) c d f b g i e l m):=by
 intro m
 exact Eq.trans (by kernel_rfl) (Bp (Wp N (Bw F) c d f b g i e l · m) (funext fun u=>funext fun x=>funext fun r=>funext fun s=>(Aj ..).trans (FK N F c d f b g i e m N u x r s)):_)
theorem li (Q0:St→O R) (F:KF R) (c d:Nat) (f:LA) (b:Nat) (g i:Bool) (e o p:Int) (l:LA):A9 (yi N F Q0) (yh c d f b g i e o p l)=(Mu N (fun e o p=>Q0 (Zt c d f b g i l e o p)) (Bw F) c d f b g i e o p l):=by
 exact Eq.trans (by kernel_rfl) (Bp (Wq N (fun e o p=>Q0 (Zt c d f b g i l e o p)) (Bw F) c d f b g i e o p l ·) (funext fun m=>(At ..).trans (FL N F c d f b g i e l m)):_)
theorem FM (F:KF R) (c d:Nat) (f:LA) (b:Nat) (g i:Bool) (l:LA):∀ (n:Nat) (e o p:Int),Ao (WK N F) n (Zt c d f b g i l e o p)=(E7 N (Bw F) c d f b g i l n e o p)
 | 0,_,_,_=>by kernel_rfl
 | n+1,e,o,p=>have e0:=(funext fun e=>funext fun o=>funext fun p=>(FM F c d f b g i l n e o p))
  Eq.trans (by kernel_rfl) (Bdj (Wr N (Bw F) c d f b g i l · · · e o p) e0 ((At ..).trans ((li N (Ao (WK N F) n) F c d f b g i e o p l).trans (Bp (Mu N · (Bw F) c d f b g i e o p l) e0))) (funext fun m=>(At ..).trans (FL N F c d f b g i e l m)):_)
theorem WL (c d:Nat) (f:LA) (b:Nat) (g i:Bool) (l:LA) (F:KF R):Ch [] WJ N 203 [(.own 100000 c d),(.imm f b 1 g i)] [(100000,(bQ 1 l))] F=(Lm N c d f b g i l (Bw F)):=by
 rw[OC]
 exact Eq.trans (by kernel_rfl) (Bp (Xh N (Bw F) · c d f b g i l) (funext fun e=>funext fun o=>funext fun p=>(Aj ..).trans (FM N F c d f b g i l N e o p)):_)
def OD (a:LA) (h:Am) (k:KF R):O R :=
 match a,h with
 | [(.own 100000 c d),(.imm f b 1 g i)],[(100000,⟨false,false,true,false,1,l,false⟩)]=>(Lm N c d f b g i l (Bw k))
 | _,_=>none
theorem WM:Ap N 203 @OD:=by
 intro R Q a h k j;unfold OD;split;exact A0 (WL ..) (WL ..) trivial;exact A3
def yj:=A1 (WM N)
def yk:=Ce (WM N)
def Iw (r0:Nat→Bool→LA→O R) (d:Bool) (k0:LA→Nat→Int→Nat→LA→Nat→Int→Int→LA→O R) (l:LA) (i:Nat) (e:Int) (g:Nat) (m:LA) (o:Nat) (p b:Int) (f:LA):O R :=
 (cond (decide (b<p)) (cond (Ac b o) (An .u32 (m.drop ((b.toNat)*1)) fun u=>(cond (decide ((wrap .i64 (b+1))<((i:Nat):Int))) (cond (Ac (wrap .i64 (b+1)) i) (An .u32 (l.drop (((wrap .i64 (b+1)).toNat)*1)) fun w=>(cond (decide (e<0)) none (cond (Ac b g) (cond ((Nat.beq 1 1)&&((Nat.ble ((0+((b.toNat)*1))+1) (f.length))&&(!false))) (k0 l i e g m o p (wrap .i64 (b+1)) (f.set (0+((b.toNat)*1)) (.int .u32 (wrap .u32 (Int.fdiv (Ta .u64 (wrap .u64 u) (wrap .u64 ((wrap .u64 w)*2 ^ 32))) (2 ^ (min (e.toNat) 64))))))) none) none))) none) (cond (decide (e<0)) none (cond (Ac b g) (cond ((Nat.beq 1 1)&&((Nat.ble ((0+((b.toNat)*1))+1) (f.length))&&(!false))) (k0 l i e g m o p (wrap .i64 (b+1)) (f.set (0+((b.toNat)*1)) (.int .u32 (wrap .u32 (Int.fdiv (wrap .u64 u) (2 ^ (min (e.toNat) 64))))))) none) none)))) none) (Wj N g f (fun x=>(r0 x true f))))
def Dm (r0:Nat→Bool→LA→O R) (d:Bool):Nat→LA→Nat→Int→Nat→LA→Nat→Int→Int→LA→O R
 | 0,_,_,_,_,_,_,_,_,_=>none
 | n+1,l,i,e,g,m,o,p,b,f=>(Iw N r0 d (Dm r0 d n) l i e g m o p b f)
def Od (r0:Nat→Bool→LA→O R) (q0:LA→Nat→Int→Nat→LA→Nat→Int→Int→LA→O R) (r:LA) (s:Nat) (t d:Bool) (c:Int):O R :=
 (cond (decide (c<0)) (r0 0 false []) (Ci N r s t d (fun v q=>(cond (decide ((wrap .i64 (Int.tdiv c 32))≥((q:Nat):Int))) (r0 0 true []) (cond ((decide (0≤(wrap .i64 (Int.tdiv c 32))))&&((decide ((wrap .i64 (Int.tdiv c 32))≤((q:Nat):Int)))&&((decide (((q:Nat):Int)≤((q:Nat):Int)))&&(decide (((q:Nat):Int)≤((q:Nat):Int)))))) (cond ((decide (0≤(((q - ((wrap .i64 (Int.tdiv c 32)).toNat)):Nat):Int)))&&((decide ((((q - ((wrap .i64 (Int.tdiv c 32)).toNat)):Nat):Int)≤(((q - ((wrap .i64 (Int.tdiv c 32)).toNat)):Nat):Int)))&&((decide ((((q - ((wrap .i64 (Int.tdiv c 32)).toNat)):Nat):Int)≤140737488355328))&&(decide (((((q - ((wrap .i64 (Int.tdiv c 32)).toNat)):Nat):Int)*((4:Nat):Int))≤140737488355328))))) (q0 ((v.drop (((wrap .i64 (Int.tdiv c 32)).toNat)*1)).take ((q - ((wrap .i64 (Int.tdiv c 32)).toNat))*1)) (q - ((wrap .i64 (Int.tdiv c 32)).toNat)) (Int.tmod c 32) (q - ((wrap .i64 (Int.tdiv c 32)).toNat)) ((v.drop (((wrap .i64 (Int.tdiv c 32)).toNat)*1)).take ((q - ((wrap .i64 (Int.tdiv c 32)).toNat))*1)) (q - ((wrap .i64 (Int.tdiv c 32)).toNat)) (((q - ((wrap .i64 (Int.tdiv c 32)).toNat)):Nat):Int) 0 (List.replicate (q - ((wrap .i64 (Int.tdiv c 32)).toNat)) (.int .u32 0))) none) none)))))
def Na:=(Ah (fun (N:Nat) (r:LA) (s:Nat) (t d:Bool) (c:Int) (r0:Nat→Bool→LA→O R)=>(Od N r0 (fun l i e g m o p b f=>(Dm N r0 d N l i e g m o p b f)) r s t d c))).1
theorem Ul (r s t d c r0):(@Na R N r s t d c r0)=(Od N r0 (fun l i e g m o p b f=>(Dm N r0 d N l i e g m o p b f)) r s t d c):=by rw[Na,(Ah _).2]
def OE:Hints:={ H:=(hS hL (hS hL (hS hL (hS hL (hS hL (hS hL (hS hL (hS (hS hL (hS (hP [0,6,7,29,30,31] hL) hL)) hL)))))))),nils:=[(4,1)],modes:=[(2,1),(0,0)] }
def WN:D9:=[(171,Gg N)]
def sY (F:KF R):=Jw Tryz.f204 OE (WN N) [] N F
def Kf (F:KF R):Nat→Bool→LA→O R:=(fun y z aa=>F (.tup [(.own 300000 0 y),(.bool z)]) (hq [(bQ 1 aa)]))
def sZ (d:Bool) (l:LA) (i:Nat) (e:Int) (g:Nat) (m:LA) (o:Nat) (p b:Int) (f:LA):St:=⟨[(0,(.imm l i 1 false d)),(6,(iv e)),(7,(.own 300000 0 g)),(29,(.imm m o 1 false d)),(30,(iv p)),(31,(iv b))],(hq [(bQ 1 f)])⟩
def s5 (F:KF R):=sY N F [1,1,1,1,1,1,1,0,1,0] []
theorem AO (F:KF R) (d:Bool):∀ (n:Nat) (l:LA) (i:Nat) (e:Int) (g:Nat) (m:LA) (o:Nat) (p b:Int) (f:LA),Ao (s5 N F) n (sZ d l i e g m o p b f)=(Dm N (Kf F) d n l i e g m o p b f)
 | 0,_,_,_,_,_,_,_,_,_=>by kernel_rfl
 | n+1,l,i,e,g,m,o,p,b,f=>Eq.trans (by kernel_rfl) (Bp (Iw N (Kf F) d · l i e g m o p b f) (funext fun l=>funext fun i=>funext fun e=>funext fun g=>funext fun m=>funext fun o=>funext fun p=>funext fun b=>funext fun f=>(AO F d n l i e g m o p b f)):_)
theorem OF (r:LA) (s:Nat) (t d:Bool) (c:Int) (F:KF R):Ch (WN N) OE N 204 [(.imm r s 1 t d),(iv c)] [] F=(Na N r s t d c (Kf F)):=by
 rw[Ul]
 exact Eq.trans (by kernel_rfl) (Bp (Od N (Kf F) · r s t d c) (funext fun l=>funext fun i=>funext fun e=>funext fun g=>funext fun m=>funext fun o=>funext fun p=>funext fun b=>funext fun f=>(Aj ..).trans (AO N F d N l i e g m o p b f)):_)
def JC (a:LA) (h:Am) (k:KF R):O R :=
 match a,h with
 | [(.imm r s 1 t d),(.int .i64 c)],[]=>(Na N r s t d c (Kf k))
 | _,_=>none
theorem OG:Ap N 204 @JC:=by
 intro R Q a h k j;unfold JC;split;exact A0 (OF ..) (OF ..) ⟨Gh N,trivial⟩;exact A3
def s6:=A1 (OG N)
def s7:=Ce (OG N)
def Nv (r0:Nat→Nat→LA→LA→O R) (g:Int) (b c:Nat) (m:LA) (k0:Nat→Int→Int→Int→Int→LA→LA→O R) (l:Nat) (f e o d:Int) (i p:LA):O R :=
 (cond (decide (d<o)) (cond ((decide (0≤(wrap .i64 ((wrap .i64 (e - 1)) - d))))&&((decide ((wrap .i64 ((wrap .i64 (e - 1)) - d))≤(wrap .i64 ((wrap .i64 ((wrap .i64 ((wrap .i64 (e - 1)) - d))+f))+1))))&&((decide ((wrap .i64 ((wrap .i64 ((wrap .i64 ((wrap .i64 (e - 1)) - d))+f))+1))≤((c:Nat):Int)))&&(decide (((c:Nat):Int)≤((c:Nat):Int)))))) (Lm N (0+(((wrap .i64 ((wrap .i64 (e - 1)) - d)).toNat)*1)) (((wrap .i64 ((wrap .i64 ((wrap .i64 ((wrap .i64 (e - 1)) - d))+f))+1)).toNat) - ((wrap .i64 ((wrap .i64 (e - 1)) - d)).toNat)) (m.take (b*1)) b false true p (fun y z=>(cond (Ac (wrap .i64 ((wrap .i64 (e - 1)) - d)) l) (cond ((Nat.beq 1 1)&&((Nat.ble ((0+(((wrap .i64 ((wrap .i64 (e - 1)) - d)).toNat)*1))+1) (i.length))&&(!false))) (k0 l f e o (wrap .i64 (d+1)) (i.set (0+(((wrap .i64 ((wrap .i64 (e - 1)) - d)).toNat)*1)) (.int .u32 y)) z) none) none))) none) (cond ((decide ((0:Int)≤(0:Int)))&&((decide (0≤f))&&((decide (f≤((c:Nat):Int)))&&(decide (((c:Nat):Int)≤((c:Nat):Int)))))) (Na N (p.take ((f.toNat)*1)) (f.toNat) false true g (fun aa aj ab=>(Wj N l i (fun ac=>(r0 ac aa i ab))))) none))
def Ec (r0:Nat→Nat→LA→LA→O R) (g:Int) (b c:Nat) (m:LA):Nat→Nat→Int→Int→Int→Int→LA→LA→O R
 | 0,_,_,_,_,_,_,_=>none
 | n+1,l,f,e,o,d,i,p=>(Nv N r0 g b c m (Ec r0 g b c m n) l f e o d i p)
def Um (r0:Nat→Nat→LA→LA→O R) (q0:Int→Nat→LA→Nat→Int→Int→Int→Int→LA→LA→O R) (r:LA) (s:Nat) (v t:Bool) (q:LA) (b:Nat) (w u:Bool):O R :=
 (cond (Ac (wrap .i64 (((b:Nat):Int) - 1)) b) (An .u32 (q.drop (((wrap .i64 (((b:Nat):Int) - 1)).toNat)*1)) fun ad=>(Cb N ad (fun g=>(Sk N q b false u g (fun x m=>(cond ((decide ((0:Int)≤(0:Int)))&&((decide (0≤((b:Nat):Int)))&&((decide (((b:Nat):Int)≤((x:Nat):Int)))&&(decide (((x:Nat):Int)≤((x:Nat):Int)))))) (Sk N r s false t g (fun c ae=>(cond ((decide (0≤(wrap .i64 (((c:Nat):Int) - ((b:Nat):Int)))))&&((decide ((wrap .i64 (((c:Nat):Int) - ((b:Nat):Int)))≤(wrap .i64 (((c:Nat):Int) - ((b:Nat):Int)))))&&((decide ((wrap .i64 (((c:Nat):Int) - ((b:Nat):Int)))≤140737488355328))&&(decide (((wrap .i64 (((c:Nat):Int) - ((b:Nat):Int)))*((4:Nat):Int))≤140737488355328))))) (q0 g c m ((wrap .i64 (((c:Nat):Int) - ((b:Nat):Int))).toNat) ((b:Nat):Int) (wrap .i64 (((c:Nat):Int) - ((b:Nat):Int))) (wrap .i64 (((c:Nat):Int) - ((b:Nat):Int))) 0 (List.replicate ((wrap .i64 (((c:Nat):Int) - ((b:Nat):Int))).toNat) (.int .u32 0)) ae) none))) none)))))) none)
def Jl:=(Ah (fun (N:Nat) (r:LA) (s:Nat) (v t:Bool) (q:LA) (b:Nat) (w u:Bool) (r0:Nat→Nat→LA→LA→O R)=>(Um N r0 (fun g c m l f e o d i p=>(Ec N r0 g b c m N l f e o d i p)) r s v t q b w u))).1
theorem JD (r s v t q b w u r0):(@Jl R N r s v t q b w u r0)=(Um N r0 (fun g c m l f e o d i p=>(Ec N r0 g b c m N l f e o d i p)) r s v t q b w u):=by rw[Jl,(Ah _).2]
def OH:Hints:={ H:=(hS hL (hS hL (hS hL (hS hL (hS hL (hS hL (hS hL (hS (hS hL (hS (hP [4,6,7,8,9,10,35,36] hL) hL)) hL)))))))),nils:=[(4,1),(5,1)],modes:=[(2,1),(2,1)] }
def WO:D9:=[(200,Nt N),(202,Aj2 N),(203,yj N),(204,s6 N),(171,sI N)]
def s8 (F:KF R):=Jw Tryz.f198 OH (WO N) [] N F
def Kg (F:KF R):Nat→Nat→LA→LA→O R:=(fun af ag ah ai=>F (.tup [(.own 300000 0 af),(.own 300001 0 ag)]) (hq [(bQ 1 ah),(bQ 1 ai)]))
def s9 (g:Int) (b c:Nat) (m:LA) (l:Nat) (f e o d:Int) (i p:LA):St:=⟨[(4,(.own 300000 0 l)),(6,(iv f)),(7,(iv g)),(8,(.own 300001 0 b)),(9,(.own 300002 0 c)),(10,(iv e)),(35,(iv o)),(36,(iv d))],(hq [(bQ 1 i),(bQ 1 m),(bQ 1 p)])⟩
def s_ (F:KF R):=s8 N F [1,1,1,1,1,1,1,0,1,0] []
theorem AP (F:KF R) (g:Int) (b c:Nat) (m:LA):∀ (n l:Nat) (f e o d:Int) (i p:LA),Ao (s_ N F) n (s9 g b c m l f e o d i p)=(Ec N (Kg F) g b c m n l f e o d i p)
 | 0,_,_,_,_,_,_,_=>by kernel_rfl
 | n+1,l,f,e,o,d,i,p=>Eq.trans (by kernel_rfl) (Bp (Nv N (Kg F) g b c m · l f e o d i p) (funext fun l=>funext fun f=>funext fun e=>funext fun o=>funext fun d=>funext fun i=>funext fun p=>(AP F g b c m n l f e o d i p)):_)
theorem OI (r:LA) (s:Nat) (v t:Bool) (q:LA) (b:Nat) (w u:Bool) (F:KF R):Ch (WO N) OH N 198 [(.imm r s 1 v t),(.imm q b 1 w u)] [] F=(Jl N r s v t q b w u (Kg F)):=by
 rw[JD]
 exact Eq.trans (by kernel_rfl) (Bp (Um N (Kg F) · r s v t q b w u) (funext fun g=>funext fun c=>funext fun m=>funext fun l=>funext fun f=>funext fun e=>funext fun o=>funext fun d=>funext fun i=>funext fun p=>(Aj ..).trans (AP N F g b c m N l f e o d i p)):_)
def JE (a:LA) (h:Am) (k:KF R):O R :=
 match a,h with
 | [(.imm r s 1 v t),(.imm q b 1 w u)],[]=>(Jl N r s v t q b w u (Kg k))
 | _,_=>none
theorem OJ:Ap N 198 @JE:=by
 intro R Q a h k j;unfold JE;split;exact A0 (OI ..) (OI ..) ⟨Nu N,Aj3 N,yk N,s7 N,sJ N,trivial⟩;exact A3
def sa:=A1 (OJ N)
def sb:=Ce (OJ N)
def lj (d:LA) (e:Nat) (f b:Bool) (g:LA) (i:Nat) (l c:Bool) (r0:Nat→Nat→Bool→LA→LA→O R):O R :=
 (Ci N d e f b (fun o m=>(Ci N g i l c (fun p n=>(cond (((n:Nat):Int)==0) (r0 0 0 false [] []) (D2 N o m false b p n false c (fun s=>(cond (decide (s<0)) (CD N o m false b (fun t u=>(r0 0 t true [] u))) (cond (decide (((m:Nat):Int)≤2)) (Rt N o m false b (fun r=>(Rt N p n false c (fun q=>(cond (q==0) none (B7 N (wrap .u64 (Int.tdiv r q)) (fun v w=>(cond (q==0) none (B7 N (Int.tmod r q) (fun x y=>(r0 v x true w y))))))))))) (cond (((n:Nat):Int)==1) (cond (Ac 0 n) (An .u32 p fun z=>(Gq N o m false b z (fun aa ab ac ad=>(r0 aa ab true ac ad)))) none) (Jl N o m false b p n false c (fun ae af ag ah=>(r0 ae af true ag ah)))))))))))))
def Fj:=(Ah (@lj R)).1
theorem jY:@Fj R=@lj R:=(Ah _).2
def Aqk:Hints:={ H:=hL,nils:=[(4,1),(5,1)],modes:=[(2,1),(2,1),(0,0)] }
def Avh:D9:=[(171,Ub N),(132,Kb N),(173,S_ N),(181,lN N),(149,Hc N),(197,ld N),(198,sa N)]
def oV (F:KF R):Nat→Nat→Bool→LA→LA→O R:=(fun ai aj ak al am=>F (.tup [(.own 300000 0 ai),(.own 300001 0 aj),(.bool ak)]) (hq [(bQ 1 al),(bQ 1 am)]))
theorem oW (d:LA) (e:Nat) (f b:Bool) (g:LA) (i:Nat) (l c:Bool) (F:KF R):Ch (Avh N) Aqk N 175 [(.imm d e 1 f b),(.imm g i 1 l c)] [] F=(Fj N d e f b g i l c (oV F)):=by
 rw[jY]
 kernel_rfl
def jZ (a:LA) (h:Am) (k:KF R):O R :=
 match a,h with
 | [(.imm d e 1 f b),(.imm g i 1 l c)],[]=>(Fj N d e f b g i l c (oV k))
 | _,_=>none
theorem oX:Ap N 175 @jZ:=by
 intro R Q a h k j;unfold jZ;split;exact A0 (oW ..) (oW ..) ⟨Uc N,Kc N,TA N,lO N,Hd N,lh N,sb N,trivial⟩;exact A3
def oY:=A1 (oX N)
def oZ:=Ce (oX N)
def FN (r0:Nat→Bool→LA→O R) (l:LA) (g:Nat) (d:Bool) (b:Nat) (m:LA) (e:Bool) (k0:Int→Int→Int→LA→O R) (i o c:Int) (f:LA):O R :=
 (cond (decide (c<o)) (cond (Ac c b) (An .u32 (m.drop ((c.toNat)*1)) fun v=>(cond (decide (c<((g:Nat):Int))) (cond (Ac c g) (An .u32 (l.drop ((c.toNat)*1)) fun w=>(cond (Ac c b) (cond ((Nat.beq 1 1)&&((Nat.ble ((0+((c.toNat)*1))+1) (f.length))&&(!false))) (k0 (Int.fdiv (wrap .u64 ((wrap .u64 ((wrap .u64 v) - i)) - (wrap .u64 w))) (2 ^ 63)) o (wrap .i64 (c+1)) (f.set (0+((c.toNat)*1)) (.int .u32 (wrap .u32 (wrap .u64 ((wrap .u64 ((wrap .u64 v) - i)) - (wrap .u64 w))))))) none) none)) none) (cond (Ac c b) (cond ((Nat.beq 1 1)&&((Nat.ble ((0+((c.toNat)*1))+1) (f.length))&&(!false))) (k0 (Int.fdiv (wrap .u64 ((wrap .u64 v) - i)) (2 ^ 63)) o (wrap .i64 (c+1)) (f.set (0+((c.toNat)*1)) (.int .u32 (wrap .u32 (wrap .u64 ((wrap .u64 v) - i)))))) none) none))) none) (Wj N b f (fun x=>(r0 x true f))))
def Th (r0:Nat→Bool→LA→O R) (l:LA) (g:Nat) (d:Bool) (b:Nat) (m:LA) (e:Bool):Nat→Int→Int→Int→LA→O R
 | 0,_,_,_,_=>none
 | n+1,i,o,c,f=>(FN N r0 l g d b m e (Th r0 l g d b m e n) i o c f)
def o0 (r0:Nat→Bool→LA→O R) (q0:LA→Nat→Nat→LA→Int→Int→Int→LA→O R) (p:LA) (q:Nat) (r e:Bool) (s:LA) (t:Nat) (u d:Bool):O R :=
 (Ci N p q r e (fun m b=>(Ci N s t u d (fun l g=>(D2 N m b false e l g false d (fun y=>(cond (decide (y<0)) (r0 0 false []) (cond ((decide (0≤((b:Nat):Int)))&&((decide (((b:Nat):Int)≤((b:Nat):Int)))&&((decide (((b:Nat):Int)≤140737488355328))&&(decide ((((b:Nat):Int)*((4:Nat):Int))≤140737488355328))))) (q0 l g b m 0 ((b:Nat):Int) 0 (List.replicate b (.int .u32 0))) none))))))))
def TB:=(Ah (fun (N:Nat) (p:LA) (q:Nat) (r e:Bool) (s:LA) (t:Nat) (u d:Bool) (r0:Nat→Bool→LA→O R)=>(o0 N r0 (fun l g b m i o c f=>(Th N r0 l g d b m e N i o c f)) p q r e s t u d))).1
theorem lk (p q r e s t u d r0):(@TB R N p q r e s t u d r0)=(o0 N r0 (fun l g b m i o c f=>(Th N r0 l g d b m e N i o c f)) p q r e s t u d):=by rw[TB,(Ah _).2]
def Amr:Hints:={ H:=(hS hL (hS hL (hS hL (hS hL (hS hL (hS (hS hL (hS (hP [1,6,7,22,23,24] hL) hL)) hL)))))),nils:=[(4,1)],modes:=[(2,1),(0,0)] }
def Avi:D9:=[(171,Gg N),(132,Kb N)]
def A4y (F:KF R):=Jw Tryz.f177 Amr (Avi N) [] N F
def OK (F:KF R):Nat→Bool→LA→O R:=(fun z aa ab=>F (.tup [(.own 300000 0 z),(.bool aa)]) (hq [(bQ 1 ab)]))
def A4z (l:LA) (g:Nat) (d:Bool) (b:Nat) (m:LA) (e:Bool) (i o c:Int) (f:LA):St:=⟨[(1,(.imm l g 1 false d)),(6,(.own 300000 0 b)),(7,(.int .u64 i)),(22,(.imm m b 1 false e)),(23,(iv o)),(24,(iv c))],(hq [(bQ 1 f)])⟩
def A40 (F:KF R):=A4y N F [1,1,1,1,1,0,1,0] []
theorem o7 (F:KF R) (l:LA) (g:Nat) (d:Bool) (b:Nat) (m:LA) (e:Bool):∀ (n:Nat) (i o c:Int) (f:LA),Ao (A40 N F) n (A4z l g d b m e i o c f)=(Th N (OK F) l g d b m e n i o c f)
 | 0,_,_,_,_=>by kernel_rfl
 | n+1,i,o,c,f=>Eq.trans (by kernel_rfl) (Bp (FN N (OK F) l g d b m e · i o c f) (funext fun i=>funext fun o=>funext fun c=>funext fun f=>(o7 F l g d b m e n i o c f)):_)
theorem Ams (p:LA) (q:Nat) (r e:Bool) (s:LA) (t:Nat) (u d:Bool) (F:KF R):Ch (Avi N) Amr N 177 [(.imm p q 1 r e),(.imm s t 1 u d)] [] F=(TB N p q r e s t u d (OK F)):=by
 rw[lk]
 exact Eq.trans (by kernel_rfl) (Bp (o0 N (OK F) · p q r e s t u d) (funext fun l=>funext fun g=>funext fun b=>funext fun m=>funext fun i=>funext fun o=>funext fun c=>funext fun f=>(Aj ..).trans (o7 N F l g d b m e N i o c f)):_)
def Adu (a:LA) (h:Am) (k:KF R):O R :=
 match a,h with
 | [(.imm p q 1 r e),(.imm s t 1 u d)],[]=>(TB N p q r e s t u d (OK k))
 | _,_=>none
theorem Amt:Ap N 177 @Adu:=by
 intro R Q a h k j;unfold Adu;split;exact A0 (Ams ..) (Ams ..) ⟨Gh N,Kc N,trivial⟩;exact A3
def Amu:=A1 (Amt N)
def Amv:=Ce (Amt N)
def cP (b:LA) (c:Nat) (m d:Bool) (e:Int) (f:LA) (g:Nat) (n i:Bool) (l:Int) (r0:Nat→LA→O R):O R :=
 (B7 N e (fun o s=>(LY N b c false d (s.take (o*1)) o false true (fun p t=>(B7 N l (fun q u=>(LY N f g false i (u.take (q*1)) q false true (fun r v=>(TB N (t.take (p*1)) p false true (v.take (r*1)) r false true (fun w aa x=>(r0 w x)))))))))))
def Gs:=(Ah (@cP R)).1
theorem cQ:@Gs R=@cP R:=(Ah _).2
def Aj4:Hints:={ H:=hL,nils:=[(8,1)],modes:=[(2,1)] }
def Aql:D9:=[(149,Hc N),(135,fl N),(177,Amu N)]
def j0 (F:KF R):Nat→LA→O R:=(fun y z=>F (.own 300000 0 y) (hq [(bQ 1 z)]))
theorem j1 (b:LA) (c:Nat) (m d:Bool) (e:Int) (f:LA) (g:Nat) (n i:Bool) (l:Int) (F:KF R):Ch (Aql N) Aj4 N 196 [(.imm b c 1 m d),(.int .u64 e),(.imm f g 1 n i),(.int .u64 l)] [] F=(Gs N b c m d e f g n i l (j0 F)):=by
 rw[cQ]
 kernel_rfl
def cR (a:LA) (h:Am) (k:KF R):O R :=
 match a,h with
 | [(.imm b c 1 m d),(.int .u64 e),(.imm f g 1 n i),(.int .u64 l)],[]=>(Gs N b c m d e f g n i l (j0 k))
 | _,_=>none
theorem j2:Ap N 196 @cR:=by
 intro R Q a h k j;unfold cR;split;exact A0 (j1 ..) (j1 ..) ⟨Hd N,fm N,Amv N,trivial⟩;exact A3
def Aj5:=A1 (j2 N)
def Aj6:=Ce (j2 N)
end
end Gx
