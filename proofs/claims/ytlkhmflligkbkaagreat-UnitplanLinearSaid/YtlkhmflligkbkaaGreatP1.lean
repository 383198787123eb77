/- A part of the proof: what it holds is said by each theorem. -/
import Derived.IntWalk
import Derived.Test.YtlkhmflligkbkaaGreatProg
import Derived.ProofKit
import Derived.OpenShut
import Derived.ChangeOld
import Derived.Below
import Derived.Test.YtlkhmflligkbkaaGreatP0
set_option linter.unusedVariables false
set_option linter.defProp false
set_option linter.unusedSimpArgs false
namespace Gx
open Go
def A5i:Nat→List Oper→List (Nat×Oper)
 | _,[]=>[]
 | n,o::r=>(n,o)::A5i (n+1) r
theorem Ab2:∀ {l:List Oper} {n:Nat} {p:Nat×Oper},p ∈ A5i n l↔n≤p.1∧l[p.1 - n]?=some p.2
 | [],n,p=>by simp[A5i]
 | o::r,n,p=>by
  rw[A5i,List.mem_cons,Ab2]
  constructor
  ·rintro(rfl | ⟨C,k⟩)
   ·simp
   ·refine⟨by omega,?_⟩
    rw[show p.1 - n=(p.1 - (n+1))+1 by omega];simpa using k
  ·rintro⟨C,k⟩
   by_cases e:p.1=n
   ·left
    rw[e] at k;simp at k
    obtain⟨a,b⟩:=p
    simp at e k;subst e k;rfl
   ·right
    refine⟨by omega,?_⟩
    rw[show p.1 - n=(p.1 - (n+1))+1 by omega] at k;simpa using k
theorem Adb:∀ (l:List Oper) (n:Nat),(A5i n l).Pairwise (fun a b=>a.1<b.1)
 | [],n=>List.Pairwise.nil
 | o::r,n=>by
  rw[A5i]
  refine List.pairwise_cons.2 ⟨fun p k=>?_,Adb r (n+1)⟩
  have:=(Ab2.1 k).1
  show n<p.1;omega
section
variable {R:Type} {r:R} {Z:Start} {E:Env} {ops:Array Oper}
def RunL (E:Env) (ops:Array Oper):List Oper→List Foot→St→St→Prop
 | [],[],st,e=>st=e
 | o::l,f::fs,st,e=>∃ st' q,Eqv st st'∧V6 E ops o st'=some q∧q.2.2=f∧RunL E ops l fs (after E o st' q) e
 | _,_,_,_=>False
theorem Aw7:∀ {l:List Oper} {st:St} {tr:List Foot} {k:St→List Foot→O R},Aci E ops l st tr k=some r→∃ fs e,k e (fs.reverse++tr)=some r∧RunL E ops l fs st e
 | [],st,tr,k,h=>⟨[],st,by simpa[Aci] using h,rfl⟩
 | o::l,st,tr,k,h=>by
  rw[Aci] at h
  obtain⟨st',C,h⟩:=Acz h
  rw[gp] at h
  obtain⟨q,D,F⟩:=ub h
  obtain⟨fs,e,G,I⟩:=Aw7 F
  exact⟨q.2.2::fs,e,by simpa using G,st',q,C,D,rfl,I⟩
theorem RunL.length:∀ {l:List Oper} {fs:List Foot} {st e:St},RunL E ops l fs st e→fs.length=l.length
 | [],[],_,_,_=>rfl
 | [],_::_,_,_,h=>h.elim
 | _::_,[],_,_,h=>h.elim
 | o::l,f::fs,st,e,⟨_,q,_,_,_,h⟩=>by simp[RunL.length h]
theorem RunL.runF {fp:Nat→Foot}:∀ {l:List Oper} {fs:List Foot} {n:Nat} {st e:St},RunL E ops l fs st e→(∀ (j:Nat) (f:Foot),fs[j]?=some f→fp (n+j)=f)→RunF E ops fp (A5i n l) st e
 | [],[],n,st,e,h,_=>by subst h;exact Eqv.refl _
 | [],_::_,_,_,_,h,_=>h.elim
 | _::_,[],_,_,_,h,_=>h.elim
 | o::l,f::fs,n,st,e,⟨st',q,C,D,F,G⟩,k=>by
  rw[A5i]
  refine RunF.congr ?_ C.symm
  rw[RunF]
  refine⟨q,D,by rw[F];exact(k 0 f (by simp)).symm,RunL.runF G (fun j g I=>?_)⟩
  have:=k (j+1) g (by simpa using I)
  rwa [show n+(j+1)=n+1+j by omega] at this
theorem wH {f:Foot} {anc:List Nat}:∀ {seen:List Foot} {i:Nat},oN f anc i seen=true→∀ (j:Nat) (g:Foot),seen[j]?=some g→(i+j) ∈ anc∨vh g f=true
 | [],i,_,j,g,k=>by simp at k
 | x::r,i,h,j,g,k=>by
  rw[oN] at h;simp only[Bool.and_eq_true,Bool.or_eq_true] at h
  cases j with
  | zero =>
   simp at k;subst k
   rcases h.1 with C | C
   ·exact .inl (M6.1 C)
   ·exact .inr C
  | succ j =>
   have:=wH h.2 j g (by simpa using k)
   rwa [show i+1+j=i+(j+1) by omega] at this
theorem Adc:∀ {fs:List Foot} {az9:List (List Nat)} {seen:List Foot},g_ fs az9 seen=true→∀ (i:Nat) (f:Foot),fs[i]?=some f →
  ∃ a,az9[i]?=some a∧∀ (j:Nat) (g:Foot),(seen++fs)[j]?=some g→j<seen.length+i→j ∈ a∨vh g f=true
 | [],az9,seen,_,i,f,k=>by simp at k
 | x::r,[],seen,h,i,f,k=>by simp[g_] at h
 | x::r,a::az9,seen,h,i,f,k=>by
  rw[g_] at h;simp only[Bool.and_eq_true] at h
  cases i with
  | zero =>
   simp at k;subst k
   refine⟨a,by simp,fun j g C D=>?_⟩
   rw[List.getElem?_append,if_pos (by omega)] at C
   simpa using wH h.1 j g C
  | succ i =>
   obtain⟨F,G,I⟩:=Adc h.2 i f (by simpa using k)
   refine⟨F,by simpa using G,fun j g C D=>I j g ?_ (by simp;omega)⟩
   simpa using C
theorem NA:∀ {l:List Oper} {k:List (List Nat)} {i:Nat},i<k.length→(Hh l k)[i]?=k[i]?
 | [],k,i,_=>rfl
 | o::r,k,i,hi=>by
  rw[Hh,OE,NA (by simp;omega),List.getElem?_append,if_pos hi]
theorem TQ:∀ {l:List Oper} {C:List (List Nat)} {i:Nat} {a:List Nat},(Hh l C)[i]?=some a→C.length≤i→∃ o,l[i - C.length]?=some o ∧
  ∀ k ∈ a,k ∈ TI o∨∃ j G,j ∈ TI o∧j<i∧(Hh l C)[j]?=some G∧k ∈ G
 | [],C,i,a,h,hi=>by
  rw[Hh,List.getElem?_eq_none hi] at h;cases h
 | o::r,C,i,a,h,hi=>by
  by_cases e:i=C.length
  ·subst e
   rw[Hh,OE,NA (by simp)] at h
   simp only[List.getElem?_concat_length,Option.some.injEq] at h
   refine⟨o,by simp,fun k D=>?_⟩
   rw[←h,OJ] at D
   replace D:=D.resolve_right (by simp)
   rcases List.mem_append.1 D with D | D
   ·exact .inl D
   ·right
    obtain⟨j,M,D⟩:=List.mem_flatMap.1 D
    cases I:C[j]? with
    | none=>rw[I] at D;simp at D
    | some G =>
     rw[I] at D;simp at D
     have F:j<C.length:=(List.getElem?_eq_some_iff.1 I).1
     exact⟨j,G,M,F,by rw[NA F];exact I,D⟩
  ·rw[Hh,OE] at h
   obtain⟨o',L,S⟩:=TQ h (by simp;omega)
   refine⟨o',?_,fun k D=>?_⟩
   ·simp at L
    rw[show i - C.length=(i - (C.length+1))+1 by omega];simpa using L
   ·rw[Hh,OE];exact S k D
theorem o0:∀ {l:List Oper} {n i:Nat} {o:Oper},DW n l=true→l[i]?=some o→∀ e ∈ o.after,cA e=true→e.on<n+i
 | [],n,i,o,_,hi,_,_,_=>by simp at hi
 | x::r,n,i,o,h,hi,e,k,C=>by
  rw[DW] at h;simp only[Bool.and_eq_true] at h
  cases i with
  | zero =>
   simp at hi;subst hi
   have:=List.all_eq_true.1 h.1 e (by simpa using k)
   rw[C] at this;simpa using this
  | succ i =>
   have:=o0 h.2 (by simpa using hi) e k C
   omega
theorem Aov (e:Edge):Region.binds .any e=cA e:=by
 unfold Region.binds cA
 cases e.ground<;>rfl
theorem A1o {listed:Array Bool} (hclosed:∀ (j:Nat) (o:Oper),ops[j]?=some o→listed.getD j true=true→∀ k ∈ TI o,listed.getD k false=true) :
  ∀ (i:Nat) (a:List Nat) (o:Oper),(Hh ops.toList [])[i]?=some a→ops[i]?=some o→(∀ k ∈ TI o,listed.getD k false=true)→∀ k ∈ a,listed.getD k false=true:=by
 intro i
 induction i using Nat.strongRecOn with
 | _ i T =>
  intro a o U V L k Y
  obtain⟨o',F,h2⟩:=TQ U (by simp)
  simp at F
  rw[V] at F;simp at F;subst F
  rcases h2 k Y with G | ⟨j,a',G,h4,M,h6⟩
  ·exact L k G
  ·have C:=L j G
   obtain⟨oj,D,_⟩:=TQ M (by simp)
   simp at D
   have I:listed.getD j true=true:=by
    rw[Array.getD_eq_getD_getElem?] at C ⊢
    cases S:listed[j]? with
    | none=>rw[S] at C;simp at C
    | some b=>rw[S] at C;simpa using C
   exact T j h4 a' oj M D (hclosed j oj D I) k h6
def V3 (ops:Array Oper) (listed:Array Bool):List (Nat×Oper):=(A5i 0 ops.toList).filter fun p=>!listed.getD p.1 true
theorem cM (listed:Array Bool):(V3 ops listed).Pairwise (fun a b=>a.1<b.1):=(Adb _ _).filter _
theorem OK {listed:Array Bool} {p:Nat×Oper}:p ∈ V3 ops listed↔ops[p.1]?=some p.2∧listed.getD p.1 true=false:=by
 unfold V3
 rw[List.mem_filter,Ab2]
 simp
theorem Aw8 {listed:Array Bool} {i:Nat} {o:Oper} {A B:List (Nat×Oper)} (h:V3 ops listed=A++(i,o)::B):V3 ops (listed.setIfInBounds i true)=A++B:=by
 have hi:(i,o) ∈ V3 ops listed:=by rw[h];simp
 have k:=(OK.1 hi).2
 have D:i<listed.size:=by
  rw[Array.getD_eq_getD_getElem?] at k
  rcases Nat.lt_or_ge i listed.size with F | F
  ·exact F
  ·rw[Array.getElem?_eq_none F] at k;simp at k
 have I:V3 ops (listed.setIfInBounds i true)=(V3 ops listed).filter fun p=>!Nat.beq p.1 i:=by
  unfold V3
  rw[List.filter_filter]
  congr 1;funext p
  by_cases e:p.1=i
  ·rw[e];simp[D]
  ·rw[getD_set_ne true (fun e'=>e e'.symm),iZ e];simp
 rw[I,h,List.filter_append,List.filter_cons]
 have hs:=cM (ops:=ops) listed
 rw[h] at hs
 have C:=List.pairwise_append.1 hs
 have hB:=List.pairwise_cons.1 C.2.1
 have e1:A.filter (fun p=>!Nat.beq p.1 i)=A:=List.filter_eq_self.2 (fun p G=>by
  have:p.1<i:=C.2.2 p G (i,o) (by simp)
  rw[iZ (by omega)];rfl)
 have L:B.filter (fun p=>!Nat.beq p.1 i)=B:=List.filter_eq_self.2 (fun p G=>by
  have:i<p.1:=hB.1 p G
  rw[iZ (by omega)];rfl)
 rw[e1,L];simp
theorem A64 (hC:mR E) {Q:Exit→Act→World→Prop} {fp:Nat→Foot} {e:St} (hfw:DW 0 ops.toList=true)
  (hord:∀ (i j:Nat) (o:Oper),ops[i]?=some o→j<i→∃ a,(Hh ops.toList [])[i]?=some a∧(j ∈ a∨vh (fp j) (fp i)=true))
  (hQ:∀ a' w' J' β',Inv Z E.nt J' β' e a' w'→Q .normal a' w') :
  ∀ (fuel:Nat) (listed:Array Bool) {st:St} {a:Act} {w:World} {J:Bool→Nat→Prop} {β:C8},listed.size=ops.size→(V3 ops listed).length=fuel →
   (∀ (j:Nat) (o:Oper),ops[j]?=some o→listed.getD j true=true→∀ k ∈ TI o,listed.getD k false=true) →
   RunF E ops fp (V3 ops listed) st e→Inv Z E.nt J β st a w→wpAny E.P .any ops Q fuel listed a w:=by
 intro fuel
 have fin:∀ (listed:Array Bool) {st:St} {a:Act} {w:World} {J:Bool→Nat→Prop} {β:C8},V3 ops listed=[]→RunF E ops fp (V3 ops listed) st e→Inv Z E.nt J β st a w→Region.ready .any ops listed=[]∧Q .normal a w:=by
  intro listed st a w J β hr C I
  refine⟨List.eq_nil_iff_forall_not_mem.2 (fun i hi=>?_),?_⟩
  ·obtain⟨h1,o,L,_⟩:=mem_ready.1 hi
   have:(i,o) ∈ V3 ops listed:=OK.2 ⟨L,h1⟩
   rw[hr] at this;simp at this
  ·rw[hr,RunF] at C
   exact hQ _ _ J β (I.eqv C)
 induction fuel with
 | zero =>
  intro listed st a w J β _ D _ C I
  exact fin listed (List.length_eq_zero_iff.1 D) C I
 | succ fuel ih =>
  intro listed st a w J β hsz D hclosed C I
  refine⟨fun hnil=>?_,fun i hi=>?_⟩
  ·
   cases F:V3 ops listed with
   | nil=>rw[F] at D;simp at D
   | cons p r =>
    exfalso
    have hp:p ∈ V3 ops listed:=by rw[F];simp
    obtain⟨G,hl⟩:=OK.1 hp
    have hs:=cM (ops:=ops) listed
    rw[F] at hs
    have hmin:=(List.pairwise_cons.1 hs).1
    have:p.1 ∈ Region.ready .any ops listed:=mem_ready.2 ⟨hl,p.2,G,fun T V hb=>by
     rw[Aov] at hb
     have M:=o0 hfw (i:=p.1) (o:=p.2) (by simpa using G) T V hb
     simp at M
     have hops:T.on<ops.size:=by have:=(Array.getElem?_eq_some_iff.1 G).1;omega
     cases Y:listed.getD T.on true with
     | true =>
      rw[Array.getD_eq_getD_getElem?] at Y ⊢
      rw[Array.getElem?_eq_getElem (by omega)] at Y ⊢
      simpa using Y
     | false =>
      have hm:(T.on,ops[T.on]) ∈ V3 ops listed:=OK.2 ⟨by simp[hops],Y⟩
      rw[F] at hm
      rcases List.mem_cons.1 hm with e1 | e1
      ·have:T.on=p.1:=by rw[←e1]
       omega
      ·have:=hmin _ e1
       simp at this;omega⟩
    rw[hnil] at this;simp at this
  ·obtain⟨hl,o,G,hall⟩:=mem_ready.1 hi
   have hmem:(i,o) ∈ V3 ops listed:=OK.2 ⟨G,hl⟩
   obtain⟨A,B,hAB⟩:=List.append_of_mem hmem
   have U:∀ k ∈ TI o,listed.getD k false=true:=by
    intro k hk
    unfold TI at hk
    obtain⟨T,V,rfl⟩:=List.mem_map.1 hk
    obtain⟨h1,L⟩:=List.mem_filter.1 V
    exact hall T (by simpa using h1) (by rw[Aov];exact L)
   have hs:=cM (ops:=ops) listed
   rw[hAB] at hs
   have hs':=List.pairwise_append.1 hs
   rw[hAB] at C
   obtain⟨q,g1,g2,g3⟩:=C.pull (fun jp hjp=>by
    have M:jp.1<i:=hs'.2.2 jp hjp (i,o) (by simp)
    obtain⟨an,h1,L⟩:=hord i jp.1 o G M
    rcases L with L | L
    ·exfalso
     have:=A1o hclosed i an o h1 G U jp.1 L
     have hjm:jp ∈ V3 ops listed:=by rw[hAB];simp[hjp]
     have h3:=(OK.1 hjm).2
     rw[Array.getD_eq_getD_getElem?] at this h3
     cases Y:listed[jp.1]? with
     | none=>rw[Y] at this;simp at this
     | some b=>rw[Y] at this h3;simp at this h3;rw[this] at h3;cases h3
    ·exact L)
   have hone:Awk E ops o st (fun s f=>some (s,f))=some (after E o st q,q.2.2):=by rw[gp,g1];rfl
   obtain⟨st',f,h4,h5⟩:=Acy (K:=wpAny E.P .any ops Q fuel (listed.setIfInBounds i true)) (Q:=Q) hC I hone
   simp only[Option.some.injEq,Prod.mk.injEq] at h4
   obtain⟨rfl,rfl⟩:=h4
   have M:i<listed.size:=by rw[hsz];exact(Array.getElem?_eq_some_iff.1 G).1
   have:=h5 (fun a' w' J' β' I'=>ih (listed.setIfInBounds i true) (by simp[hsz]) (by
     rw[Aw8 hAB];rw[hAB] at D;simp at D ⊢;omega) (fun j oj S hj k hk=>?_) (by rw[Aw8 hAB];exact g3) I')
   ·unfold wpOp
    rw[G]
    simp only
    split
    ·rename_i hw;rw[if_pos hw] at this;exact .inl this
    ·rename_i hw;rw[if_neg hw] at this;exact this
   ·by_cases e1:j=i
    ·subst e1
     rw[G] at S;simp at S;subst S
     exact getD_set_true (U k hk)
    ·rw[getD_set_ne true (fun e'=>e1 e'.symm)] at hj
     exact getD_set_true (hclosed j oj S hj k hk)
end
end Gx

namespace Gx
open Go
section
variable {R:Type} {r:R} {Z:Start} {E:Env}
theorem Alt (hC:mR E) (hm:E.P.follows .mixedOrders=true) {roots:List Nat} {id:Nat} {ops:Array Oper} {draw:Bool} {st:St} {k:St→O R} {a:Act} {w:World} {J:Bool→Nat→Prop} {β:C8} {Q:Exit→Act→World→Prop}
  (I:Inv Z E.nt J β st a w) (Y:gc E roots ops draw st k=some r) (hQ:∀ st' D w' J' β',Inv Z E.nt J' β' st' D w'→k st'=some r→Q .normal D w'):(Code.region id ops draw).wp E.P Q a w:=by
 unfold gc at Y
 have done:∀ {st':St} {tr:List Foot} {D:Act} {w':World} {J':Bool→Nat→Prop} {β':C8},Inv Z E.nt J' β' st' D w' →
   cond (!draw||(DW 0 ops.toList&&g_ tr.reverse (Hh ops.toList []) [])) ((clean (st'.s.map (·.1)) roots st').bind k) none=some r→Q .normal D w':=by
  intro st' tr D w' J' β' I' h'
  obtain⟨_,U⟩:=uc h'
  obtain⟨oX,V,h3⟩:=ub U
  obtain⟨β2,I2⟩:=Aw1 I' V
  exact hQ _ _ _ _ _ I2 h3
 cases draw with
 | false=>exact wp_region_list (Ac0 hC _ I Y (fun st' tr' D w' J' β' I' h'=>done I' h'))
 | true =>
  obtain⟨fs,e,U,V⟩:=Aw7 Y
  obtain⟨hc,h3⟩:=uc U
  simp at hc
  obtain⟨hfw,L⟩:=hc
  have M:=V.length
  refine wp_region_any hm ?_
  have I':Inv Z E.nt J β st a w.drew:=I.step (Step.drew I.sim) (fun b x hx hn=>by rw[hx] at hn;cases hn)
  have C:V3 ops (Array.replicate ops.size false)=A5i 0 ops.toList:=by
   unfold V3
   refine List.filter_eq_self.2 (fun p hp=>?_)
   have:=(Ab2.1 hp).2
   have F:p.1<ops.size:=by
    simp at this
    exact(Array.getElem?_eq_some_iff.1 this).1
   simp[F]
  have S:(A5i 0 ops.toList).length=ops.size:=by
   have:∀ (l:List Oper) (n:Nat),(A5i n l).length=l.length:=by
    intro l
    induction l with
    | nil=>intro n;rfl
    | cons o r ih=>intro n;simp[A5i,ih]
   rw[this];simp
  have T:RunF E ops (fun i=>fs.getD i { r:=[],w:=none,f:=[],u:=[] }) (A5i 0 ops.toList) st e:=V.runF (fun j f G=>by simp[G])
  refine A64 hC (fp:=fun i=>fs.getD i { r:=[],w:=none,f:=[],u:=[] }) (e:=e) hfw (fun i j o ho hji=>?_) (fun D w' J' β' Ie=>done (tr:=fs.reverse++[]) Ie U) ops.size _ (by simp) (by rw[C,S]) (fun j o ho G=>?_) (by rw[C];exact T) I'
  ·have hi:i<fs.length:=by rw[M];simpa using(Array.getElem?_eq_some_iff.1 ho).1
   obtain⟨an,g1,g2⟩:=Adc L i fs[i] (List.getElem?_eq_getElem hi)
   refine⟨an,g1,?_⟩
   have G:j<fs.length:=by omega
   have:=g2 j fs[j] (by simp[G]) (by simpa using hji)
   simpa[hi,G] using this
  ·exfalso
   have F:j<ops.size:=(Array.getElem?_eq_some_iff.1 ho).1
   simp[F] at G
end
end Gx

namespace Gx
open Go
theorem o7 (ρ:Nat→Nat):∀ c:LA,(AQ ρ c).length=c.length
 | []=>rfl
 | x::r=>by rw[AQ,List.length_cons,List.length_cons,o7 ρ r]
theorem Oq (ρ:Nat→Nat) (x:Blk):(MV ρ x).cells.length=x.cells.length:=by
 unfold MV;cases x.pure
 ·simp;exact o7 _ _
 ·rfl
theorem Aow {ρ:Nat→Nat}:∀ {c:LA} {j:Nat} {y:AV},(AQ ρ c)[j]?=some y→∃ x,c[j]?=some x∧y=iY ρ x
 | [],j,y,k=>by simp[AQ] at k
 | x::r,j,y,k=>by
  rw[AQ] at k
  cases j with
  | zero=>simp at k;exact⟨x,by simp,k.symm⟩
  | succ j=>obtain⟨x',C,D⟩:=Aow (c:=r) (j:=j) (by simpa using k);exact⟨x',by simpa using C,D⟩
section
variable {R:Type} {r:R} {J J':Bool→Nat→Prop} {β β':C8} {h h':Am} {w w':World} {ids:List Nat} {ρ:Nat→Nat}
theorem P4 {g:Cb}:∀ {ids:List Nat},(ids.map ρ).Nodup→∀ c y,Au (sub g ρ ids) c=some y→∃ b x,b ∈ ids∧ρ b=c∧g b=some x∧y=MV ρ x
 | [],_,c,y,k=>by simp[sub,Au] at k
 | b::r,hn,c,y,k=>by
  rw[List.map_cons,List.nodup_cons] at hn
  rw[sub] at k
  split at k
  ·rename_i x L
   rw[Ai] at k
   by_cases e:c=ρ b
   ·rw[if_pos e] at k;simp at k
    exact⟨b,x,by simp,e.symm,L,k.symm⟩
   ·rw[if_neg e] at k
    obtain⟨C,x',D,F,G,I⟩:=P4 hn.2 c y k
    exact⟨C,x',by simp[D],F,G,I⟩
  ·obtain⟨C,x',D,F,G,I⟩:=P4 hn.2 c y k
   exact⟨C,x',by simp[D],F,G,I⟩
theorem IV {g:Cb}:∀ {ids:List Nat},(ids.map ρ).Nodup→∀ b x,b ∈ ids→g b=some x→Au (sub g ρ ids) (ρ b)=some (MV ρ x)
 | [],_,b,x,k,_=>by simp at k
 | F::r,hn,b,x,k,C=>by
  rw[List.map_cons,List.nodup_cons] at hn
  rw[sub]
  by_cases e:b=F
  ·subst e
   rw[C]
   simp only
   rw[Ai,if_pos rfl]
  ·have D:b ∈ r:=by simpa[e] using k
   have ne:ρ b≠ρ F:=fun h=>hn.1 (by rw[←h];exact List.mem_map.2 ⟨b,D,rfl⟩)
   split
   ·rw[Ai,if_neg ne];exact IV hn.2 b x D C
   ·exact IV hn.2 b x D C
def Bag (ρ:Nat→Nat) (ids:List Nat) (c:Nat):Option Nat:=ids.find? fun b=>Nat.beq (ρ b) c
theorem Bah (hn:(ids.map ρ).Nodup) {b:Nat} (k:b ∈ ids):Bag ρ ids (ρ b)=some b:=by
 induction ids with
 | nil=>simp at k
 | cons i r C =>
  rw[List.map_cons,List.nodup_cons] at hn
  unfold Bag at C ⊢
  rw[List.find?_cons]
  by_cases e:b=i
  ·subst e;simp
  ·have D:b ∈ r:=by simpa[e] using k
   have ne:ρ i≠ρ b:=fun h=>hn.1 (by rw[h];exact List.mem_map.2 ⟨b,D,rfl⟩)
   rw[iZ ne];exact C hn.2 D
def XM (ρ:Nat→Nat) (ids:List Nat) (β:C8):C8:=fun c=>(Bag ρ ids c).bind β
theorem H2 (hn:(ids.map ρ).Nodup) {b:Nat} (k:b ∈ ids):XM ρ ids β (ρ b)=β b:=by
 unfold XM;rw[Bah hn k];rfl
mutual
theorem Rep.ren (hn:(ids.map ρ).Nodup):∀ {x:AV} {v:Value},(∀ b ∈ Hz x,b ∈ ids)→Rep J β h w x v→Rep J (XM ρ ids β) (sub (Au h) ρ ids) w (iY ρ x) v
 | .own b off n,v,hm,hr=>by
  rw[Rep] at hr
  obtain⟨x,A,cap,⟨hx,hmp⟩,h1,h2,h3⟩:=hr
  have hb:=hm b (by simp[Hz])
  rw[iY,Rep]
  refine⟨MV ρ x,A,cap,⟨IV hn b x hb hx,hmp⟩,h1,h2,?_⟩
  rw[Oq,H2 hn hb]
  exact h3
 | .optr b off,v,hm,hr=>by
  rw[Rep] at hr
  obtain⟨x,k,o,⟨hx,hmp⟩,h1,h2⟩:=hr
  have hb:=hm b (by simp[Hz])
  rw[iY,Rep]
  refine⟨MV ρ x,k,o,⟨IV hn b x hb hx,hmp⟩,h1,?_⟩
  rw[H2 hn hb]
  exact h2
 | .omap b,v,hm,hr=>by
  rw[Rep] at hr
  obtain⟨x,k,⟨hx,hmp⟩,h1,h2⟩:=hr
  have hb:=hm b (by simp[Hz])
  rw[iY,Rep]
  refine⟨MV ρ x,k,⟨IV hn b x hb hx,hmp⟩,h1,?_⟩
  rw[H2 hn hb]
  exact h2
 | .agg c,v,hm,hr=>by
  rw[Rep] at hr
  obtain⟨cs,h1,h2⟩:=hr
  rw[iY,Rep]
  exact⟨cs,h1,Reps.ren hn (by simpa[Hz] using hm) h2⟩
 | .tup c,v,hm,hr=>by
  rw[Rep] at hr
  obtain⟨cs,h1,h2⟩:=hr
  rw[iY,Rep]
  exact⟨cs,h1,Reps.ren hn (by simpa[Hz] using hm) h2⟩
 | .fn f c,v,hm,hr=>by
  rw[Rep] at hr
  obtain⟨cs,h1,h2⟩:=hr
  rw[iY,Rep]
  exact⟨cs,h1,Reps.ren hn (by simpa[Hz] using hm) h2⟩
 | .pagg c o,v,hm,hr=>by show Rep J _ _ w (.pagg c o) v;rw[Rep] at hr ⊢;exact hr
 | .undef,v,hm,hr=>by show Rep J _ _ w (.undef) v;rw[Rep] at hr ⊢;exact hr
 | .imm c n sz t o,v,hm,hr=>by show Rep J _ _ w (.imm c n sz t o) v;rw[Rep] at hr ⊢;exact hr
 | .iptr c o,v,hm,hr=>by show Rep J _ _ w (.iptr c o) v;rw[Rep] at hr ⊢;exact hr
 | .int k n,v,hm,hr=>by show Rep J _ _ w (.int k n) v;rw[Rep] at hr ⊢;exact hr
 | .bool b,v,hm,hr=>by show Rep J _ _ w (.bool b) v;rw[Rep] at hr ⊢;exact hr
 | .str s,v,hm,hr=>by show Rep J _ _ w (.str s) v;rw[Rep] at hr ⊢;exact hr
 | .nsl,v,hm,hr=>by show Rep J _ _ w (.nsl) v;rw[Rep] at hr ⊢;exact hr
 | .nilptr,v,hm,hr=>by show Rep J _ _ w (.nilptr) v;rw[Rep] at hr ⊢;exact hr
 | .nilfn,v,hm,hr=>by show Rep J _ _ w (.nilfn) v;rw[Rep] at hr ⊢;exact hr
theorem Reps.ren (hn:(ids.map ρ).Nodup):∀ {c:List AV} {cs:List Value},(∀ b ∈ Ju c,b ∈ ids)→Reps J β h w c cs→Reps J (XM ρ ids β) (sub (Au h) ρ ids) w (AQ ρ c) cs
 | [],cs,hm,hr=>by rw[Reps] at hr;rw[AQ,Reps];exact hr
 | x::r,cs,hm,hr=>by
  rw[Reps] at hr
  obtain⟨u,us,h1,h2,h3⟩:=hr
  rw[AQ,Reps]
  exact⟨u,us,h1,Rep.ren hn (fun b hb=>hm b (by simp[Ju,hb])) h2,Reps.ren hn (fun b hb=>hm b (by simp[Ju,hb])) h3⟩
end
theorem SimH.ren (S:SimH J β h w) (hn:(ids.map ρ).Nodup) (hin:∀ b ∈ M0 (Au h) ids,b ∈ ids):SimH J (XM ρ ids β) (sub (Au h) ρ ids) w:=by
 refine⟨S.jlt,S.jft,fun c y L M hm=>?_,fun c y L M hm=>by
   obtain⟨b,x,D,rfl,G,rfl⟩:=P4 hn c y L
   obtain⟨I,T,k,es,clk,g3,g4,Y,g6⟩:=S.mblk b x G M hm
   have:(MV ρ x).cells=x.cells:=by unfold MV;rw[I];rfl
   exact⟨I,T,k,es,clk,by rw[H2 hn D];exact g3,g4,by rw[this];exact Y,g6⟩,?_⟩
 ·obtain⟨b,x,D,rfl,G,rfl⟩:=P4 hn c y L
  rcases S.blk b x G M hm with⟨I,T⟩ | ⟨k,o,cs,ty,fr,I,T,g3,g4,Y,g6,g7⟩
  ·refine .inl ⟨by rw[H2 hn D];exact I,?_⟩
   have:=Oq ρ x;rw[T] at this;simpa using this
  ·refine .inr ⟨k,o,cs,ty,fr,by rw[H2 hn D];exact I,T,g3,by rw[Oq];exact g4,⟨fun hp=>?_,fun hp j q hj=>?_⟩,g6,g7⟩
   ·have C:x.pure=true:=hp
    have:(MV ρ x).cells=x.cells:=by unfold MV;rw[C];rfl
    rw[this];exact Y.1 C
   ·have C:x.pure=false:=hp
    have:(MV ρ x).cells=AQ ρ x.cells:=by unfold MV;rw[C];rfl
    rw[this] at hj
    obtain⟨q',hq,rfl⟩:=Aow hj
    obtain⟨u,hu,hr,ho⟩:=Y.2 C j q' hq
    exact⟨u,hu,Rep.ren hn (fun U F=>hin U (tS D G C U (tT hq U F))) hr,ho⟩
 ·intro c c' y y' k o o' L hy' M hd' hs hβ V
  obtain⟨b,x,D,rfl,G,rfl⟩:=P4 hn c y L
  obtain⟨U,x',F,rfl,hx',rfl⟩:=P4 hn c' y' hy'
  rw[H2 hn D] at hβ
  rw[H2 hn F] at V
  rw[S.sep b U x x' k o o' G hx' M hd' hs hβ V]
theorem Ass (hn:(ids.map ρ).Nodup) {k:Nat} (D:Awn (XM ρ ids β) (sub (Au h) ρ ids) k):Awn β h k:=by
 obtain⟨c,y,o,F,G,hs,C⟩:=D
 obtain⟨b,x,I,rfl,L,rfl⟩:=P4 hn c y F
 rw[H2 hn I] at C
 exact⟨b,x,o,L,G,hs,C⟩
end
end Gx

namespace Gx
open Go
theorem Rc {ids:List Nat}:∀ {l:List Nat},XE ids l=true→∀ b ∈ l,b ∈ ids
 | [],_,b,k=>by simp at k
 | i::r,h,b,k=>by
  rw[XE] at h
  simp at h
  rcases List.mem_cons.1 k with rfl | k
  ·exact M6.1 h.1
  ·exact Rc h.2 b k
theorem E_ {d:Nat}:∀ {l:List Nat} {base b:Nat},b ∈ l→base≤Kg d (A6 base l) b∧Kg d (A6 base l) b<base+l.length
 | [],base,b,k=>by simp at k
 | i::r,base,b,k=>by
  rw[A6,Kg]
  cases hi:Nat.beq i b with
  | true=>simp
  | false =>
   have C:=AR hi
   have D:b ∈ r:=by
    rcases List.mem_cons.1 k with h | h
    ·exact absurd h.symm C
    ·exact h
   have:=E_ (d:=d) (base:=base+1) D
   simp only[cond_false,List.length_cons]
   omega
theorem Aw9 {free ids:List Nat} {b:Nat} (h:OF free b=true):EV free ids b=b:=by unfold EV;rw[h];rfl
theorem Ast {free ids:List Nat} {b:Nat} (h:OF free b=false) (k:b ∈ ids):300000≤EV free ids b:=by
 unfold EV Baa;rw[h]
 exact(E_ (List.mem_filter.2 ⟨k,by simp[h]⟩)).1
theorem Add {b:Nat}:Acl b=true↔100000≤b∧b<200000:=by unfold Acl;simp
theorem wI {free ids:List Nat} {b c:Nat} (C:b ∈ ids) (D:100000≤c∧c<200000) (k:EV free ids b=c):b=c:=by
 cases hr:OF free b with
 | true=>rw[Aw9 hr] at k;exact k
 | false=>have:=Ast hr C;omega
theorem OL {ρ:Nat→Nat} {K:List Nat}:∀ {s:Hy} {i:Nat},G3 (Bab ρ K s) i=if Kp K i=true then iY ρ (G3 s i) else .undef
 | [],i=>by
  show AV.undef=if Kp K i=true then iY ρ .undef else AV.undef
  simp[iY]
 | (t,v)::r,i=>by
  rw[Bab]
  by_cases e:t=i
  ·subst e
   cases k:Kp K t with
   | true=>simp[G3]
   | false=>simp only[cond_false];rw[OL];simp[k]
  ·have C:Nat.beq t i=false:=iZ e
   cases k:Kp K t with
   | true=>simp only[cond_true,G3,C,cond_false];exact OL
   | false=>simp only[cond_false,G3,C];exact OL
theorem Axa {g:Cb} {l:List Nat} {b:Nat} (h:b ∈ IQ g l):∃ x,g b=some x∧x.dead=false:=by
 unfold IQ at h
 obtain⟨_,k⟩:=List.mem_filter.1 h
 unfold Lf at k
 cases C:g b with
 | none=>simp[C] at k
 | some x =>
  cases D:x.dead with
  | false=>exact⟨x,rfl,D⟩
  | true=>simp[C,D] at k
section
variable {Z:Start} {nt:Nat} {J:Bool→Nat→Prop} {β:C8} {st st':St} {a:Act} {w:World}
def AV.isz:AV→Nat
 | .imm _ _ s _ _=>s
 | _=>0
theorem P5 {live:List Nat}:∀ (nils:List (Nat×Nat)) {st:St} {J:Bool→Nat→Prop} {β:C8},Inv Z nt J β st a w→TJ live nils st=some st'→∃ J' β',Inv Z nt J' β' st' a w
 | [],st,J,β,I,k=>by simp[TJ] at k;subst k;exact⟨J,β,I⟩
 | (t,sz)::r,st,J,β,I,k=>by
  rw[TJ] at k
  cases L:Nat.ble 1000000 sz with
  | true =>
   rw[L,cond_true] at k
   split at k
   ·rename_i hm hs
    refine P5 r (J:=J) (β:=β) (st:={ s:=mJ st.s t (.imm [] 0 (sz - 1000000) false false),h:=st.h }) ?_ k
    refine { I with ss:=⟨fun i v D=>?_,fun i hi=>?_⟩ }
    ·rw[Pz]
     by_cases e:i=t
     ·subst e
      have:=I.ss.slot i v D
      rw[hs,Rep] at this
      subst this
      rw[if_pos rfl,Rep,RepC]
      exact⟨by simp,none,0,rfl,Nat.le_refl _,fun _=>rfl,.inl rfl⟩
     ·rw[if_neg e];exact I.ss.slot i v D
    ·rw[Pz]
     by_cases e:i=t
     ·subst e
      have:=I.ss.out i hi
      rw[hs] at this;cases this
     ·rw[if_neg e];exact I.ss.out i hi
   ·rename_i b off n hm hs
    obtain⟨⟨v',ups,org⟩,M,h1⟩:=ub k
    by_cases S:∃ v,a.tmps[t]?=some v
    ·obtain⟨v0,T⟩:=S
     have hr:=I.ss.slot t v0 T
     rw[hs] at hr
     obtain⟨J1,A,F,_⟩:=cE I.sim (fun b x hb=>⟨x,hb,rfl⟩) M hr
     have I1:=I.step A (fun c x G hn=>by
      exfalso
      unfold jI at M
      obtain⟨y,V,C⟩:=ub M
      obtain⟨_,C⟩:=uc C
      simp at C
      obtain⟨_,C,_⟩:=C
      subst C
      simp only[At,Ai] at G
      unfold Lf at V
      obtain⟨y0,U,_⟩:=ub V
      by_cases e:c=b
      ·subst e;rw[hn] at U;cases U
      ·rw[if_neg e,hn] at G;cases G)
     refine P5 r (J:=J1) (β:=β) (st:={ s:=mJ st.s t v',h:=At ups st.h }) ?_ h1
     have Y:∃ c,v'=.imm c n (v'.isz) false org:=by
      unfold jI at M
      obtain⟨y,V,C⟩:=ub M
      obtain⟨_,C⟩:=uc C
      simp at C
      obtain⟨C,_,h3⟩:=C
      subst C h3
      exact⟨_,rfl⟩
     refine { I1 with ss:=⟨fun i v D=>?_,fun i hi=>?_⟩ }
     ·rw[Pz]
      by_cases e:i=t
      ·subst e
       rw[if_pos rfl]
       rw[T] at D;simp at D;subst D
       obtain⟨c,hc⟩:=Y
       rw[hc] at F ⊢
       rw[Rep];exact F
      ·rw[if_neg e];exact I1.ss.slot i v D
     ·rw[Pz]
      by_cases e:i=t
      ·subst e
       have:=I.ss.out i hi
       rw[hs] at this;cases this
      ·rw[if_neg e];exact I1.ss.out i hi
    ·exfalso
     have:=I.ss.out t (by
      cases h:a.tmps[t]? with
      | none=>simp at h;omega
      | some v=>exact absurd ⟨v,h⟩ S)
     rw[hs] at this;cases this
   ·exact P5 r I k
  | false =>
   rw[L,cond_false] at k
   split at k
   ·rename_i hm hs
    cases hf:Au st.h (nid t+15) with
    | some x=>simp[hf] at k
    | none =>
     simp[hf] at k
     have A:=Step.newNone I.sim (d:=nid t+15) (x:=G4 sz) hf rfl
     have I1:=I.step A (fun b x G hn=>by
      rw[Ai] at G
      by_cases e:b=nid t+15
      ·subst e;unfold nid Ik;omega
      ·rw[if_neg e,hn] at G;cases G)
     refine P5 r (J:=J) (β:=fun b=>if b=nid t+15 then none else β b) (st:={ s:=mJ st.s t (.own (nid t+15) 0 0),h:=G9 st.h (nid t+15) (G4 sz) }) ?_ k
     refine { I1 with ss:=⟨fun i v D=>?_,fun i hi=>?_⟩ }
     ·rw[Pz]
      by_cases e:i=t
      ·subst e
       rw[if_pos rfl,Rep]
       have:=I.ss.slot i v D
       rw[hs,Rep] at this
       subst this
       exact⟨G4 sz,none,0,⟨by rw[Ai,if_pos rfl],rfl⟩,rfl,Nat.le_refl _,.inl rfl⟩
      ·rw[if_neg e];exact I1.ss.slot i v D
     ·rw[Pz]
      by_cases e:i=t
      ·subst e
       have:=I.ss.out i hi
       rw[hs] at this;cases this
      ·rw[if_neg e];exact I1.ss.out i hi
   ·exact P5 r I k
theorem cN {E:Env} {live roots:List Nat} (I:Inv Z nt J β st a w) (G:oO E live roots st=some st'):∃ J' β',Inv Z nt J' β' st' a w:=by
 unfold oO at G
 obtain⟨s1,T,U⟩:=ub G
 obtain⟨J1,β1,I1⟩:=P5 _ I T
 obtain⟨L,M⟩:=uc U
 simp at L M
 subst M
 obtain⟨hn,hs,hi,_⟩:=L
 have hn:=Wv hn
 have D:∀ b ∈ M0 (Au s1.h) (IQ (Au s1.h) (ES (Au s1.h) (Acj live s1.s++roots))),b ∈ IQ (Au s1.h) (ES (Au s1.h) (Acj live s1.s++roots)):=Rc hi
 refine⟨J1,XM _ _ β1,{ I1 with sim:=I1.sim.ren hn D,ss:=⟨fun i v V=>?_,fun i hi=>?_⟩,wr:=fun k Y=>I1.wr k (Ass hn Y),outs:=fun b x0 x F hx hd=>?_ }⟩
 ·rw[OL]
  cases hk:Kp live i with
  | false=>simp[Rep]
  | true =>
   simp only[if_true]
   exact Rep.ren hn (fun b hb=>Rc hs b (Ac2 hk b hb)) (I1.ss.slot i v V)
 ·rw[OL,I1.ss.out i hi];simp[iY]
 ·obtain⟨b',x',C,S,hg,rfl⟩:=P4 hn b x hx
  have:=wI C ⟨I1.zge b x0 F,I1.zlt b x0 F⟩ S
  subst this
  obtain⟨⟨e1,em⟩,e2,e3,e4⟩:=I1.outs b' x0 x' F hg hd
  refine⟨⟨?_,em⟩,e2,by rw[Oq];exact e3,e4⟩
  have:=H2 (β:=β1) hn C
  rw[S] at this
  rw[this];exact e1
end
end Gx

namespace Gx
open Go
section
variable {R:Type} {r:R} {Z:Start} {E:Env}
theorem Axb (hC:mR E) (hm:E.P.follows .mixedOrders=true) {roots:List Nat} {N:Nat}:∀ (c:Code) {H:Hint} {kn:St→O R} {kx:Nat→St→O R} {kr:St→O R} {st:St} {a:Act} {w:World} {J:Bool→Nat→Prop} {β:C8} {Q:Exit→Act→World→Prop},
  Inv Z E.nt J β st a w→G5 E roots N c H kn kx kr st=some r →
  (∀ st' D w' J' β',Inv Z E.nt J' β' st' D w'→kn st'=some r→Q .normal D w') →
  (∀ id st' D w' J' β',Inv Z E.nt J' β' st' D w'→kx id st'=some r→Q (.exit id) D w') →
  (∀ st' D w' J' β',Inv Z E.nt J' β' st' D w'→kr st'=some r→Q .ret D w')→c.wp E.P Q a w:=by
 intro c
 induction c with
 | skip=>intro H kn kx kr st a w J β Q I C hn F hr;exact wp_skip (hn _ _ _ _ _ I C)
 | region id ops draw=>intro H kn kx kr st a w J β Q I C hn F hr;exact Alt hC hm I C hn
 | seq x y L G =>
  intro H kn kx kr st a w J β Q I C hn F hr
  rw[G5] at C
  refine wp_seq (L I C (fun st' D w' J' β' I' h'=>?_) (fun id st' D w' J' β' I' h'=>F id st' D w' J' β' I' h') (fun st' D w' J' β' I' h'=>hr st' D w' J' β' I' h'))
  unfold A6v at h'
  cases M:H.isJoin with
  | true =>
   rw[M,cond_true,IR] at h'
   obtain⟨s2,S,T⟩:=ub h'
   obtain⟨J2,β2,I2⟩:=cN I' S
   exact G I2 T hn F hr
  | false=>rw[M] at h';exact G I' h' hn F hr
 | cond c x y L G =>
  intro H kn kx kr st a w J β Q I C hn F hr
  rw[G5] at C
  split at C
  ·rename_i t ht
   have Y:=Br I.ss c
   rw[ht,Rep] at Y
   refine wp_cond Y ?_
   cases t with
   | true=>exact L I C hn F hr
   | false=>exact G I C hn F hr
  ·simp at C
 | block id c U =>
  intro H kn kx kr st a w J β Q I C hn F hr
  rw[G5] at C
  refine wp_block (U I C (fun st' D w' J' β' I' h'=>hn _ _ _ _ _ I' h') (fun j st' D w' J' β' I' h'=>?_) (fun st' D w' J' β' I' h'=>hr _ _ _ _ _ I' h'))
  cases M:Nat.beq j id with
  | true =>
   rw[M] at h'
   have:=Nat.eq_of_beq_eq_true M
   subst this
   simp only[Exit.inBlock,if_true]
   exact hn _ _ _ _ _ I' h'
  | false =>
   rw[M] at h'
   simp only[Exit.inBlock]
   rw[if_neg (AR M)]
   exact F _ _ _ _ _ _ I' h'
 | loop c U =>
  intro H kn kx kr st a w J β Q I C hn F hr
  rw[G5,IR] at C
  refine wp_loop_rounds N ?_
  have key:∀ (n:Nat) {st:St} {a:Act} {w:World} {J:Bool→Nat→Prop} {β:C8},Inv Z E.nt J β st a w→cB (oO E H.live roots) (fun k st=>G5 E roots N c H.a k kx kr st) n st=some r→Code.rounds E.P c Q n a w:=by
   intro n
   induction n with
   | zero=>intro st a w J β I h';simp[cB] at h'
   | succ n V =>
    intro st a w J β I h'
    rw[cB] at h'
    rw[rounds_succ]
    refine U I h' (fun st' D w' J' β' I' h''=>?_) (fun id st' D w' J' β' I' h''=>F _ _ _ _ _ _ I' h'') (fun st' D w' J' β' I' h''=>hr _ _ _ _ _ I' h'')
    obtain⟨s2,S,T⟩:=ub h''
    obtain⟨J2,β2,I2⟩:=cN I' S
    exact V I2 T
  obtain⟨s2,S,T⟩:=ub C
  obtain⟨J2,β2,I2⟩:=cN I S
  exact key N I2 T
 | exit id=>intro H kn kx kr st a w J β Q I C hn F hr;exact wp_exit (F _ _ _ _ _ _ I C)
 | ret=>intro H kn kx kr st a w J β Q I C hn F hr;exact wp_ret (hr _ _ _ _ _ I C)
 | rangeFunc=>intro H kn kx kr st a w J β Q I C;simp[G5] at C
 | scope=>intro H kn kx kr st a w J β Q I C;simp[G5] at C
 | label=>intro H kn kx kr st a w J β Q I C;simp[G5] at C
 | goto=>intro H kn kx kr st a w J β Q I C;simp[G5] at C
 | refuse=>intro H kn kx kr st a w J β Q I C;simp[G5] at C
end
end Gx

namespace Gx
open Go
structure FDone (Z:Start) (J:Bool→Nat→Prop) (β:C8) (h:Am) (w:World):Prop where
 sim:SimH J β h w
 os:w.os=Z.w.os
 tape:w.tape=Z.w.tape
 output:w.output=Z.w.output
 size:Z.w.heap.size≤w.heap.size
 frame:∀ k,k<Z.w.heap.size→¬ Awn Z.β Z.h k→w.heap[k]?=Z.w.heap[k]?
 wr:∀ k,Awn β h k→k<Z.w.heap.size→Awn Z.β Z.h k
 jsub:∀ o k,Z.J o k→J o k
 jup:∀ o k,J o k→Z.J o k∨Awn Z.β Z.h k∨Z.w.heap.size≤k
 sizes:∀ k,Bw Z.w k≤Bw w k
 outs:∀ b x0 x,Au Z.h b=some x0→Au h b=some x→x.dead=false→(β b=Z.β b∧x.mp=x0.mp)∧x.sz=x0.sz∧(x0.mp=false→x.cells.length=x0.cells.length)∧x0.dead=false
 live:∀ b x,Au h b=some x→x.dead=false
def Bhc (P:Program) (f:Nat) (args:LA) (h:Am) (res:AV) (h':Am):Prop :=
 ∀ (J:Bool→Nat→Prop) (β:C8) (w:World) (vs:List Value),SimH J β h w→Reps J β h w args vs →
  Calls P f vs.toArray w fun e w'=>∃ vc J' β',e=.returned vc∧FDone ⟨J,β,h,w⟩ J' β' h' w'∧Rep J' β' h' w' res vc
def Bcj (P:Program) (f:Nat) (t:Tw):Prop:=∀ args h res h',(t.runK args h fun v h'=>some (v,h'))=some (res,h')→Bhc P f args h res h'
def Ade (P:Program):List (Nat×Tw)→Prop
 | []=>True
 | p::r=>Bcj P p.1 p.2∧Ade P r
theorem Axc {P:Program} {R:Type} {r:R}:∀ {T:List (Nat×Tw)},Ade P T→∀ {f:Nat} {C:LA} {h:Am} {k:AV→Am→O R},oL T f C h k=some r →
  ∃ D h',Bhc P f C h D h'∧k D h'=some r
 | [],_,f,C,h,k,F=>by simp[oL] at F
 | (g,t)::T,hT,f,C,h,k,F=>by
  rw[oL] at F
  cases G:Nat.beq g f with
  | false=>rw[G] at F;exact Axc hT.2 F
  | true =>
   rw[G] at F
   have:=Nat.eq_of_beq_eq_true G
   subst this
   simp only[cond_true] at F
   rw[t.eq] at F
   obtain⟨⟨D,h'⟩,I,L⟩:=ub F
   exact⟨D,h',hT.1 C h D h' I,L⟩
section
variable {R:Type} {r:R} {Z:Start} {nt:Nat} {J:Bool→Nat→Prop} {β:C8} {st:St} {a:Act} {w:World}
def o8 (tmps:Array Value):ResultVar→Sem Value
 | .tmp t=>pure (tmps.getD t undef)
 | .cell a t=>do loadVar t (←Go.asAddr (tmps.getD a undef))
theorem Bai {α β:Type} (f:α→Sem β) (xs:Array α):xs.mapM f=(List.toArray <$> xs.toList.mapM f):=by
 rw[←List.mapM_toArray]
theorem A1p (fn:Func) (tmps:Array Value):results fn tmps=(do let vs ←fn.results.mapM (o8 tmps);pure (if h:vs.size=1 then vs[0] else .tuple vs)):=by
 unfold results
 congr 1
def Axd (l:List Value):Value:=match l with | [v]=>v | l=>.tuple l.toArray
theorem Axe {P:Program} (fn:Func) (tmps:Array Value) {vs:List Value} (h:(fn.results.toList.mapM (o8 tmps)).run P w=.ok vs w):(results fn tmps).run P w=.ok (Axd vs) w:=by
 rw[A1p,Bai]
 simp only[map_eq_pure_bind,Sem.run_bind,h,Result.andThen_ok,Sem.run_pure]
 congr 1
 match vs with
 | []=>rfl
 | [v]=>rfl
 | v::u::r=>simp[Axd]
theorem Axf {P:Program} {t:TypeId} {v vc:Value} (h:(Instr.loadAt t v).run P w=.ok vc w):(do loadVar t (←Go.asAddr v):Sem Value).run P w=.ok vc w:=by
 unfold Instr.loadAt at h
 cases v with
 | pointer a =>
  cases a with
  | some a=>exact h
  | none=>simp[Instr.sureAddr] at h
 | _=>simp[Instr.sureAddr] at h
theorem NB {E:Env} (S:SimH J β st.h w) (SS:SimS J β st.h w st.s a.tmps):∀ (l:List ResultVar) {C:LA} {k:LA→O R},Px E st l C k=some r →
  ∃ vals vs,k (C.reverse++vals)=some r∧(l.mapM (o8 a.tmps)).run E.P w=.ok vs w∧Reps J β st.h w vals vs
 | [],C,k,D=>⟨[],[],by simpa[Px] using D,by simp,by rw[Reps]⟩
 | .tmp t::l,C,k,D=>by
  rw[Px] at D
  obtain⟨vals,vs,F,G,I⟩:=NB S SS l D
  refine⟨G3 st.s t::vals,a.tmps.getD t undef::vs,by simpa using F,?_,by rw[Reps];exact⟨_,_,rfl,Br SS (.tmp t),I⟩⟩
  simp only[List.mapM_cons,o8,Sem.run_bind,Sem.run_pure,Result.andThen_ok,G]
 | .cell ad t::l,C,k,D=>by
  rw[Px] at D
  obtain⟨v,vc,L,F,G⟩:=vq S (fun _ _ h=>h) D (Br SS (.tmp ad))
  obtain⟨vals,vs,I,M,T⟩:=NB S SS l L
  refine⟨v::vals,vc::vs,by simpa using I,?_,by rw[Reps];exact⟨_,_,rfl,G,T⟩⟩
  have:(o8 a.tmps (.cell ad t)).run E.P w=.ok vc w:=Axf F
  simp only[List.mapM_cons,Sem.run_bind,this,Sem.run_pure,Result.andThen_ok,M]
theorem A1q {i:Nat} {m:Nat×Nat} {v v':AV} {ups:Ip} {vc:Value} {h:Am} (S:SimH J β h w) (k:Bes (Au h) i m v=some (v',ups)) (C:Rep J β h w v vc) :
  ∃ J' β',Step J β h w J' β' (At ups h) w∧Rep J' β' (At ups h) w v' vc∧(∀ b x,Au (At ups h) b=some x→Au h b=none→Ik≤b):=by
 have old:∀ {ups:Ip},(∀ b,Bj ups b=true→∃ x,Au h b=some x)→∀ b x,Au (At ups h) b=some x→Au h b=none→Ik≤b:=by
  intro ups V b x D hn
  cases hi:Bj ups b with
  | true=>obtain⟨y,Y⟩:=V b hi;rw[Y] at hn;cases hn
  | false=>rw[Dp _ _ _ hi,hn] at D;cases D
 unfold Bes at k
 cases M:Nat.beq m.1 0 with
 | true =>
  rw[M] at k;simp at k
  obtain⟨rfl,rfl⟩:=k
  exact⟨J,β,Step.refl S,C,old (by simp[Bj])⟩
 | false =>
  rw[M,cond_false] at k
  cases T:Nat.beq m.1 1 with
  | true =>
   rw[T,cond_true] at k
   split at k
   ·simp at k;obtain⟨rfl,rfl⟩:=k
    rw[Rep] at C;subst C
    refine⟨J,β,Step.refl S,?_,old (by simp[Bj])⟩
    rw[Rep,RepC]
    exact⟨by simp,none,0,rfl,Nat.le_refl _,by simp,.inl rfl⟩
   ·simp at k;obtain⟨rfl,rfl⟩:=k
    refine⟨J,β,Step.refl S,?_,old (by simp[Bj])⟩
    rw[Rep,RepC] at C ⊢
    obtain⟨e1,A,cap,e2,e3,e4,e5⟩:=C
    exact⟨e1,A,cap,e2,e3,by simp,e5⟩
   ·obtain⟨⟨q1,q2,q3⟩,hq,G⟩:=ub k
    simp at G;obtain⟨rfl,rfl⟩:=G
    obtain⟨J',A,hA,_⟩:=cE S (Looks.s fun _ _ h=>h) hq C
    refine⟨J',β,A,?_,old (Aoq hq)⟩
    unfold jI at hq
    obtain⟨x,D,F⟩:=ub hq
    obtain⟨_,U⟩:=uc F
    simp at U
    obtain⟨rfl,rfl,rfl⟩:=U
    rw[Rep];exact hA
   ·simp at k
  | false =>
   rw[T,cond_false] at k
   cases G:Nat.beq m.1 2 with
   | true =>
    rw[G,cond_true] at k
    split at k
    ·obtain⟨hn,F⟩:=A5b k
     simp at F;obtain⟨rfl,rfl⟩:=F
     have L:Au h (nid 90000+i)=none:=by cases D:Au h (nid 90000+i)<;>simp_all
     have A:=Step.newNone S (x:=G4 m.2) L rfl
     refine⟨J,fun b=>if b=nid 90000+i then none else β b,A,?_,fun b x D hb=>?_⟩
     ·rw[Rep] at C;subst C;rw[Rep]
      exact⟨G4 m.2,none,0,⟨by simp only[At];rw[Ai,if_pos rfl],rfl⟩,rfl,Nat.le_refl _,.inl rfl⟩
     ·simp only[At] at D
      rw[Ai] at D
      by_cases e:b=nid 90000+i
      ·subst e;unfold nid Ik;omega
      ·rw[if_neg e,hb] at D;cases D
    ·simp at k;obtain⟨rfl,rfl⟩:=k
     exact⟨J,β,Step.refl S,C,old (by simp[Bj])⟩
   | false =>
    rw[G,cond_false] at k
    split at k
    ·rename_i c
     obtain⟨⟨q1,q2,q3⟩,hq,F⟩:=ub k
     simp at F;obtain⟨rfl,rfl⟩:=F
     rw[Rep] at C
     obtain⟨cs,rfl,hc⟩:=C
     obtain⟨J',A,hA,I,_⟩:=Ui S (Looks.s fun _ _ h=>h) hq hc
     refine⟨J',β,A,?_,old (EW hq)⟩
     rw[Rep]
     exact⟨cs,rfl,I.symm,hA⟩
    ·simp at k;obtain⟨rfl,rfl⟩:=k
     exact⟨J,β,Step.refl S,C,old (by simp[Bj])⟩
    ·simp at k
theorem wJ {s:Hy}:∀ (vals:LA) {i:Nat} {ms:List (Nat×Nat)} {h h':Am} {vals':LA} {vs:List Value} {J:Bool→Nat→Prop} {β:C8},
  Inv Z nt J β { s:=s,h:=h } a w→Awl h i ms vals=some (vals',h')→Reps J β h w vals vs →
  ∃ J' β',Inv Z nt J' β' { s:=s,h:=h' } a w∧Reps J' β' h' w vals' vs∧∀ x v,Rep J β h w x v→Rep J' β' h' w x v
 | [],i,ms,h,h',vals',vs,J,β,I,k,D=>by
  simp[Awl] at k;obtain⟨rfl,rfl⟩:=k
  exact⟨J,β,I,D,fun _ _ h=>h⟩
 | v::r,i,ms,h,h',vals',vs,J,β,I,k,D=>by
  rw[Awl] at k
  obtain⟨⟨v1,u1⟩,S,T⟩:=ub k
  obtain⟨⟨V,hr⟩,U,L⟩:=ub T
  simp at L;obtain⟨rfl,rfl⟩:=L
  rw[Reps] at D
  obtain⟨u,us,rfl,F,G⟩:=D
  obtain⟨J1,β1,A,hA,C⟩:=A1q I.sim S F
  have I1:=I.step A C
  obtain⟨J2,β2,I2,hB,M⟩:=wJ r I1 U (Reps.ext A.ext G)
  refine⟨J2,β2,I2,?_,fun x v h=>M x v (Rep.ext A.ext h)⟩
  rw[Reps]
  exact⟨u,us,rfl,M _ _ hA,hB⟩
theorem Alu {E:Env} {fn:Func} {modes:List (Nat×Nat)} {outs:List Nat} {k:AV→Am→O R} (I:Inv Z nt J β st a w) (V:CM E fn modes outs k st=some r) :
  ∃ F h' vc J' β',k F h'=some r∧(results fn a.tmps).run E.P w=.ok vc w∧FDone Z J' β' h' w∧Rep J' β' h' w F vc:=by
 unfold CM at V
 obtain⟨vals,vs,Y,h2,h3⟩:=NB I.sim I.ss _ V
 simp only[List.reverse_nil,List.nil_append] at Y
 obtain⟨⟨vals',h'⟩,h4,h5⟩:=ub Y
 obtain⟨J1,β1,I1,hR,_⟩:=wJ (s:=st.s) vals I h4 h3
 obtain⟨hc,h6⟩:=uc h5
 simp at hc
 obtain⟨hn,hs,hi,_⟩:=hc
 have hn:=Wv hn
 have G:=Rc hi
 have hs:=Rc hs
 refine⟨_,_,Axd vs,J1,XM _ _ β1,h6,Axe fn a.tmps h2,?_,Rep.ren hn hs ?_⟩
 ·exact⟨I1.sim.ren hn G,I1.os,I1.tape,I1.output,I1.size,I1.frame,fun k hm=>I1.wr k (Ass hn hm),I1.jsub,I1.jup,I1.sizes,fun b x0 x L M hd=>by
   obtain⟨b',x',D,S,T,rfl⟩:=P4 hn b x M
   have:=wI D ⟨I1.zge b x0 L,I1.zlt b x0 L⟩ S
   subst this
   obtain⟨⟨e1,em⟩,e2,e3,e4⟩:=I1.outs b' x0 x' L T hd
   refine⟨⟨?_,em⟩,e2,by rw[Oq];exact e3,e4⟩
   have:=H2 (β:=β1) hn D
   rw[S] at this
   rw[this];exact e1,fun b x M=>by
   obtain⟨b',x',D,S,T,rfl⟩:=P4 hn b x M
   obtain⟨x2,U,h8⟩:=Axa D
   rw[T] at U;simp at U;subst U;exact h8⟩
 ·match vals',vs,hR with
  | [],vs,hR=>rw[Reps] at hR;subst hR;simp only[Axd,Bet];rw[Rep];exact⟨[],rfl,by rw[Reps]⟩
  | [v],vs,hR =>
   rw[Reps] at hR
   obtain⟨u,us,rfl,hu,C⟩:=hR
   rw[Reps] at C;subst C
   exact hu
  | v::v2::l,vs,hR =>
   have hR':=hR
   rw[Reps] at hR
   obtain⟨u,us,rfl,hu,C⟩:=hR
   rw[Reps] at C
   obtain⟨u2,us2,rfl,_,_⟩:=C
   simp only[Axd,Bet]
   rw[Rep]
   exact⟨_,rfl,hR'⟩
end
end Gx

namespace Gx
open Go
section
variable {J J':Bool→Nat→Prop} {β:C8} {h:Am} {w:World}
mutual
theorem Rep.noOrg:∀ {x:AV} {v:Value},MW x=false→Rep J β h w x v→Rep (fun _=>J false) β h w x v
 | .own ..,v,_,hr=>by rw[Rep] at hr ⊢;exact hr
 | .optr ..,v,_,hr=>by rw[Rep] at hr ⊢;exact hr
 | .omap ..,v,_,hr=>by rw[Rep] at hr ⊢;exact hr
 | .pagg c o,v,ho,hr=>by
  rw[MW] at ho;subst ho
  rw[Rep] at hr ⊢;exact hr
 | .agg c,v,ho,hr=>by
  rw[MW] at ho
  rw[Rep] at hr ⊢
  obtain⟨cs,h1,h2⟩:=hr
  exact⟨cs,h1,Reps.noOrg ho h2⟩
 | .tup c,v,ho,hr=>by
  rw[MW] at ho
  rw[Rep] at hr ⊢
  obtain⟨cs,h1,h2⟩:=hr
  exact⟨cs,h1,Reps.noOrg ho h2⟩
 | .fn f c,v,ho,hr=>by
  rw[MW] at ho
  rw[Rep] at hr ⊢
  obtain⟨cs,h1,h2⟩:=hr
  exact⟨cs,h1,Reps.noOrg ho h2⟩
 | .undef,_,_,_=>by rw[Rep];trivial
 | .imm c n sz t o,v,ho,hr=>by
  rw[MW] at ho;subst ho
  rw[Rep] at hr ⊢;exact hr
 | .iptr c o,v,ho,hr=>by
  rw[MW] at ho;subst ho
  rw[Rep] at hr ⊢;exact hr
 | .int ..,v,_,hr=>by rw[Rep] at hr ⊢;exact hr
 | .bool _,v,_,hr=>by rw[Rep] at hr ⊢;exact hr
 | .str _,v,_,hr=>by rw[Rep] at hr ⊢;exact hr
 | .nsl,v,_,hr=>by rw[Rep] at hr ⊢;exact hr
 | .nilptr,v,_,hr=>by rw[Rep] at hr ⊢;exact hr
 | .nilfn,v,_,hr=>by rw[Rep] at hr ⊢;exact hr
theorem Reps.noOrg:∀ {c:List AV} {cs:List Value},Xu c=false→Reps J β h w c cs→Reps (fun _=>J false) β h w c cs
 | [],_,_,hr=>by rw[Reps] at hr ⊢;exact hr
 | x::r,cs,ho,hr=>by
  rw[Xu] at ho
  simp at ho
  rw[Reps] at hr ⊢
  obtain⟨u,us,h1,h2,h3⟩:=hr
  exact⟨u,us,h1,Rep.noOrg ho.1 h2,Reps.noOrg ho.2 h3⟩
end
theorem Adf:∀ {c:LA} {j:Nat} {x:AV},Xu c=false→c[j]?=some x→MW x=false
 | [],j,x,_,k=>by simp at k
 | y::r,j,x,C,k=>by
  rw[Xu] at C
  simp at C
  cases j with
  | zero=>simp at k;subst k;exact C.1
  | succ j=>exact Adf C.2 (by simpa using k)
theorem Adg:∀ {h:Am} {b:Nat} {x:Blk},oM h=false→Au h b=some x→x.taint=false∧(x.pure=false→Xu x.cells=false)
 | [],b,x,_,k=>by simp[Au] at k
 | (i,y)::r,b,x,C,k=>by
  rw[oM] at C
  simp at C
  rw[Au] at k
  cases hi:Nat.beq i b with
  | true =>
   rw[hi] at k;simp at k;subst k
   refine⟨C.1.1,fun D=>?_⟩
   have:=C.1.2
   rw[D] at this;simpa using this
  | false=>rw[hi] at k;exact Adg C.2 (by simpa using k)
theorem SimH.noOrg (S:SimH J β h w) (ho:oM h=false):SimH (fun _=>J false) β h w:=by
 refine⟨fun _ k C=>S.jlt _ k C,fun k C=>C,fun b x D G I=>?_,fun b x D G I=>by
   obtain⟨L,M,k,es,clk,T,g4,g5,g6⟩:=S.mblk b x D G I
   exact⟨L,M,k,es,clk,T,g4,g5,fun _ hg=>g6 false hg⟩,S.sep⟩
 obtain⟨V,hc⟩:=Adg ho D
 rcases S.blk b x D G I with U | ⟨k,o,cs,ty,fr,U,h2,h3,h4,Y,h6,h7⟩
 ·exact .inl U
 ·refine .inr ⟨k,o,cs,ty,fr,U,h2,h3,h4,⟨fun F=>?_,fun F j c C=>?_⟩,fun hs _=>h6 hs _,fun hs=>?_⟩
  ·have:=Y.1 F;rw[V] at this;exact this
  ·obtain⟨u,L,M,T⟩:=Y.2 F j c C
   exact⟨u,L,Rep.noOrg (Adf (hc F) C) M,T⟩
  ·have:=h7 hs;rw[V] at this;exact this
theorem Ext.grow (hJ:∀ o k,J o k→J' o k):Ext J β h w J' β h w:=⟨hJ,fun _ _ _=>rfl,fun b x C=>⟨x,⟨C,rfl⟩,by cases D:x.dead<;>simp⟩,fun _ _ _ _=>Nat.le_refl _⟩
theorem SimH.grow (S:SimH J β h w) (hJ:∀ o k,J o k→J' o k) (I:∀ o k,J' o k→k<w.heap.size) (L:∀ k,J' false k→J' true k)
  (C:∀ b x k o,Au h b=some x→x.dead=false→x.sealed=false→β b=some (k,o)→∀ g,¬ J' g k):SimH J' β h w:=by
 refine⟨I,L,fun b x D F M=>?_,fun b x D F M=>by
   obtain⟨V,T,k,es,clk,U,Y,g5,g6⟩:=S.mblk b x D F M
   exact⟨V,T,k,es,clk,U,Y,g5,C b x k 0 D F T U⟩,S.sep⟩
 rcases S.blk b x D F M with G | ⟨k,o,cs,ty,fr,G,h2,h3,h4,h5,h6,h7⟩
 ·exact .inl G
 ·exact .inr ⟨k,o,cs,ty,fr,G,h2,h3,h4,h5.ext (Ext.grow hJ),fun hs=>C b x k o D F hs G,fun hs=>hJ _ _ (h7 hs)⟩
def Bf7 (β:C8) (h:Am) (fz:List Nat) (k:Nat):Prop:=∃ b x o,b ∈ fz∧Au h b=some x∧x.dead=false∧x.sealed=false∧β b=some (k,o)
def JS (J:Bool→Nat→Prop) (β:C8) (h:Am) (fz:List Nat):Bool→Nat→Prop:=fun o k=>J o k∨(o=true∧Bf7 β h fz k)
theorem Adh {g:Cb} {b off n:Nat} {x:Blk} {vc:Value} {fz:List Nat} (S:SimH J β h w) (Y:Looks g h) (C:Lf g b=some x) (hp:x.pure=true) (hf:x.sealed=false→b ∈ fz) (U:Rep J β h w (.own b off n) vc) :
  Rep (JS J β h fz) β h w (.imm ((x.cells.drop off).take (n*x.sz)) n x.sz false (!x.sealed||x.taint)) vc:=by
 unfold Lf at C
 obtain⟨x0,L,C⟩:=ub C
 obtain⟨M,C⟩:=A5b C
 simp at C;subst C
 have I:=Y b _ L
 rw[Rep]
 have key:=(A5c (J':=fun o k=>o≠x0.taint∨JS J β h fz (!x0.sealed||x0.taint) k) S I M hp U (fun k o T=>.inr ?_) (fun o k F=>?_) false (!x0.sealed||x0.taint)).2 (by simp)
 ·exact RepC.keep (fun k G=>by rcases G with G | G;exact absurd rfl G;exact G) (fun _ _=>rfl) key
 ·cases hs:x0.sealed with
  | false =>
   simp only[Bool.not_false,Bool.true_or]
   exact .inr ⟨rfl,b,x0,o,hf hs,I,M,hs,T⟩
  | true =>
   simp only[Bool.not_true,Bool.false_or]
   rcases S.blk b x0 I M (Bad I U) with⟨D,_⟩ | ⟨k',o',cs,ty,fr,D,h2,h3,h4,h5,h6,h7⟩
   ·rw[T] at D;cases D
   ·rw[T] at D;simp at D;obtain⟨rfl,rfl⟩:=D
    exact .inl (h7 hs)
 ·by_cases e:o=x0.taint
  ·subst e
   right
   cases hs:x0.sealed with
   | false =>
    simp only[Bool.not_false,Bool.true_or]
    left
    cases V:x0.taint with
    | false=>rw[V] at F;exact S.jft k F
    | true=>rw[V] at F;exact F
   | true=>simp only[Bool.not_true,Bool.false_or];exact .inl F
  ·exact .inl e
theorem JS.mono (S:SimH J β h w) {fz:List Nat} {a b:Bool} (k:Nat) (C:JS J β h fz a k):JS J β h fz (a||b) k:=by
 cases a
 ·cases b
  ·exact C
  ·rcases C with C | ⟨D,_⟩
   ·exact .inl (S.jft k C)
   ·cases D
 ·exact C
theorem Alv {g:Cb} {v v':AV} {o:Bool} {vc:Value} {fz:List Nat} (S:SimH J β h w) (T:Looks g h) (C:TG g v=some (v',o)) (U:∀ b off n x,v=.own b off n→g b=some x→x.sealed=false→b ∈ fz) (F:Rep J β h w v vc) :
  RepC (JS J β h fz o) w v' vc:=by
 cases v
 case own b off n =>
  rw[TG] at C
  obtain⟨x,D,V⟩:=ub C
  obtain⟨Y,M⟩:=uc V
  simp at M
  obtain⟨rfl,rfl⟩:=M
  have:=Adh S T D Y (fun hs=>by
   unfold Lf at D
   obtain⟨x0,G,D⟩:=ub D
   obtain⟨hd,D⟩:=A5b D
   simp at D;subst D
   exact U b off n x0 rfl G hs) F
  rw[Rep] at this;exact this
 case imm c n sz t org =>
  simp[TG] at C;obtain⟨rfl,rfl⟩:=C
  rw[Rep,RepC] at F
  rw[RepC]
  obtain⟨e1,A,cap,e2,e3,e4,I⟩:=F
  refine⟨e1,A,cap,e2,e3,by simp,?_⟩
  rcases I with I | ⟨a,e6,e7,e8⟩
  ·exact .inl I
  ·exact .inr ⟨a,e6,.inl e7,RepCs.keep (fun k L=>.inl L) (fun _ _=>rfl) (fun _=>rfl) e8⟩
 case iptr c org =>
  simp[TG] at C;obtain⟨rfl,rfl⟩:=C
  rw[Rep] at F
  exact RepC.keep (fun k L=>.inl L) (fun _ _=>rfl) F
 all_goals first
  | (simp[TG] at C;done)
  | (simp[TG] at C;obtain⟨rfl,rfl⟩:=C;rw[Rep] at F;rw[RepC];exact F)
theorem cO {g:Cb} {fz:List Nat} (S:SimH J β h w) (T:Looks g h):∀ {c c':LA} {o:Bool} {cs:List Value},b8 g c=some (c',o)→(∀ b ∈ Lr g c,b ∈ fz)→Reps J β h w c cs →
  cs.length=c'.length∧∀ (j:Nat) (x:AV),c'[j]?=some x→∃ u,cs[j]?=some u∧RepC (JS J β h fz o) w x u
 | [],c',o,cs,C,G,D=>by
  simp[b8] at C;obtain⟨rfl,rfl⟩:=C
  rw[Reps] at D;subst D
  exact⟨rfl,fun j x F=>by simp at F⟩
 | v::r,c',o,cs,C,G,D=>by
  rw[b8] at C
  obtain⟨⟨v1,o1⟩,U,C⟩:=ub C
  obtain⟨⟨r1,o2⟩,V,C⟩:=ub C
  simp at C;obtain⟨rfl,rfl⟩:=C
  rw[Reps] at D
  obtain⟨u,us,rfl,Y,g2⟩:=D
  have I:∀ b ∈ Lr g r,b ∈ fz:=fun b L=>G b (by
   cases v<;>simp only[Lr]<;>try exact L
   split
   ·rename_i x _;cases x.sealed<;>simp[L]
   ·exact L)
  have a1:=Alv (fz:=fz) S T U (fun b off n x e hx hs=>G b (by subst e;simp[Lr,hx,hs])) Y
  obtain⟨b1,b2⟩:=cO S T V I g2
  refine⟨by simp[b1],fun j x F=>?_⟩
  cases j with
  | zero=>simp at F;subst F;exact⟨u,by simp,RepC.keep (fun k M=>JS.mono S k M) (fun _ _=>rfl) a1⟩
  | succ j =>
   obtain⟨u',e1,e2⟩:=b2 j x (by simpa using F)
   exact⟨u',by simpa using e1,RepC.keep (fun k M=>by rw[Bool.or_comm];exact JS.mono S k M) (fun _ _=>rfl) e2⟩
theorem Alw {g:Cb} {v v':AV} {q:Bool} {vc:Value} {fz:List Nat} (S:SimH J β h w) (Y:Looks g h) (D:Ar8 g v=some (v',q)) (hf:∀ b ∈ OC g v,b ∈ fz) (G:Rep J β h w v vc) :
  Rep (JS J β h fz) β h w v' vc∧Hz v'=[]:=by
 unfold Ar8 at D
 split at D
 ·rename_i b off n
  obtain⟨x,C,F⟩:=ub D
  obtain⟨hp,L⟩:=uc F
  simp at L
  obtain⟨rfl,_⟩:=L
  exact⟨Adh S Y C hp (fun hs=>by
   unfold Lf at C
   obtain⟨x0,M,C⟩:=ub C
   obtain⟨U,C⟩:=A5b C
   simp at C;subst C
   exact hf b (by simp[OC,M,hs])) G,by simp[Hz]⟩
 ·simp at D;obtain⟨rfl,_⟩:=D
  refine⟨?_,by simp[Hz]⟩
  rw[Rep,RepC] at G ⊢
  obtain⟨e1,A,cap,e2,e3,e4,e5⟩:=G
  refine⟨e1,A,cap,e2,e3,by simp,?_⟩
  rcases e5 with e5 | ⟨a,e6,e7,e8⟩
  ·exact .inl e5
  ·exact .inr ⟨a,e6,.inl e7,RepCs.keep (fun k hk=>.inl hk) (fun _ _=>rfl) (fun _=>rfl) e8⟩
 ·rename_i b off
  obtain⟨x,C,F⟩:=ub D
  obtain⟨hp,L⟩:=uc F
  simp at L
  obtain⟨rfl,_⟩:=L
  unfold Lf at C
  obtain⟨x0,M,C⟩:=ub C
  obtain⟨U,C⟩:=A5b C
  simp at C;subst C
  have hy:=Y b _ M
  refine⟨?_,by simp[Hz]⟩
  rw[Rep] at G
  obtain⟨x1,k,o,⟨g1,gm⟩,g2,T⟩:=G
  rw[hy] at g1;simp at g1;subst g1
  rcases T with T | T
  ·simp[U] at T
  ·rcases S.blk b x0 hy U gm with⟨F,_⟩ | ⟨k',o',cs,ty,fr,F,L,h3,h4,h5,h6,h7⟩
   ·rw[T] at F;cases F
   ·rw[T] at F;simp at F;obtain⟨rfl,rfl⟩:=F
    have hin:∀ V,J x0.taint V→JS J β h fz (!x0.sealed||x0.taint) V:=by
     intro V I
     left
     cases hs:x0.sealed with
     | false =>
      simp only[Bool.not_false,Bool.true_or]
      cases ht:x0.taint with
      | false=>rw[ht] at I;exact S.jft V I
      | true=>rw[ht] at I;exact I
     | true=>simp only[Bool.not_true,Bool.false_or];exact I
    rw[Rep,RepC]
    refine⟨_,g2,?_,?_⟩
    ·cases hs:x0.sealed with
     | false =>
      simp only[Bool.not_false,Bool.true_or]
      exact .inr ⟨rfl,b,x0,o,hf b (by simp[OC,M,hs]),hy,U,hs,T⟩
     | true =>
      simp only[Bool.not_true,Bool.false_or]
      exact .inl (h7 hs)
    ·refine RepCs.keep hin (fun _ _=>rfl) (fun j=>?_) ((h5.1 hp).drop off)
     rw[Addr.add_mid,Yz L,Nat.add_assoc]
 ·rename_i c
  obtain⟨⟨c1,o1⟩,F,L⟩:=ub D
  simp at L;obtain⟨rfl,_⟩:=L
  rw[Rep] at G
  obtain⟨cs,rfl,G⟩:=G
  obtain⟨b1,b2⟩:=cO (fz:=fz) S Y F (by simpa[OC] using hf) G
  refine⟨?_,by simp[Hz]⟩
  rw[Rep]
  refine⟨cs,rfl,b1,?_⟩
  rw[Df]
  intro j x I
  obtain⟨u,e1,e2⟩:=b2 j x I
  exact⟨u,by simpa using e1,e2⟩
 ·simp at D;obtain⟨rfl,_⟩:=D
  exact⟨Rep.ext (Ext.grow fun _ _ I=>.inl I) G,by simp[Hz,Ju]⟩
 ·simp at D
 ·simp at D
 ·simp at D
 ·simp at D
 ·simp at D;obtain⟨rfl,_⟩:=D
  refine⟨Rep.ext (Ext.grow fun _ _ I=>.inl I) G,?_⟩
  cases v<;>first | rfl | simp_all
theorem E' {g:Cb} {fz:List Nat} (S:SimH J β h w) (U:Looks g h):∀ {F:LA} {ms:List Bool} {args':LA} {im D:List Nat} {vs:List Value},
  OD g ms F=some (args',im,D)→(∀ b ∈ D,b ∈ fz)→Reps J β h w F vs→Reps (JS J β h fz) β h w args' vs∧∀ b ∈ Ju args',b ∈ im
 | [],ms,args',im,D,vs,C,T,G=>by
  simp[OD] at C;obtain⟨rfl,rfl,rfl⟩:=C
  rw[Reps] at G;subst G
  exact⟨by rw[Reps],by simp[Ju]⟩
 | v::r,ms,args',im,D,vs,C,T,G=>by
  rw[OD] at C
  rw[Reps] at G
  obtain⟨u,us,rfl,I,L⟩:=G
  cases hm:ms.headD false with
  | true =>
   rw[hm,cond_true] at C
   obtain⟨⟨a2,i2,f2⟩,V,M⟩:=ub C
   simp at M;obtain⟨rfl,rfl,rfl⟩:=M
   obtain⟨Y,g2⟩:=E' S U V T L
   refine⟨by rw[Reps];exact⟨u,us,rfl,Rep.ext (Ext.grow fun _ _ hj=>.inl hj) I,Y⟩,fun b k=>?_⟩
   rw[Ju] at k
   rcases List.mem_append.1 k with k | k
   ·exact List.mem_append.2 (.inl k)
   ·exact List.mem_append.2 (.inr (g2 b k))
  | false =>
   rw[hm,cond_false] at C
   obtain⟨⟨v1,b1⟩,h0,C⟩:=ub C
   obtain⟨⟨a2,i2,f2⟩,V,M⟩:=ub C
   simp at M;obtain⟨rfl,rfl,rfl⟩:=M
   obtain⟨e1,e2⟩:=Alw S U h0 (fun b k=>T b (List.mem_append.2 (.inl k))) I
   obtain⟨Y,g2⟩:=E' S U V (fun b k=>T b (List.mem_append.2 (.inr k))) L
   refine⟨by rw[Reps];exact⟨u,us,rfl,e1,Y⟩,fun b k=>?_⟩
   rw[Ju,e2] at k
   exact g2 b (by simpa using k)
end
end Gx

namespace Gx
open Go
theorem Aox {g g':Cb} {ρ:Nat→Nat}:∀ {ids:List Nat},(∀ b ∈ ids,g b=g' b)→sub g ρ ids=sub g' ρ ids
 | [],_=>rfl
 | b::r,h=>by
  rw[sub,sub,h b (by simp),Aox (fun c k=>h c (by simp[k]))]
theorem cP {g:Cb}:∀ {l:List Nat},b_ g l=true→∀ b ∈ l,∃ x,g b=some x∧x.dead=false
 | [],_,b,k=>by simp at k
 | i::r,h,b,k=>by
  rw[b_] at h
  simp at h
  rcases List.mem_cons.1 k with rfl | k
  ·cases C:g b with
   | none=>rw[C] at h;simp at h
   | some x=>rw[C] at h;exact⟨x,rfl,by simpa using h.1⟩
  ·exact cP h.2 b k
theorem A5j:∀ {l m:List Nat},Awj l m=true→∀ b ∈ l,b ∉ m
 | [],m,_,b,k=>by simp at k
 | i::r,m,h,b,k=>by
  rw[Awj] at h
  simp at h
  rcases List.mem_cons.1 k with rfl | k
  ·intro C;have:=M6.2 C;rw[this] at h;simp at h
  ·exact A5j h.2 b k
theorem OM {d:Nat}:∀ {l:List (Nat×Nat)} {b:Nat},b ∈ l.map (·.1)→Kg d l b ∈ l.map (·.2)
 | [],b,k=>by simp at k
 | (i,x)::r,b,k=>by
  rw[Kg]
  cases hi:Nat.beq i b with
  | true=>simp
  | false =>
   have C:b ∈ r.map (·.1):=by
    rw[List.map_cons] at k
    rcases List.mem_cons.1 k with h | h
    ·exact absurd h.symm (AR hi)
    ·exact h
   simp only[cond_false,List.map_cons]
   exact List.mem_cons_of_mem _ (OM C)
theorem CQ {d:Nat}:∀ {l m:List (Nat×Nat)} {b:Nat},Kg d (l++m) b=if b ∈ l.map (·.1) then Kg d l b else Kg d m b
 | [],m,b=>by simp
 | (i,x)::r,m,b=>by
  rw[List.cons_append,Kg,Kg,CQ]
  cases hi:Nat.beq i b with
  | true=>have:=Nat.eq_of_beq_eq_true hi;subst this;simp
  | false =>
   have:=AR hi
   simp only[cond_false,List.map_cons,List.mem_cons]
   by_cases k:b ∈ r.map (·.1)
   ·rw[if_pos k,if_pos (.inr k)]
   ·rw[if_neg k,if_neg (by rintro(h | h);exact this h.symm;exact k h)]
theorem Lt:∀ {base:Nat} {l:List Nat},(A6 base l).map (·.1)=l
 | _,[]=>rfl
 | base,i::r=>by rw[A6,List.map_cons,Lt]
theorem Adi {d d':Nat}:∀ {l:List Nat} {base b:Nat},b ∈ l→Kg d' ((A6 base l).map fun p=>(p.2,p.1)) (Kg d (A6 base l) b)=b
 | [],base,b,k=>by simp at k
 | i::r,base,b,k=>by
  rw[A6,Kg,List.map_cons,Kg]
  cases hi:Nat.beq i b with
  | true=>have:=Nat.eq_of_beq_eq_true hi;subst this;simp
  | false =>
   have C:b ∈ r:=by
    rcases List.mem_cons.1 k with h | h
    ·exact absurd h.symm (AR hi)
    ·exact h
   simp only[cond_false]
   have D:=E_ (d:=d) (base:=base+1) C
   rw[iZ (show base≠Kg d (A6 (base+1) r) b by omega)]
   exact Adi C
theorem Wx:∀ {base:Nat} {l:List Nat} {c:Nat},c ∈ (A6 base l).map (·.2)→base≤c∧c<base+l.length
 | _,[],c,k=>by simp[A6] at k
 | base,i::r,c,k=>by
  rw[A6,List.map_cons] at k
  rcases List.mem_cons.1 k with h | h
  ·simp at h;subst h;simp
  ·have:=Wx h;simp only[List.length_cons];omega
theorem FA:∀ {base:Nat} {l:List Nat},((A6 base l).map (·.2)).Nodup
 | _,[]=>by simp[A6]
 | base,i::r=>by
  rw[A6,List.map_cons,List.nodup_cons]
  exact⟨fun h=>by have:=Wx h;simp at this;omega,FA⟩
theorem cQ:∀ {base:Nat} {l:List Nat} {b:Nat},b ∈ l→(b,Kg 0 (A6 base l) b) ∈ A6 base l
 | _,[],b,k=>by simp at k
 | base,i::r,b,k=>by
  rw[A6,Kg]
  cases hi:Nat.beq i b with
  | true=>have:=Nat.eq_of_beq_eq_true hi;subst this;simp
  | false =>
   have C:b ∈ r:=by
    rcases List.mem_cons.1 k with h | h
    ·exact absurd h.symm (AR hi)
    ·exact h
   simp only[cond_false]
   exact List.mem_cons_of_mem _ (cQ C)
def A1r (x:Blk):Blk:={ x with dead:=true,pure:=true,cells:=[] }
theorem Ot:∀ {ups:Ip} {h:Am} {b:Nat} {o:Option Blk},(ups.map (·.1)).Nodup→(b,o) ∈ ups→Au (At ups h) b=match o with | some x=>some x | none=>(Au h b).map A1r
 | [],h,b,o,_,F=>by simp at F
 | (i,y)::r,h,b,o,hn,F=>by
  rw[List.map_cons,List.nodup_cons] at hn
  rcases List.mem_cons.1 F with G | k
  ·simp at G
   obtain⟨rfl,rfl⟩:=G
   have C:Bj r b=false:=by
    have:∀ {r:Ip},b ∉ r.map (·.1)→Bj r b=false:=by
     intro r
     induction r with
     | nil=>intro _;rfl
     | cons p r I =>
      intro h
      simp only[List.map_cons,List.mem_cons,not_or] at h
      rw[Bj,iZ (fun e=>h.1 e.symm)]
      exact I h.2
    exact this hn.1
   cases o with
   | some x=>rw[At,Dp _ _ _ C,Ai,if_pos rfl]
   | none =>
    rw[At,Dp _ _ _ C]
    cases L:Au h b with
    | none=>simp[L]
    | some x=>simp only[Option.map_some];rw[Ai,if_pos rfl];rfl
  ·have D:b≠i:=fun e=>by subst e;exact hn.1 (List.mem_map.2 ⟨_,k,rfl⟩)
   cases y with
   | some x =>
    rw[At,Ot hn.2 k]
    cases o with
    | some _=>rfl
    | none=>simp only;rw[Ai,if_neg D]
   | none =>
    rw[At,Ot hn.2 k]
    cases o with
    | some _=>rfl
    | none =>
     simp only
     split
     ·rw[Ai,if_neg D]
     ·rfl
theorem tV:∀ {ups:Ip} {b:Nat},Bj ups b=true↔b ∈ ups.map (·.1)
 | [],b=>by simp[Bj]
 | (i,y)::r,b=>by
  rw[Bj,List.map_cons,List.mem_cons,←tV]
  cases hi:Nat.beq i b with
  | true=>have:=Nat.eq_of_beq_eq_true hi;subst this;simp
  | false=>have:=AR hi;simp;intro e;exact absurd e.symm this
theorem Adj {β:C8} {h:Am} {ρ:Nat→Nat} {ids:List Nat} (hn:(ids.map ρ).Nodup) {k:Nat} (F:Awn (XM ρ ids β) (sub (Au h) ρ ids) k) :
  ∃ b x o,b ∈ ids∧Au h b=some x∧x.dead=false∧x.sealed=false∧β b=some (k,o):=by
 obtain⟨c,y,o,G,I,hs,C⟩:=F
 obtain⟨b,x,D,rfl,L,rfl⟩:=P4 hn c y G
 rw[H2 hn D] at C
 exact⟨b,x,o,D,L,I,hs,C⟩
theorem SimH.unJ {J:Bool→Nat→Prop} {β:C8} {h:Am} {w:World} (S:SimH J β h w) {b:Nat} {x:Blk} {k o:Nat} (F:Au h b=some x) (G:x.dead=false) (hs:x.sealed=false) (D:β b=some (k,o)):∀ g,¬ J g k:=by
 cases I:x.mp with
 | false =>
  rcases S.blk b x F G I with⟨C,_⟩ | ⟨M,o2,cs,ty,fr,C,L,U,V,Y,T,h8⟩
  ·rw[D] at C;cases C
  ·rw[D] at C;simp at C;obtain⟨rfl,rfl⟩:=C
   exact T hs
 | true =>
  obtain⟨_,_,M,es,clk,C,_,_,L⟩:=S.mblk b x F G I
  rw[D] at C;simp at C;obtain⟨rfl,_⟩:=C
  exact L
theorem SimH.seJ {J:Bool→Nat→Prop} {β:C8} {h:Am} {w:World} (S:SimH J β h w) {b:Nat} {x:Blk} {k o:Nat} (D:Au h b=some x) (F:x.dead=false) (hs:x.sealed=true) (G:β b=some (k,o)):J x.taint k:=by
 cases I:x.mp with
 | false =>
  rcases S.blk b x D F I with⟨C,_⟩ | ⟨M,o2,cs,ty,fr,C,T,U,V,Y,h7,L⟩
  ·rw[G] at C;cases C
  ·rw[G] at C;simp at C;obtain⟨rfl,rfl⟩:=C
   exact L hs
 | true =>
  have:=(S.mblk b x D F I).2.1
  rw[hs] at this;cases this
theorem Step.merge {J J0 J1:Bool→Nat→Prop} {β β1:C8} {h h1 H:Am} {w w':World} {D ids:List Nat} (S:SimH J β h w) (S1:SimH J0 β1 h1 w')
  (hH:∀ b,b ∉ D→Au H b=Au h b)
  (hD:∀ b x,b ∈ D→Au H b=some x→x.dead=false→Au h1 b=some x)
  (hD1:∀ b x,Au h1 b=some x→b ∈ D∧Au H b=some x)
  (hnew:∀ b x,b ∈ D→b ∉ ids→Au h b≠some x)
  (hold:∀ b x,b ∈ ids→Au h b=some x→∃ x',(Au H b=some x'∧x'.mp=x.mp)∧(x'.dead=true∨(x.dead=false∧β1 b=β b∧x'.sz=x.sz∧(x.mp=false→x'.cells.length=x.cells.length))))
  (hids:∀ b ∈ ids,b ∈ D)
  (os:w'.os=w.os) (tape:w'.tape=w.tape) (output:w'.output=w.output) (size:w.heap.size≤w'.heap.size)
  (frame:∀ k,k<w.heap.size→(¬ ∃ b x o,b ∈ ids∧Au h b=some x∧x.dead=false∧x.sealed=false∧β b=some (k,o))→w'.heap[k]?=w.heap[k]?)
  (wr:∀ k,Awn β1 h1 k→k<w.heap.size→∃ b x o,b ∈ ids∧Au h b=some x∧x.dead=false∧x.sealed=false∧β b=some (k,o))
  (jup:∀ o k,J0 o k→J o k∨(∃ b x o,b ∈ ids∧Au h b=some x∧x.dead=false∧x.sealed=false∧β b=some (k,o))∨w.heap.size≤k)
  (sizes:∀ k,Bw w k≤Bw w' k) :
  Step J β h w (fun o k=>J o k∨J0 o k) (fun b=>if b ∈ D then β1 b else β b) H w'∧Ext J0 β1 h1 w' (fun o k=>J o k∨J0 o k) (fun b=>if b ∈ D then β1 b else β b) H w':=by
 have E0:Ext J0 β1 h1 w' (fun o k=>J o k∨J0 o k) (fun b=>if b ∈ D then β1 b else β b) H w':=by
  refine⟨fun _ _ C=>.inr C,fun _ _ _=>rfl,fun b x F=>?_,fun _ _ _ _=>Nat.le_refl _⟩
  obtain⟨Y,h3⟩:=hD1 b x F
  refine⟨x,⟨h3,rfl⟩,?_⟩
  cases I:x.dead
  ·exact .inr ⟨rfl,by simp[Y],rfl,fun _=>rfl⟩
  ·exact .inl rfl
 have keepJ:∀ o k,J o k→w'.heap[k]?=w.heap[k]?:=by
  intro o k C
  refine frame k (S.jlt o k C) ?_
  rintro⟨b,x,o',_,F,I,hs,U⟩
  exact S.unJ F I hs U o C
 have E:Ext J β h w (fun o k=>J o k∨J0 o k) (fun b=>if b ∈ D then β1 b else β b) H w':=by
  refine⟨fun _ _ C=>.inl C,keepJ,fun b x F=>?_,fun b k o _=>sizes k⟩
  by_cases hi:b ∈ ids
  ·obtain⟨x',Y,h3⟩:=hold b x hi F
   refine⟨x',Y,?_⟩
   simp only[hids b hi,if_true]
   exact h3
  ·have hnd:b ∉ D:=fun I=>hnew b x I hi F
   refine⟨x,⟨by rw[hH b hnd];exact F,rfl⟩,?_⟩
   cases I:x.dead
   ·exact .inr ⟨rfl,by simp[hnd],rfl,fun _=>rfl⟩
   ·exact .inl rfl
 have out:∀ {b x},b ∉ D→Au H b=some x→Au h b=some x:=fun F hx=>by rw[←hH _ F];exact hx
 refine⟨⟨E,⟨?_,?_,fun b x hx I hm=>?_,fun b x hx I hm=>by
   by_cases F:b ∈ D
   ·have Y:=hD b x F hx I
    have M:=S1.mblk b x Y I hm
    refine M.keep (by simp[F]) (fun _ _ _=>rfl) (fun g k o U C=>?_)
    rcases C with C | C
    ·exfalso
     by_cases hk:k<w.heap.size
     ·obtain⟨b',x',o',T,V,L,hs',G⟩:=wr k ⟨b,x,o,Y,I,M.2.1,U⟩ hk
      exact S.unJ V L hs' G g C
     ·exact hk (S.jlt g k C)
    ·exact C
   ·have Y:=out F hx
    have M:=S.mblk b x Y I hm
    have hnm:∀ k o,β b=some (k,o)→¬ ∃ b x o,b ∈ ids∧Au h b=some x∧x.dead=false∧x.sealed=false∧β b=some (k,o):=by
     rintro k o h3 ⟨b',x',o',T,V,L,hs',G⟩
     have:=S.sep b b' x x' k o o' Y V I L M.2.1 h3 G
     subst this
     exact F (hids b T)
    refine M.keep (by simp[F]) (fun k o U=>frame k (AD S Y I U) (hnm k o U)) (fun g k o U C=>?_)
    rcases C with C | C
    ·exact C
    ·rcases jup g k C with C | C | C
     ·exact C
     ·exact absurd C (hnm k o U)
     ·have:=AD S Y I U;omega,?_⟩,os,tape,output,size,?_,?_,?_⟩,E0⟩
 ·rintro o k (C | C)
  ·exact Nat.lt_of_lt_of_le (S.jlt o k C) size
  ·exact S1.jlt o k C
 ·rintro k (C | C)
  ·exact .inl (S.jft k C)
  ·exact .inr (S1.jft k C)
 ·by_cases F:b ∈ D
  ·have Y:=hD b x F hx I
   rcases S1.blk b x Y I hm with⟨h3,h4⟩ | ⟨k,o,cs,ty,fr,h3,h4,h5,h6,h7,h8,h9⟩
   ·exact .inl ⟨by simp[F,h3],h4⟩
   ·refine .inr ⟨k,o,cs,ty,fr,by simp[F,h3],h4,h5,h6,h7.ext E0,fun hs g C=>?_,fun hs=>.inr (h9 hs)⟩
    rcases C with C | C
    ·by_cases hk:k<w.heap.size
     ·obtain⟨b',x',o',T,V,L,hs',G⟩:=wr k ⟨b,x,o,Y,I,hs,h3⟩ hk
      exact S.unJ V L hs' G g C
     ·exact hk (S.jlt g k C)
    ·exact h8 hs g C
  ·have Y:=out F hx
   rcases S.blk b x Y I hm with⟨h3,h4⟩ | ⟨k,o,cs,ty,fr,h3,h4,h5,h6,h7,h8,h9⟩
   ·exact .inl ⟨by simp[F,h3],h4⟩
   ·have hk:=gi h4
    have hnm:x.sealed=false→¬ ∃ b x o,b ∈ ids∧Au h b=some x∧x.dead=false∧x.sealed=false∧β b=some (k,o):=by
     rintro hs ⟨b',x',o',T,V,L,hs',G⟩
     have:=S.sep b b' x x' k o o' Y V I L hs h3 G
     subst this
     exact F (hids b T)
    have same:w'.heap[k]?=w.heap[k]?:=by
     cases hs:x.sealed with
     | false=>exact frame k hk (hnm hs)
     | true=>exact keepJ _ k (h9 hs)
    refine .inr ⟨k,o,cs,ty,fr,by simp[F,h3],by rw[same];exact h4,h5,h6,h7.ext E,fun hs g C=>?_,fun hs=>.inl (h9 hs)⟩
    rcases C with C | C
    ·exact h8 hs g C
    ·rcases jup g k C with C | C | C
     ·exact h8 hs g C
     ·exact hnm hs C
     ·omega
 ·intro b b' x x' k o o' hx V I L hs U G
  by_cases F:b ∈ D<;>by_cases T:b' ∈ D
  ·simp[F] at U;simp[T] at G
   exact S1.sep b b' x x' k o o' (hD b x F hx I) (hD b' x' T V L) I L hs U G
  ·exfalso
   simp[F] at U;simp[T] at G
   have Y:=out T V
   have hk:=AD S Y L G
   obtain⟨b2,x2,o2,hb2,hx2,hd2,hs2,hβ2⟩:=wr k ⟨b,x,o,hD b x F hx I,I,hs,U⟩ hk
   have:=S.sep b2 b' x2 x' k o2 o' hx2 Y hd2 L hs2 hβ2 G
   subst this
   exact T (hids _ hb2)
  ·exfalso
   simp[F] at U;simp[T] at G
   have Y:=out F hx
   have h3:=hD b' x' T V L
   have hk:=AD S Y I U
   have hnm:¬ ∃ b x o,b ∈ ids∧Au h b=some x∧x.dead=false∧x.sealed=false∧β b=some (k,o):=by
    rintro⟨b2,x2,o2,hb2,hx2,hd2,hs2,hβ2⟩
    have:=S.sep b b2 x x2 k o o2 Y hx2 I hd2 hs U hβ2
    subst this
    exact F (hids _ hb2)
   cases hs':x'.sealed with
   | false=>exact hnm (wr k ⟨b',x',o',h3,L,hs',G⟩ hk)
   | true =>
    rcases jup _ k (S1.seJ h3 L hs' G) with C | C | C
    ·exact S.unJ Y I hs U _ C
    ·exact hnm C
    ·omega
  ·simp[F] at U;simp[T] at G
   exact S.sep b b' x x' k o o' (out F hx) (out T V) I L hs U G
 ·intro k hk hm
  exact frame k hk (fun ⟨b,x,o,_,hx,I,hs,U⟩=>hm ⟨b,x,o,hx,I,hs,U⟩)
 ·rintro k ⟨b,x,o,hx,I,hs,U⟩ hk
  by_cases F:b ∈ D
  ·simp[F] at U
   obtain⟨b2,x2,o2,_,hx2,hd2,hs2,hβ2⟩:=wr k ⟨b,x,o,hD b x F hx I,I,hs,U⟩ hk
   exact⟨b2,x2,o2,hx2,hd2,hs2,hβ2⟩
  ·simp[F] at U
   exact⟨b,x,o,out F hx,I,hs,U⟩
 ·rintro o k (C | C)
  ·exact .inl C
  ·rcases jup o k C with C | ⟨b,x,o2,_,hx,I,hs,U⟩ | C
   ·exact .inl C
   ·exact .inr (.inl ⟨b,x,o2,hx,I,hs,U⟩)
   ·exact .inr (.inr C)
end Gx

namespace Gx
open Go
theorem A1s {l:List Nat}:Ar9 l=true↔l=[]:=by cases l<;>simp[Ar9]
theorem TR {α β:Type} {f:α→β}:∀ {l:List α},(l.map f).Nodup→l.Nodup
 | [],_=>List.nodup_nil
 | a::r,h=>by
  rw[List.map_cons,List.nodup_cons] at h
  exact List.nodup_cons.2 ⟨fun k=>h.1 (List.mem_map.2 ⟨a,k,rfl⟩),TR h.2⟩
theorem TS {α:Type} {p:α→Bool}:∀ {l:List α},l.Nodup→(l.filter p).Nodup
 | [],_=>List.nodup_nil
 | a::r,h=>by
  rw[List.nodup_cons] at h
  rw[List.filter_cons]
  split
  ·exact List.nodup_cons.2 ⟨fun k=>h.1 (List.mem_filter.1 k).1,TS h.2⟩
  ·exact TS h.2
theorem o9 {base:Nat} {l:List Nat} {p:Nat×Nat} (k:p ∈ A6 base l):p.1 ∈ l:=by
 have:p.1 ∈ (A6 base l).map (·.1):=List.mem_map.2 ⟨p,k,rfl⟩
 rw[Lt] at this;exact this
theorem A5k {σ:Nat→Nat}:∀ {l:List Nat} {a b:Nat},(l.map σ).Nodup→a ∈ l→b ∈ l→σ a=σ b→a=b
 | [],a,b,_,D,_,_=>by simp at D
 | i::r,a,b,hn,D,G,F=>by
  rw[List.map_cons,List.nodup_cons] at hn
  rcases List.mem_cons.1 D with k | k<;>rcases List.mem_cons.1 G with C | C
  ·rw[k,C]
  ·subst k;exact absurd (List.mem_map.2 ⟨b,C,F.symm⟩) hn.1
  ·subst C;exact absurd (List.mem_map.2 ⟨a,k,F⟩) hn.1
  ·exact A5k hn.2 k C F
theorem Baj {E:Env} (hT:Ade E.P E.tbl):mR E:=by
 intro R r k J β h w g d f args vs S hl hh hv
 unfold Aol at hh
 obtain⟨⟨args',im,fz⟩,hp,h1⟩:=ub hh
 simp only at h1
 obtain⟨I,h2⟩:=uc h1
 simp only[Bool.and_eq_true] at I
 obtain⟨hal,him,hin,hdj,L,_⟩:=I
 generalize hids:ES g im=ids at *
 generalize hρ:Kg 0 (A6 100000 ids)=ρ at *
 have hal:=cP hal
 have him:=Rc him
 have hdj:=A5j hdj
 have L:=Wv L
 have hg:∀ b ∈ ids,g b=Au h b:=fun b C=>by obtain⟨x,G,_⟩:=hal b C;rw[G,hl b x G]
 rw[IU (g:=Au h) hg] at hin
 have hin:=Rc hin
 rw[Aox (g':=Au h) hg] at h2
 obtain⟨hA,hB⟩:=E' (fz:=fz) S hl hp (fun _ h=>h) hv
 have aliveH:∀ b ∈ ids,∃ x,Au h b=some x∧x.dead=false:=fun b C=>by obtain⟨x,G,hd⟩:=hal b C;exact⟨x,hl b x G,hd⟩
 have SJ:SimH (JS J β h fz) (XM ρ ids β) (sub (Au h) ρ ids) w:=by
  refine(S.ren L hin).grow (fun o k T=>.inl T) ?_ ?_ ?_
  ·rintro o k (T | ⟨_,b,x,o',_,G,hd,_,hβ⟩)
   ·exact S.jlt o k T
   ·exact AD S G hd hβ
  ·rintro k (T | ⟨h0,_⟩)
   ·exact .inl (S.jft k T)
   ·cases h0
  ·intro c y k o hy hd hs hβ q T
   obtain⟨b,x,C,rfl,G,rfl⟩:=P4 L c y hy
   rw[H2 L C] at hβ
   rcases T with T | ⟨_,b',x',o',hb',hx',hd',hs',hβ'⟩
   ·exact S.unJ G hd hs hβ _ T
   ·have:=S.sep b b' x x' k o o' G hx' hd hd' hs hβ hβ'
    subst this
    exact hdj b hb' C
 have RJ:Reps (JS J β h fz) (XM ρ ids β) (sub (Au h) ρ ids) w (AQ ρ args') vs:=Reps.ren L (fun b C=>him b (hB b C)) hA
 obtain⟨rv,rh,hF,h3⟩:=Axc hT h2
 have hcall:=hF _ _ w vs SJ RJ
 obtain⟨Y,h4⟩:=A5b h3
 obtain⟨hc2,h5⟩:=uc h4
 simp only[Bool.and_eq_true] at hc2
 obtain⟨hnal,hn16,hrv,V,hrin,U⟩:=hc2
 generalize hall:ES (Au rh) (Hz rv++(A6 100000 ids).map (·.2))=all at *
 generalize hnew:all.filter (fun b=>!Kp ((A6 100000 ids).map (·.2)) b)=new at *
 generalize hσ:Kg 0 ((A6 100000 ids).map (fun p=>(p.2,p.1))++A6 (nid d) new)=σ at *
 have hnal:=cP hnal
 have hrv:=Rc hrv
 have V:=Rc V
 have hrin:=Rc hrin
 have U:=Wv U
 have hn16:new.length≤16:=by simpa using hn16
 refine⟨_,_,h5,fun hfree=>Calls.mono hcall ?_⟩
 rintro e w' ⟨vc,J',β',rfl,F,hR⟩
 refine⟨vc,rfl,?_⟩
 have back:∀ b ∈ ids,σ (ρ b)=b:=by
  intro b C
  rw[←hσ,CQ,if_pos,←hρ]
  ·exact Adi C
  ·rw[List.map_map]
   have:=OM (d:=0) (l:=A6 100000 ids) (b:=b) (by rw[Lt];exact C)
   rw[hρ] at this
   exact this
 have ρall:∀ b ∈ ids,ρ b ∈ all:=by
  intro b C
  refine V _ ?_
  have:=OM (d:=0) (l:=A6 100000 ids) (b:=b) (by rw[Lt];exact C)
  rw[hρ] at this
  exact this
 have σout:∀ c ∈ all,c ∈ (A6 100000 ids).map (·.2)→σ c ∈ ids:=by
  intro c _ I
  rw[←hσ,CQ,if_pos (by rw[List.map_map];exact I)]
  have:=OM (d:=0) (l:=(A6 100000 ids).map (fun p=>(p.2,p.1))) (b:=c) (by rw[List.map_map];exact I)
  rw[List.map_map] at this
  have e:(A6 100000 ids).map ((fun x=>x.2)∘fun p=>(p.2,p.1))=ids:=Lt
  rw[e] at this
  exact this
 have newmem:∀ c ∈ new,c ∈ all∧c ∉ (A6 100000 ids).map (·.2):=by
  intro c I
  rw[←hnew] at I
  obtain⟨h6,h7⟩:=List.mem_filter.1 I
  refine⟨h6,fun hm=>?_⟩
  rw[M6.2 hm] at h7;simp at h7
 have σnew:∀ c ∈ new,σ c=Kg 0 (A6 (nid d) new) c:=by
  intro c I
  rw[←hσ,CQ,if_neg]
  rw[List.map_map];exact(newmem c I).2
 have allcases:∀ c ∈ all,c ∈ (A6 100000 ids).map (·.2)∨c ∈ new:=by
  intro c I
  by_cases hm:c ∈ (A6 100000 ids).map (·.2)
  ·exact .inl hm
  ·refine .inr ?_
   rw[←hnew]
   refine List.mem_filter.2 ⟨I,?_⟩
   cases hq:Kp ((A6 100000 ids).map (·.2)) c with
   | false=>rfl
   | true=>exact absurd (M6.1 hq) hm
 generalize hups:((A6 100000 ids).map fun p=>(p.1,(Au rh p.2).map (MV σ)))++(A6 (nid d) new).map (fun p=>(p.2,(Au rh p.1).map (MV σ)))=ups at *
 have keys:ups.map (·.1)=ids++(A6 (nid d) new).map (·.2):=by
  rw[←hups,List.map_append,List.map_map,List.map_map]
  congr 1
  exact Lt
 have newFree:∀ c ∈ (A6 (nid d) new).map (·.2),Au h c=none:=by
  intro c I
  refine hfree c (tV.2 (by rw[keys];exact List.mem_append.2 (.inr I))) ?_
  have:=Wx I
  unfold XF
  simp;omega
 have keysN:(ups.map (·.1)).Nodup:=by
  rw[keys,List.nodup_append]
  refine⟨TR L,FA,fun a ha b C e=>?_⟩
  subst e
  obtain⟨x,G,_⟩:=aliveH a ha
  rw[newFree a C] at G;cases G
 have upsOld:∀ b ∈ ids,(b,(Au rh (ρ b)).map (MV σ)) ∈ ups:=by
  intro b C
  rw[←hups]
  refine List.mem_append.2 (.inl (List.mem_map.2 ⟨(b,ρ b),?_,rfl⟩))
  rw[←hρ];exact cQ C
 have upsNew:∀ c ∈ new,(σ c,(Au rh c).map (MV σ)) ∈ ups:=by
  intro c I
  rw[←hups]
  refine List.mem_append.2 (.inr (List.mem_map.2 ⟨(c,σ c),?_,rfl⟩))
  rw[σnew c I];exact cQ I
 have J0:∃ J0:Bool→Nat→Prop,SimH J0 β' rh w'∧Rep J0 β' rh w' rv vc∧∀ o k,J0 o k→J o k∨Awn (XM ρ ids β) (sub (Au h) ρ ids) k∨w.heap.size≤k:=by
  cases he:Ar9 fz with
  | true =>
   have:=A1s.1 he
   subst this
   refine⟨J',F.sim,hR,fun o k T=>?_⟩
   rcases F.jup o k T with(T | ⟨_,b,x,o',C,_⟩) | T
   ·exact .inl T
   ·simp at C
   ·exact .inr T
  | false =>
   rw[he] at Y
   simp at Y
   refine⟨fun _=>J' false,F.sim.noOrg Y.2,Rep.noOrg Y.1 hR,fun o k T=>?_⟩
   rcases F.jup false k T with(h6 | ⟨h0,_⟩) | h6
   ·left
    cases o
    ·exact h6
    ·exact S.jft k h6
   ·cases h0
   ·exact .inr h6
 obtain⟨J0,S0,R0,jup0⟩:=J0
 have S1:=S0.ren U hrin
 have R1:=Rep.ren U hrv R0
 have M:=Step.merge (J:=J) (J0:=J0) (J1:=J0) (H:=At ups h) (D:=ids++(A6 (nid d) new).map (·.2)) (ids:=ids) S S1
  (fun b C=>Dp _ _ _ (by
   cases hi:Bj ups b with
   | false=>rfl
   | true=>exact absurd (by rw[←keys];exact tV.1 hi) C))
  (fun b x C G hd=>by
   rcases List.mem_append.1 C with C | C
   ·rw[Ot keysN (upsOld b C)] at G
    cases hq:Au rh (ρ b) with
    | none =>
     rw[hq] at G;simp at G
     obtain⟨y,_,rfl⟩:=G
     simp[A1r] at hd
    | some y =>
     rw[hq] at G;simp at G;subst G
     have:=IV (g:=Au rh) U (ρ b) y (ρall b C) hq
     rw[back b C] at this
     exact this
   ·obtain⟨c,I,rfl⟩:∃ c ∈ new,σ c=b:=by
     obtain⟨p,hp,rfl⟩:=List.mem_map.1 C
     have hp1:p.1 ∈ new:=o9 hp
     refine⟨p.1,hp1,?_⟩
     rw[σnew _ hp1]
     have:∀ {base:Nat} {l:List Nat} {p:Nat×Nat},l.Nodup→p ∈ A6 base l→Kg 0 (A6 base l) p.1=p.2:=by
      intro base l
      induction l generalizing base with
      | nil=>intro p _ hp;simp[A6] at hp
      | cons i r ih =>
       intro p hn hp
       rw[List.nodup_cons] at hn
       rw[A6] at hp ⊢
       rw[Kg]
       rcases List.mem_cons.1 hp with rfl | hp
       ·simp
       ·have:p.1 ∈ r:=o9 hp
        rw[iZ (fun e=>hn.1 (by rw[e];exact this))]
        exact ih hn.2 hp
     refine this ?_ hp
     rw[←hnew]
     exact TS (TR U)
    rw[Ot keysN (upsNew c I)] at G
    obtain⟨y,hy,_⟩:=hnal c I
    rw[hy] at G;simp at G;subst G
    exact IV (g:=Au rh) U c y (newmem c I).1 hy)
  (fun b x C=>by
   obtain⟨c,y,I,rfl,hy,rfl⟩:=P4 U b x C
   rcases allcases c I with hm | hm
   ·have h6:=σout c I hm
    have h7:ρ (σ c)=c:=by
     have:(all.map σ).Nodup:=U
     have e1:=back (σ c) h6
     have e2:=ρall (σ c) h6
     exact A5k this e2 I e1
    refine⟨List.mem_append.2 (.inl h6),?_⟩
    rw[Ot keysN (upsOld (σ c) h6),h7,hy];rfl
   ·refine⟨List.mem_append.2 (.inr ?_),?_⟩
    ·rw[σnew c hm]
     exact OM (by rw[Lt];exact hm)
    ·rw[Ot keysN (upsNew c hm),hy];rfl)
  (fun b x C hni G=>by
   rcases List.mem_append.1 C with C | C
   ·exact hni C
   ·rw[newFree b C] at G;cases G)
  (fun b x C G=>by
   rw[Ot keysN (upsOld b C)]
   cases hq:Au rh (ρ b) with
   | none=>exact⟨A1r x,⟨by simp[G],rfl⟩,.inl rfl⟩
   | some y =>
    cases hd:y.dead with
    | true=>have:=F.live _ _ hq;rw[hd] at this;cases this
    | false =>
     have e0:=IV (g:=Au h) L b x C G
     obtain⟨⟨e1,em⟩,e2,e3,e4⟩:=F.outs (ρ b) _ y e0 hq hd
     refine⟨MV σ y,⟨by simp,em⟩,.inr ?_⟩
     refine⟨e4,?_,e2,fun hmx=>?_⟩
     ·have:=H2 (β:=β') U (ρall b C)
      rw[back b C] at this
      rw[this,e1]
      exact H2 L C
     ·rw[Oq,e3 hmx,Oq])
  (fun b C=>List.mem_append.2 (.inl C))
  F.os F.tape F.output F.size
  (fun k hk hm=>F.frame k hk (fun hm'=>hm (Adj L hm')))
  (fun k hm hk=>Adj L (F.wr k (Ass U hm) hk))
  (fun o k T=>by
   rcases jup0 o k T with T | T | T
   ·exact .inl T
   ·exact .inr (.inl (Adj L T))
   ·exact .inr (.inr T))
  F.sizes
 exact⟨_,_,M.1,Rep.ext M.2 R1⟩
theorem Axg {P:Program} {muts:Nat→List Bool} {T:List (Nat×Tw)} {hs:Hints} {N f:Nat} {k:LA} {h:Am} {G:AV} {h':Am} (hT:Ade P T) (hm:P.follows .mixedOrders=true)
  (M:XG P muts T hs N f k h (fun v h'=>some (v,h'))=some (G,h')):Bhc P f k h G h':=by
 unfold XG at M
 split at M
 ·simp at M
 ·rename_i fn hfn
  split at M
  ·simp at M
  ·rename_i c hc
   simp only at M
   obtain⟨U,h1⟩:=uc M
   simp only[Bool.and_eq_true] at U
   obtain⟨L,D⟩:=U
   have L:k.length≤fn.ntmps:=by simpa using L
   intro J β w vs S hv
   have hvl:vs.length=k.length:=((C9).1 hv).1
   refine calls_of_wp hfn hc ?_
   have roots:∀ {h:Am} {b:Nat} {x:Blk},Ab1 h=true→Au h b=some x→Acl b=true:=by
    intro h
    induction h with
    | nil=>intro b x _ C;simp[Au] at C
    | cons p r ih =>
     intro b x hr C
     obtain⟨i,y⟩:=p
     rw[Ab1] at hr
     simp at hr
     rw[Au] at C
     cases hi:Nat.beq i b with
     | true=>have:=Nat.eq_of_beq_eq_true hi;subst this;exact hr.1
     | false=>rw[hi] at C;exact ih hr.2 (by simpa using C)
   have sgetI:∀ {k:LA} {j i:Nat},G3 (Aon j k) i=if j≤i then (k[i - j]?).getD .undef else .undef:=by
    intro k
    induction k with
    | nil=>intro j i;simp[Aon,G3]
    | cons v r ih =>
     intro j i
     rw[Aon,G3]
     cases hi:Nat.beq j i with
     | true=>have:=Nat.eq_of_beq_eq_true hi;subst this;simp
     | false =>
      have:=AR hi
      simp only[cond_false]
      rw[ih]
      by_cases V:j+1≤i
      ·rw[if_pos V,if_pos (by omega),show i - j=(i - (j+1))+1 by omega];simp
      ·rw[if_neg V]
       by_cases F:j≤i
       ·omega
       ·rw[if_neg F]
   have I:Inv ⟨J,β,h,w⟩ fn.ntmps J β { s:=Aon 0 k,h:=h } { tmps:=vs.toArray++Array.replicate (fn.ntmps - vs.toArray.size) undef,defers:=[] } w:=by
    refine⟨S,⟨fun i v hi=>?_,fun i hi=>?_⟩,?_,rfl,rfl,rfl,rfl,Nat.le_refl _,fun _ _ _=>rfl,fun _ hm _=>hm,fun _ _ hj=>hj,fun _ _ hj=>.inl hj,fun _=>Nat.le_refl _,?_,?_,?_⟩
    ·rw[sgetI,if_pos (Nat.zero_le _)]
     by_cases Y:i<k.length
     ·have F:k[i - 0]?=some k[i]:=by simp[Y]
      rw[F]
      have h3:vs[i]?=some v:=by
       rw[Array.getElem?_append_left (by simp;omega)] at hi
       simpa using hi
      exact((C9).1 hv).2 i _ _ (by simp[Y]) h3
     ·have F:k[i - 0]?=none:=by simp;omega
      rw[F];simp[Rep]
    ·simp at hi
     rw[sgetI,if_pos (Nat.zero_le _)]
     have F:k[i - 0]?=none:=by simp;omega
     rw[F];rfl
    ·simp;omega
    ·intro b x0 C;exact(Add.1 (roots D C)).2
    ·intro b x0 C;exact(Add.1 (roots D C)).1
    ·intro b x0 x C hx hd
     change Au h b=some x0 at C
     change Au h b=some x at hx
     rw[C] at hx;simp at hx;subst hx
     exact⟨⟨rfl,rfl⟩,rfl,fun _=>rfl,hd⟩
   have fin:∀ st' a' w' J' β',Inv ⟨J,β,h,w⟩ fn.ntmps J' β' st' a' w'→CM { P:=P,nt:=fn.ntmps,muts:=muts,nils:=hs.nils,free:=hs.free,cob:=hs.cob,tbl:=T } fn hs.modes (h.map (·.1)) (fun v h'=>some (v,h')) st'=some (G,h') →
     a'.defers=[]∧∃ v,(results fn a'.tmps).run P w'=.ok v w'∧∃ vc J' β',Ending.returned v=.returned vc∧FDone ⟨J,β,h,w⟩ J' β' h' w'∧Rep J' β' h' w' G vc:=by
    intro st' a' w' J' β' I' F
    obtain⟨res2,h2',vc,J2,β2,h3,h4,h5,h6⟩:=Alu I' F
    simp at h3
    obtain⟨rfl,rfl⟩:=h3
    exact⟨I'.defers,vc,h4,vc,J2,β2,rfl,h5,h6⟩
   exact Axb (E:={ P:=P,nt:=fn.ntmps,muts:=muts,nils:=hs.nils,free:=hs.free,cob:=hs.cob,tbl:=T }) (Baj hT) hm c I h1 fin (fun _ _ _ _ _ _ _ F=>by simp at F) fin
end Gx

namespace Gx
open Go
section
variable {R R':Type}
theorem A1t (E:Env) (ops:Array Oper) (o:Oper) (st:St) (k:St→Foot→O R) (g:R→Option R'):(Awk E ops o st k).bind g=Awk E ops o st fun st f=>(k st f).bind g:=by
 rw[gp,gp,Option.bind_assoc]
theorem Asu (ops:Array Oper) (o:Oper) (st:St) (k:St→O R) (g:R→Option R'):(tM ops o st k).bind g=tM ops o st fun st=>(k st).bind g:=by
 unfold tM
 split
 ·rfl
 ·split
  ·rfl
  ·split
   ·rw[A1]
   ·rfl
theorem Adk (E:Env) (ops:Array Oper) (g:R→Option R'):∀ (l:List Oper) (st:St) (tr:List Foot) (k:St→List Foot→O R),(Aci E ops l st tr k).bind g=Aci E ops l st tr fun st tr=>(k st tr).bind g
 | [],st,tr,k=>rfl
 | o::r,st,tr,k=>by
  rw[Aci,Aci,Asu]
  congr 1;funext st
  rw[A1t]
  congr 1;funext st f
  exact Adk E ops g r st (f::tr) k
theorem Alx (E:Env) (roots:List Nat) (ops:Array Oper) (draw:Bool) (st:St) (k:St→O R) (g:R→Option R'):(gc E roots ops draw st k).bind g=gc E roots ops draw st fun st=>(k st).bind g:=by
 unfold gc
 rw[Adk]
 congr 1;funext st tr
 rw[A1,Option.bind_assoc];rfl
theorem A1u (E:Env) (roots:List Nat) (H:Hint) (f:St→O R) (g:R→Option R') (st:St):(A6v E roots H f st).bind g=A6v E roots H (fun st=>(f st).bind g) st:=by
 unfold A6v
 rw[A1,Option.bind_assoc,IR,IR]
theorem wK (cn:St→Option St) (C:(St→O R)→St→O R) (D:(St→Option R')→St→Option R') (g:R→Option R') (F:∀ k st,(C k st).bind g=D (fun st=>(k st).bind g) st):∀ n st,(cB cn C n st).bind g=cB cn D n st
 | 0,st=>rfl
 | n+1,st=>by
  rw[cB,cB,F]
  congr 1;funext st
  rw[Option.bind_assoc]
  congr 1;funext st
  exact wK cn C D g F n st
theorem Axh (E:Env) (roots:List Nat) (N:Nat) (g:R→Option R'):∀ (c:Code) (H:Hint) (k:St→O R) (x:Nat→St→O R) (r:St→O R) (st:St),
  (G5 E roots N c H k x r st).bind g=G5 E roots N c H (fun st=>(k st).bind g) (fun j st=>(x j st).bind g) (fun st=>(r st).bind g) st:=by
 intro c
 induction c with
 | skip=>intro H k x r st;rfl
 | region id ops draw=>intro H k x r st;exact Alx ..
 | seq a b C D =>
  intro H k x r st
  rw[G5,G5,C]
  congr 1;funext st
  rw[A1u]
  congr 1;funext st
  exact D ..
 | cond c a b C D =>
  intro H k x r st
  rw[G5,G5]
  split
  ·rw[A1,C,D]
  ·rfl
 | block id c F =>
  intro H k x r st
  rw[G5,G5,F]
  simp only[A1]
 | loop c F =>
  intro H k x r st
  rw[G5,G5,Option.bind_assoc,IR,IR]
  congr 1;funext st
  exact wK _ _ _ g (fun k st=>F ..) N st
 | exit id=>intro H k x r st;rfl
 | ret=>intro H k x r st;rfl
 | rangeFunc=>intro H k x r st;rfl
 | scope=>intro H k x r st;rfl
 | label=>intro H k x r st;rfl
 | goto=>intro H k x r st;rfl
 | refuse=>intro H k x r st;rfl
theorem NC (E:Env) (st:St) (g:R→Option R'):∀ (l:List ResultVar) (C:LA) (k:LA→O R),(Px E st l C k).bind g=Px E st l C fun l=>(k l).bind g
 | [],C,k=>rfl
 | .tmp t::r,C,k=>by rw[Px,Px];exact NC E st g r _ k
 | .cell a t::r,C,k=>by
  rw[Px,Px,TP,TP (R:=R'),Option.bind_assoc]
  congr 1;funext v
  exact NC E st g r _ k
theorem Aly (E:Env) (fn:Func) (modes:List (Nat×Nat)) (outs:List Nat) (k:AV→Am→O R) (g:R→Option R') (st:St):(CM E fn modes outs k st).bind g=CM E fn modes outs (fun v h=>(k v h).bind g) st:=by
 unfold CM
 rw[NC]
 congr 1;funext l
 rw[Option.bind_assoc]
 congr 1;funext q
 rw[A1];rfl
theorem A1v (P:Program) (muts:Nat→List Bool) (T:List (Nat×Tw)) (hs:Hints) (N f:Nat) (C:LA) (h:Am) (k:AV→Am→O R) :
  XG P muts T hs N f C h k=(XG P muts T hs N f C h fun v h=>some (v,h)).bind fun p=>k p.1 p.2:=by
 unfold XG
 split
 ·rfl
 ·split
  ·rfl
  ·simp only
   rw[A1,Axh]
   simp only[Aly]
   rfl
structure Cut (R:Type) where
 c:Code
 H:Hint
 k:St→O R
 x:Nat→St→O R
 r:St→O R
noncomputable def Bew (E:Env) (roots:List Nat) (N:Nat):List Nat→Code→Hint→(St→O R)→(Nat→St→O R)→(St→O R)→List (St→O R)→Cut R
 | [],c,H,k,x,r,_=>⟨c,H,k,x,r⟩
 | d::p,.seq a b,H,k,x,r,ks=>cond (Nat.beq d 0) (Bew E roots N p a H.a (A6v E roots H fun st=>G5 E roots N b H.b k x r st) x r ks) (Bew E roots N p b H.b k x r ks)
 | d::p,.cond _ a b,H,k,x,r,ks=>cond (Nat.beq d 0) (Bew E roots N p a H.a k x r ks) (Bew E roots N p b H.b k x r ks)
 | _::p,.block id c,H,k,x,r,ks=>Bew E roots N p c H.a k (fun j st=>cond (Nat.beq j id) (k st) (x j st)) r ks
 | _::p,.loop c,H,_,x,r,q::ks=>Bew E roots N p c H.a (fun st=>(oO E H.live roots st).bind q) x r ks
 | _::_,c,H,k,x,r,_=>⟨c,H,k,x,r⟩
def Axi:Code→Code
 | .loop c=>c
 | c=>c
structure CutB (R:Type) where
 E:Env
 roots:List Nat
 N:Nat
 c:Cut R
noncomputable def A8 (q:CutB R) (st:St):O R:=G5 q.E q.roots q.N q.c.c q.c.H q.c.k q.c.x q.c.r st
noncomputable def Bak (q:CutB R) (st:St):O R:=Bac true (fun st=>G5 q.E q.roots q.N q.c.c q.c.H q.c.k q.c.x q.c.r st) st
theorem Ar (q:CutB R) (st:St):Bak q st=A8 q st:=by unfold Bak;rw[IR];rfl
noncomputable def Ap (q:CutB R) (n:Nat) (st:St):O R:=cB (oO q.E q.c.H.live q.roots) (fun k st=>G5 q.E q.roots q.N (Axi q.c.c) q.c.H.a k q.c.x q.c.r st) n st
noncomputable def Bd5 (q:CutB R) (st:St):O R:=Bac true (cB (oO q.E q.c.H.live q.roots) (fun k st=>G5 q.E q.roots q.N (Axi q.c.c) q.c.H.a k q.c.x q.c.r st) q.N) st
theorem Aj (q:CutB R) (st:St):Bd5 q st=Ap q q.N st:=by unfold Bd5;rw[IR];rfl
def Bex (fn:Func):Code:=match fn.body with | some c=>c | none=>.skip
def Bd6:List (Nat×List Bool)→Nat→List Bool
 | [],_=>[]
 | (i,l)::r,f=>cond (Nat.beq i f) l (Bd6 r f)
end
end Gx

namespace Gx
open Go
abbrev KF (R:Type):=AV→Am→Option R
abbrev Ef:=List (Nat×Tw)
abbrev hL:Hint:=.leaf
abbrev hS (a b:Hint):Hint:=.node [] a b
abbrev hP (l:List Nat) (a:Hint):Hint:=.node l a .leaf
abbrev hJ (l:List Nat) (a b:Hint):Hint:=.join l a b
def Bck (P:Program) (muts:Nat→List Bool) (nt:Nat) (hs:Hints) (T:List (Nat×Tw)):Env:={ P,nt,muts,nils:=hs.nils,free:=hs.free,cob:=hs.cob,tbl:=T }
noncomputable def Bhv {R:Type} (P:Program) (muts:Nat→List Bool) (fn:Func) (hs:Hints) (T:List (Nat×Tw)) (roots:List Nat) (N:Nat) (F:KF R) (p:List Nat) (ks:List (St→O R)):CutB R :=
 ⟨Bck P muts fn.ntmps hs T,roots,N,Bew (Bck P muts fn.ntmps hs T) roots N p (Bex fn) hs.H (CM (Bck P muts fn.ntmps hs T) fn hs.modes roots F) (fun _ _=>none) (CM (Bck P muts fn.ntmps hs T) fn hs.modes roots F) ks⟩
def iv (n:Int):AV:=.int .i64 n
def op (k:Nat):AV:=.optr (300000+k) 0
def Bhr:Nat→List Blk→Am
 | _,[]=>[]
 | i,b::r=>(i,b)::Bhr (i+1) r
def hq (l:List Blk):Am:=Bhr 300000 l
def bQ (sz:Nat) (c:LA):Blk:=⟨false,false,true,false,sz,c,false⟩
def bP (t:Bool) (sz:Nat) (c:LA):Blk:=⟨false,false,true,t,sz,c,false⟩
def bT (sz:Nat) (c:LA):Blk:=⟨false,true,true,false,sz,c,false⟩
def An {R:Type} (kd:IntKind) (c:LA) (k:Int→O R):O R:=(c.head?).bind fun x=>(va kd x).bind k
def ON {R:Type} (c:LA) (k:Bool→O R):O R:=(c.head?).bind fun x=>(asBool x).bind k
def Awd {R:Type} (c:LA) (k:List UInt8→O R):O R:=(c.head?).bind fun x=>(vd x).bind k
def Co {R:Type} (sz:Nat) (c:LA) (k:LA→Nat→O R):O R:=(c.head?).bind fun x=>(A6r sz x).bind fun p=>k p.1 p.2
def A1w (k:IntKind) (a b:Int):Int:=k.wrap ((BitVec.ofInt k.bits a &&& BitVec.ofInt k.bits b).toNat:Int)
def To (k:IntKind) (a b:Int):Int:=k.wrap ((BitVec.ofInt k.bits a ||| BitVec.ofInt k.bits b).toNat:Int)
def Bey (P:Program) (muts:Nat→List Bool) (N f:Nat) (run:(R:Type)→Nat→LA→Am→KF R→O R):Prop:=∀ {R Q:Type} (args:LA) (h:Am) (k:KF R) (j:KF Q),
 (∃ T hs,Ade P T∧run R N args h k=XG P muts T hs N f args h k∧run Q N args h j=XG P muts T hs N f args h j)∨(run R N args h k=none∧run Q N args h j=none)
theorem Ay {P:Program} {muts:Nat→List Bool} {T:List (Nat×Tw)} {hs:Hints} {N f:Nat} {C:LA} {h:Am} {R Q:Type} {k:KF R} {j:KF Q} {a:O R} {b:Option Q} {p:Prop}
  (D:XG P muts T hs N f C h k=a) (F:XG P muts T hs N f C h j=b) (hT:Ade P T):(∃ T hs,Ade P T∧a=XG P muts T hs N f C h k∧b=XG P muts T hs N f C h j)∨p:=.inl ⟨T,hs,hT,D.symm,F.symm⟩
theorem A0 {R Q:Type} {p:Prop}:p∨((none:O R)=none∧(none:Option Q)=none):=.inr ⟨rfl,rfl⟩
def Az {P:Program} {muts:Nat→List Bool} {N f:Nat} {run:(R:Type)→Nat→LA→Am→KF R→O R} (H:Bey P muts N f run):Tw:=⟨fun {R} args h k=>run R N args h k,fun args h k=>by
 rcases H args h k (fun v h=>some (v,h)) with⟨T,hs,_,e1,e2⟩ | ⟨e1,e2⟩
 ·rw[e1,e2];exact A1v ..
 ·rw[e1,e2];rfl⟩
theorem Bhd {P:Program} {muts:Nat→List Bool} {N f:Nat} {run:(R:Type)→Nat→LA→Am→KF R→O R} (H:Bey P muts N f run) (D:P.follows .mixedOrders=true):Bcj P f (Az H):=by
 intro k h F h' C
 change run _ N k h _=_ at C
 rcases H k h (fun v h=>some (v,h)) (fun v h=>some (v,h)) with⟨T,hs,hT,e1,_⟩ | ⟨e1,_⟩
 ·rw[e1] at C;exact Axg hT D C
 ·rw[e1] at C;cases C
theorem Bn {α δ:Type} (f:α→δ) {a k:α} (C:a=k):f a=f k:=by rw[C]
theorem cR {α β δ:Type} (f:α→β→δ) {a k:α} {b C:β} (D:a=k) (F:b=C):f a b=f k C:=by rw[D,F]
theorem Bf8 {α β γ δ:Type} (f:α→β→γ→δ) {a k:α} {b C:β} {c c':γ} (D:a=k) (F:b=C) (G:c=c'):f a b c=f k C c':=by rw[D,F,G]
theorem Bhw {α β γ ε ζ η δ:Type} (f:α→β→γ→ε→ζ→η→δ) {a k:α} {b C:β} {c c':γ} {d d':ε} {e e':ζ} {g g':η} (D:a=k) (F:b=C) (G:c=c') (I:d=d') (L:e=e') (M:g=g'):f a b c d e g=f k C c' d' e' g':=by rw[D,F,G,I,L,M]
end Gx

namespace Gx
open Go
theorem wrap_u8 (a:Nat):IntKind.wrap .u8 (a:Int)=((a%256:Nat):Int):=by rw[IntKind.wrap_u8];omega
theorem wrap_u32 (a:Nat) (h:a<4294967296):IntKind.wrap .u32 (a:Int)=(a:Int):=IntWalk.u32_in _ (by omega)
theorem A65 (a:Nat):IntKind.wrap .u32 (a:Int)=((a%4294967296:Nat):Int):=by rw[IntKind.wrap_u32];omega
theorem Y0 (a:Int) (h:-9223372036854775808≤a∧a≤9223372036854775807):IntKind.wrap .i64 a=a:=IntWalk.i64_in _ h
theorem wrap_u64 (a:Nat) (h:a<18446744073709551616):IntKind.wrap .u64 (a:Int)=(a:Int):=IntWalk.u64_in _ (by omega)
theorem gt (w a:Nat):BitVec.ofInt w (a:Int)=BitVec.ofNat w a:=by simp
theorem A1x {k:IntKind} (hs:k.signed=false) {a b:Nat} (D:a<2 ^ k.bits) (C:b<2 ^ k.bits):A1w k a b=((a &&& b:Nat):Int):=by
 unfold A1w
 rw[gt,gt]
 have F:(BitVec.ofNat k.bits a &&& BitVec.ofNat k.bits b).toNat=a &&& b:=by
  rw[BitVec.toNat_and,BitVec.toNat_ofNat,BitVec.toNat_ofNat,Nat.mod_eq_of_lt D,Nat.mod_eq_of_lt C]
 rw[F]
 have G:a &&& b<2 ^ k.bits:=Nat.and_lt_two_pow _ C
 unfold IntKind.wrap
 simp only[hs,Bool.false_and,Bool.false_eq_true,if_false]
 have:(2 ^ k.bits:Int)=((2 ^ k.bits:Nat):Int):=by simp
 rw[this,←Int.natCast_emod,Nat.mod_eq_of_lt G]
theorem Aoy {k:IntKind} (hs:k.signed=false) {a b:Nat} (C:a<2 ^ k.bits) (D:b<2 ^ k.bits):To k a b=((a ||| b:Nat):Int):=by
 unfold To
 rw[gt,gt]
 have F:(BitVec.ofNat k.bits a ||| BitVec.ofNat k.bits b).toNat=a ||| b:=by
  rw[BitVec.toNat_or,BitVec.toNat_ofNat,BitVec.toNat_ofNat,Nat.mod_eq_of_lt C,Nat.mod_eq_of_lt D]
 rw[F]
 have G:a ||| b<2 ^ k.bits:=Nat.or_lt_two_pow C D
 unfold IntKind.wrap
 simp only[hs,Bool.false_and,Bool.false_eq_true,if_false]
 have:(2 ^ k.bits:Int)=((2 ^ k.bits:Nat):Int):=by simp
 rw[this,←Int.natCast_emod,Nat.mod_eq_of_lt G]
theorem Uk (a k:Nat):Int.fdiv (a:Int) (2 ^ k)=((a/2 ^ k:Nat):Int):=by
 have:(2 ^ k:Int)=((2 ^ k:Nat):Int):=by simp
 rw[this,Int.fdiv_eq_ediv_of_nonneg (a:Int) (Int.natCast_nonneg (2 ^ k))]
 rfl
theorem A4 {R:Type} {k:IntKind} {n:Int} {r:LA} {f:Int→O R}:An k (.int k n::r) f=f n:=by simp[An,va,Uh]
theorem Aa {i n:Nat} (h:i<n):Ac (i:Int) n=true:=by simp[Ac];omega
end Gx

namespace Gx
def val:List Nat→Nat
 | []=>0
 | x::r=>x+4294967296*val r
def Al (l:List Nat):Prop:=∀ x ∈ l,x<4294967296
def Axj:Nat→Nat→List Nat
 | 0,_=>[]
 | f+1,n=>if n=0 then [] else n%4294967296::Axj f (n/4294967296)
def As (n:Nat):List Nat:=Axj n n
theorem A5l:∀ (f n:Nat),n≤f→∀ g,n≤g→Axj f n=Axj g n
 | 0,n,h,g,_=>by
  have:n=0:=by omega
  subst this;cases g<;>simp[Axj]
 | f+1,n,h,g,C=>by
  by_cases k:n=0
  ·subst k;cases g<;>simp[Axj]
  ·cases g with
   | zero=>omega
   | succ g=>simp only[Axj,k,if_false];rw[A5l f _ (by omega) g (by omega)]
theorem Eu:As 0=[]:=rfl
theorem TT {n:Nat} (h:n≠0):As n=n%4294967296::As (n/4294967296):=by
 unfold As
 cases n with
 | zero=>omega
 | succ n=>simp only[Axj,h,if_false];rw[A5l n _ (by omega) ((n+1)/4294967296) (by omega)]
theorem Ak:∀ n,val (As n)=n:=by
 intro n
 induction n using Nat.strongRecOn with
 | _ n k =>
  by_cases h:n=0
  ·subst h;rfl
  ·rw[TT h,val,k _ (by omega)];omega
theorem Ad:∀ n,Al (As n):=by
 intro n
 induction n using Nat.strongRecOn with
 | _ n C =>
  by_cases h:n=0
  ·subst h;intro x k;simp[Eu] at k
  ·rw[TT h];intro x k
   simp at k
   rcases k with rfl | k
   ·omega
   ·exact C _ (by omega) x k
theorem Wy:Al []:=by intro x k;simp at k
theorem D9 {x:Nat} {r:List Nat}:Al (x::r)↔x<4294967296∧Al r:=by simp[Al]
theorem o_ {a b:List Nat}:Al (a++b)↔Al a∧Al b:=by simp[Al,or_imp,forall_and]
theorem Cv {a:List Nat} (h:Al a) (n:Nat):Al (a.take n):=fun x k=>h x (List.mem_of_mem_take k)
theorem TU {a:List Nat} (h:Al a) (n:Nat):Al (a.drop n):=fun x k=>h x (List.mem_of_mem_drop k)
theorem Bd {a:List Nat} (h:Al a) {i:Nat} (hi:i<a.length):a[i]<4294967296:=h _ (List.getElem_mem hi)
theorem C4 {a:List Nat} (h:Al a) {v:Nat} (D:v<4294967296) (i:Nat):Al (a.set i v):=fun x C=>by
 rcases List.mem_or_eq_of_mem_set C with k | k
 ·exact h x k
 ·omega
theorem C2 (n:Nat):Al (List.replicate n 0):=fun x k=>by simp at k;omega
theorem Sz:∀ (a b:List Nat),val (a++b)=val a+4294967296 ^ a.length*val b
 | [],b=>by simp[val]
 | x::r,b=>by
  simp only[List.cons_append,val,List.length_cons,Sz r b,Nat.pow_succ]
  rw[Nat.mul_add,←Nat.add_assoc,←Nat.mul_assoc];congr 2;rw[Nat.mul_comm]
theorem Ez:∀ n,val (List.replicate n 0)=0
 | 0=>rfl
 | n+1=>by rw[List.replicate_succ,val,Ez n]
theorem Bo:∀ {a:List Nat},Al a→val a<4294967296 ^ a.length
 | [],_=>by simp[val]
 | x::r,h=>by
  have k:=D9.1 h
  have C:=Bo k.2
  rw[val,List.length_cons,Nat.pow_succ]
  omega
theorem A1y (a:List Nat) (x:Nat):val (a++[x])=val a+4294967296 ^ a.length*x:=by rw[Sz];simp[val]
theorem mW {n:Nat} (h:n≠0):As n≠[]:=by rw[TT h];simp
theorem Adl {n:Nat}:As n=[]↔n=0:=by
 constructor
 ·intro h;by_cases k:n=0;exact k;exact absurd h (mW k)
 ·intro h;rw[h];rfl
theorem Bz {n:Nat}:(As n).length=0↔n=0:=by rw[List.length_eq_zero_iff,Adl]
theorem Bx:∀ {l:List Nat},Al l→l=As (val l)++List.replicate (l.length - (As (val l)).length) 0∧(As (val l)).length≤l.length
 | [],_=>by simp[val,Eu]
 | x::r,h=>by
  have D:=D9.1 h
  obtain⟨k,F⟩:=Bx D.2
  rw[val]
  by_cases C:x+4294967296*val r=0
  ·have G:x=0:=by omega
   have hr:val r=0:=by omega
   rw[C,Eu]
   rw[hr,Eu] at k
   simp at k
   subst G
   refine⟨?_,by simp⟩
   rw[List.nil_append,List.length_nil,Nat.sub_zero,List.length_cons,List.replicate_succ,←k]
  ·rw[TT C,show(x+4294967296*val r)%4294967296=x by omega,show(x+4294967296*val r)/4294967296=val r by omega]
   refine⟨?_,by simp;exact F⟩
   rw[List.cons_append,List.length_cons,List.length_cons,Nat.add_sub_add_right,←k]
theorem Adm:∀ (n:Nat) (h:As n≠[]),(As n).getLast h≠0:=by
 intro n
 induction n using Nat.strongRecOn with
 | _ n D =>
  intro h
  have F:n≠0:=fun e=>h (by rw[e];rfl)
  have e:=TT F
  by_cases C:n/4294967296=0
  ·rw[C,Eu] at e
   have:n<4294967296:=by omega
   simp[e];omega
  ·have k:=mW C
   have:=D _ (by omega) k
   have G:(As n).getLast h=(As (n/4294967296)).getLast k:=by
    simp only[e];rw[List.getLast_cons k]
   rw[G];exact this
theorem Bez:∀ {l:List Nat},Al l→(∀ h:l≠[],l.getLast h≠0)→As (val l)=l:=by
 intro l h I
 obtain⟨C,L⟩:=Bx h
 by_cases F:l.length - (As (val l)).length=0
 ·rw[F] at C;simpa using C.symm
 ·exfalso
  obtain⟨k,F⟩:=Nat.exists_eq_succ_of_ne_zero F
  rw[F,List.replicate_succ',←List.append_assoc] at C
  have D:l≠[]:=by intro e;rw[e] at C;simp at C
  apply I D
  have G:l.getLast?=some 0:=by rw[C,List.getLast?_append];rfl
  rw[List.getLast?_eq_some_getLast D] at G
  simpa using G
theorem E5 {n k:Nat} (h:n<4294967296 ^ k):(As n).length≤k:=by
  induction k generalizing n with
  | zero => have : n = 0 := by simpa using h
            subst this;simp[Eu]
  | succ k D =>
    by_cases C:n=0
    · subst C;simp[Eu]
    · rw[TT C,List.length_cons]
      have:n/4294967296<4294967296 ^ k:=by
        rw[Nat.pow_succ] at h
        exact Nat.div_lt_of_lt_mul (by rw[Nat.mul_comm];exact h)
      have:=D this
      omega
theorem Cd {a b:Nat} (h:a≤b):(As a).length≤(As b).length:=by
 apply E5
 have:=Bo (Ad b)
 rw[Ak] at this
 omega
end Gx

namespace Gx
theorem Aoz {U V U3 V2 P d:Nat} (hV:V2*P≤V) (hU:U<(U3+1)*P) (h:U3<d*V2) (k:0<V):U/V<d:=by
 rw[Nat.div_lt_iff_lt_mul k]
 have D:(U3+1)*P≤d*V2*P:=Nat.mul_le_mul_right _ h
 have C:d*(V2*P)≤d*V:=Nat.mul_le_mul_left _ hV
 rw[←Nat.mul_assoc] at C
 omega
theorem Ao0 {U V U3 V2 P d:Nat} (hV:V<(V2+1)*P) (hU:U3*P≤U) (h:d*V2≤U3) (C:d≤V2+1) (k:0<V):d≤U/V+1:=by
 cases d with
 | zero=>exact Nat.zero_le _
 | succ d =>
  have:d≤U/V:=by
   rw[Nat.le_div_iff_mul_le k]
   have D:(d+1)*V2*P≤U3*P:=Nat.mul_le_mul_right _ h
   have F:d*V≤d*((V2+1)*P):=Nat.mul_le_mul_left _ (by omega)
   have G:d*((V2+1)*P)≤(d+1)*V2*P:=by
    rw[←Nat.mul_assoc]
    apply Nat.mul_le_mul_right
    rw[Nat.mul_add,Nat.add_mul];omega
   omega
  omega
theorem Axk {a b u v s t x y:Nat} (D:x+v*b=u*a) (F:y+s*a=t*b) (k:u*t=v*s+1):Nat.gcd x y=Nat.gcd a b:=by
 have e1:t*x+v*y=a:=by
  have C:t*x+t*v*b=t*u*a:=by rw[←Nat.mul_assoc t u a |>.symm,Nat.mul_assoc t v b,←Nat.mul_add,D]
  have G:v*y+v*s*a=v*t*b:=by rw[Nat.mul_assoc,Nat.mul_assoc,←Nat.mul_add,F]
  have I:t*u*a=v*s*a+a:=by rw[Nat.mul_comm t u,k,Nat.add_mul,Nat.one_mul]
  have L:t*v*b=v*t*b:=by rw[Nat.mul_comm t v]
  omega
 have M:s*x+u*y=b:=by
  have C:s*x+s*v*b=s*u*a:=by rw[Nat.mul_assoc,Nat.mul_assoc,←Nat.mul_add,D]
  have G:u*y+u*s*a=u*t*b:=by rw[Nat.mul_assoc,Nat.mul_assoc,←Nat.mul_add,F]
  have I:u*t*b=v*s*b+b:=by rw[k,Nat.add_mul,Nat.one_mul]
  have L:s*u*a=u*s*a:=by rw[Nat.mul_comm s u]
  have S:s*v*b=v*s*b:=by rw[Nat.mul_comm s v]
  omega
 apply Nat.dvd_antisymm
 ·apply Nat.dvd_gcd
  ·rw[←e1];exact Nat.dvd_add (Nat.dvd_mul_left_of_dvd (Nat.gcd_dvd_left x y) t) (Nat.dvd_mul_left_of_dvd (Nat.gcd_dvd_right x y) v)
  ·rw[←M];exact Nat.dvd_add (Nat.dvd_mul_left_of_dvd (Nat.gcd_dvd_left x y) s) (Nat.dvd_mul_left_of_dvd (Nat.gcd_dvd_right x y) u)
 ·apply Nat.dvd_gcd
  ·have C:Nat.gcd a b∣x+v*b:=by rw[D];exact Nat.dvd_mul_left_of_dvd (Nat.gcd_dvd_left a b) u
   exact(Nat.dvd_add_left (Nat.dvd_mul_left_of_dvd (Nat.gcd_dvd_right a b) v)).1 C
  ·have C:Nat.gcd a b∣y+s*a:=by rw[F];exact Nat.dvd_mul_left_of_dvd (Nat.gcd_dvd_right a b) t
   exact(Nat.dvd_add_left (Nat.dvd_mul_left_of_dvd (Nat.gcd_dvd_left a b) s)).1 C
theorem IW {a b x y P u v w:Nat} (k:x*P≤a) (D:b<(y+1)*P) (C:u*x=w+v*y) (F:v≤w):v*b≤u*a:=by
 have G:u*(x*P)≤u*a:=Nat.mul_le_mul_left _ k
 have I:v*b≤v*((y+1)*P):=Nat.mul_le_mul_left _ (by omega)
 have L:v*((y+1)*P)≤u*(x*P):=by
  rw[←Nat.mul_assoc,←Nat.mul_assoc]
  apply Nat.mul_le_mul_right
  rw[C,Nat.mul_add];omega
 omega
end Gx

namespace Gx
open Go
section
variable {R:Type}
def Ae (l:List Nat):LA:=l.map fun n:Nat=>.int .u32 (n:Int)
theorem DY (x:Nat) (l:List Nat):Ae (x::l)=.int .u32 (x:Int)::Ae l:=rfl
theorem Ca (l:List Nat):(Ae l).length=l.length:=by simp[Ae]
theorem A66 (l:List Nat) (n:Nat):(Ae l).drop n=Ae (l.drop n):=by simp[Ae,List.map_drop]
theorem Wz (l:List Nat) (n:Nat):(Ae l).take n=Ae (l.take n):=by simp[Ae,List.map_take]
theorem oa (l:List Nat) (j:Nat) (v:Nat):List.set (Ae l) j (.int .u32 (v:Int))=Ae (l.set j v):=by simp[Ae,List.map_set]
theorem Dq (n:Nat):List.replicate n (AV.int .u32 0)=Ae (List.replicate n 0):=by simp[Ae]
theorem Axl {l:List Nat} {i:Nat} (h:i<l.length) {f:Int→O R}:An .u32 (List.drop i (Ae l)) f=f (l[i]:Nat):=by
 rw[A66,List.drop_eq_getElem_cons h,DY,A4]
theorem IX:∀ l:List Nat,Ba (Ae l)=true
 | []=>rfl
 | x::r=>by rw[DY,Ba];exact IX r
theorem OO (a b:Nat):(a:Int)+(b:Int)=((a+b:Nat):Int):=by omega
theorem Adn (a b:Nat):(a:Int)*(b:Int)=((a*b:Nat):Int):=by simp
theorem Jt {a:Nat} (h:a<18446744073709551616):IntKind.wrap .u64 (a:Int)=(a:Int):=wrap_u64 a h
theorem A5m {a:Nat} (h:a<4294967296):IntKind.wrap .u32 (a:Int)=(a:Int):=wrap_u32 a h
theorem mX (a:Nat):IntKind.wrap .u32 (a:Int)=((a%4294967296:Nat):Int):=A65 a
theorem mY (a:Int):IntKind.wrap .u64 a=a%18446744073709551616:=IntKind.wrap_u64 a
theorem tW {a b:Nat} (k:a<18446744073709551616) (C:b≤a):IntKind.wrap .u64 ((a:Int) - (b:Int))=((a - b:Nat):Int):=by rw[mY];omega
theorem Bal {a b:Nat} (h:a<b) (k:b≤18446744073709551616):IntKind.wrap .u64 ((a:Int) - (b:Int))=((18446744073709551616+a - b:Nat):Int):=by rw[mY];omega
theorem tX (a:Nat):Int.fdiv (a:Int) (2 ^ 32)=((a/4294967296:Nat):Int):=Uk a 32
theorem Bf9 (a:Nat):Int.fdiv (a:Int) (2 ^ 63)=((a/9223372036854775808:Nat):Int):=Uk a 63
theorem i64 {a:Int} (h:-9223372036854775808≤a∧a≤9223372036854775807):IntKind.wrap .i64 a=a:=Y0 a h
theorem A1z {a b:Nat} (k:a<18446744073709551616) (C:b<18446744073709551616):To .u64 (a:Int) (b:Int)=((a ||| b:Nat):Int):=Aoy rfl k C
theorem tY {a b k:Nat} (h:b<2 ^ k):a*2 ^ k ||| b=a*2 ^ k+b:=by
 rw[←Nat.shiftLeft_eq,Nat.shiftLeft_add_eq_or_of_lt h]
end
end Gx

namespace Gx
open Go Go.Proofs
open IntKind (wrap)
set_option maxRecDepth 100000
noncomputable section
variable {R:Type} (N:Nat)
def muts:Nat→List Bool:=Bd6 [(13,[true,false,false]),(14,[true,false]),(44,[true]),(63,[false,false,true,false]),(66,[false,true,false]),(106,[true,false]),(107,[true,false,false]),(109,[true,false,false,false,false]),(110,[true,false,false,false]),(111,[true,false,false,false]),(119,[false,true]),(120,[false,true,true,true,true,true,true,true,true]),(137,[false,true,true,true,true,true,true,true,true]),(138,[false,true]),(148,[false,true]),(151,[true,false]),(152,[true,false]),(153,[true,false,false,false]),(154,[true,false,false,false,false,false,false,false]),(155,[true,false,false,false,false,false]),(157,[true,false,false]),(158,[true,false,false]),(159,[true,false,false]),(160,[true,false,false]),(161,[true,false,false]),(171,[true]),(185,[true,false,false,false,false,false]),(187,[true,false,false,false,false,false]),(188,[true,false,false]),(203,[true,false]),(206,[false,true,true,true,true,true,true,true,true])]
def Ja {R:Type}:=@Bhv R Tryz.prog muts
abbrev Cm {R:Type}:=@XG R Tryz.prog muts
abbrev Ao:=@Bey Tryz.prog muts
theorem follows:Tryz.prog.follows .mixedOrders=true:=by kernel_rfl
theorem Cj {N f:Nat} {run:(R:Type)→Nat→LA→Am→KF R→O R} (H:Ao N f run):Bcj Tryz.prog f (Az H):=Bhd H follows
def Dr:Hints:={ H:=hL }
def Ou:Hints:={ H:=hL,modes:=[(3,0)] }
def Bam:Hints:={ H:=hL,modes:=[(3,0),(0,0)] }
def wL:Hints:={ H:=(hS hL (hS hL (hS (hS (hP [0,3] hL) hL) hL))),nils:=[(2,1)],modes:=[(2,1)] }
def Ban:Hints:={ H:=hL,nils:=[(2,1)],modes:=[(2,1)] }
def Ao1:Hints:={ H:=(hS hL (hS hL (hS hL (hS (hS hL (hS (hP [0,1,5] hL) hL)) hL)))) }
end
end Gx

namespace Gx
open Go Go.Proofs
open IntKind (wrap)
set_option maxRecDepth 100000
noncomputable section
variable {R:Type} (N:Nat)
def CS (N:Nat) (r0:Nat→LA→O R) (d:LA) (c:Nat) (f e:Bool) (k0:Int→O R) (b:Int):O R :=
 (cond ((decide (b>0))==true) (cond (Ac (wrap .i64 (b - 1)) c) (An .u32 (d.drop (((wrap .i64 (b - 1)).toNat)*1)) fun g=>(cond (cond true (g==0) false) (k0 (wrap .i64 (b - 1))) (cond ((decide ((0:Int)≤(0:Int)))&&((decide (0≤b))&&((decide (b≤((c:Nat):Int)))&&(decide (((c:Nat):Int)≤((c:Nat):Int)))))) (cond ((!e)||(Ba (d.take ((b.toNat)*1)))) (cond ((Nat.ble (0+(b.toNat)) 140737488355328)&&(Nat.ble ((0+(b.toNat))*4) 140737488355328)) (r0 (0+(b.toNat)) (d.take ((b.toNat)*1))) none) none) none))) none) (cond ((decide ((0:Int)≤(0:Int)))&&((decide (0≤b))&&((decide (b≤((c:Nat):Int)))&&(decide (((c:Nat):Int)≤((c:Nat):Int)))))) (cond ((!e)||(Ba (d.take ((b.toNat)*1)))) (cond ((Nat.ble (0+(b.toNat)) 140737488355328)&&(Nat.ble ((0+(b.toNat))*4) 140737488355328)) (r0 (0+(b.toNat)) (d.take ((b.toNat)*1))) none) none) none))
def Ov (r0:Nat→LA→O R) (d:LA) (c:Nat) (f e:Bool):Nat→Int→O R
 | 0,_=>none
 | n+1,b=>(CS N r0 d c f e (Ov r0 d c f e n) b)
def OP (N:Nat) (r0:Nat→LA→O R) (q0:Int→O R) (d:LA) (c:Nat) (f e:Bool):O R :=
 (q0 ((c:Nat):Int))
def Ek:=(Af (fun (N:Nat) (d:LA) (c:Nat) (f e:Bool) (r0:Nat→LA→O R)=>(OP N r0 (fun b=>(Ov N r0 d c f e N b)) d c f e))).1
theorem TV (d c f e r0):(@Ek R N d c f e r0)=(OP N r0 (fun b=>(Ov N r0 d c f e N b)) d c f e):=by rw[Ek,(Af _).2]
def Axm (F:KF R):=Ja Tryz.f143 wL [] [] N F
def Y1 (F:KF R):Nat→LA→O R:=(fun i l=>F (.own 300000 0 i) (hq [(bQ 1 l)]))
def Axn (d:LA) (c:Nat) (f e:Bool) (b:Int):St:=⟨[(0,(.imm d c 1 f e)),(3,(iv b))],[]⟩
def Axo (F:KF R):=Axm N F [1,1,0,0] []
theorem cS (F:KF R) (d:LA) (c:Nat) (f e:Bool):∀ (n:Nat) (b:Int),Ap (Axo N F) n (Axn d c f e b)=(Ov N (Y1 F) d c f e n b)
 | 0,_=>by kernel_rfl
 | n+1,b=>Eq.trans (by kernel_rfl) (Bn (CS N (Y1 F) d c f e · b) (funext fun b=>(cS F d c f e n b)):_)
theorem wN (d:LA) (c:Nat) (f e:Bool) (F:KF R):Cm [] wL N 143 [(.imm d c 1 f e)] [] F=(Ek N d c f e (Y1 F)):=by
 rw[TV]
 exact Eq.trans (by kernel_rfl) (Bn (OP N (Y1 F) · d c f e) (funext fun b=>(Aj ..).trans (cS N F d c f e N b)):_)
def ob (a:LA) (h:Am) (k:KF R):O R :=
 match a,h with
 | [(.imm d c 1 f e)],[]=>(Ek N d c f e (Y1 k))
 | _,_=>none
theorem wO:Ao N 143 @ob:=by
 intro R Q a h k j;unfold ob;split;exact Ay (wN ..) (wN ..) trivial;exact A0
def Hd:=Az (wO N)
def He:=Cj (wO N)
def AF (b:Int) (r0:Nat→LA→O R):O R :=
 (Ek N [(.int .u32 (wrap .u32 b)),(.int .u32 (wrap .u32 (Int.fdiv b (2 ^ 32))))] 2 false true (fun c d=>(r0 c d)))
def Gf:=(Af (@AF R)).1
theorem FB:@Gf R=@AF R:=(Af _).2
def tZ:Ef:=[(143,Hd N)]
def IY (F:KF R):Nat→LA→O R:=(fun e f=>F (.own 300000 0 e) (hq [(bQ 1 f)]))
theorem IZ (b:Int) (F:KF R):Cm (tZ N) Ban N 94 [(.int .u64 b)] [] F=(Gf N b (IY F)):=by
 rw[FB]
 kernel_rfl
def FC (a:LA) (h:Am) (k:KF R):O R :=
 match a,h with
 | [(.int .u64 b)],[]=>(Gf N b (IY k))
 | _,_=>none
theorem I_:Ao N 94 @FC:=by
 intro R Q a h k j;unfold FC;split;exact Ay (IZ ..) (IZ ..) ⟨He N,trivial⟩;exact A0
def JA:=Az (I_ N)
def JB:=Cj (I_ N)
def t4 (b:Bool) (c:LA) (d:Nat) (f e:Bool) (r0:LA→O R):O R :=
 (Ek N c d false e (fun g i=>(cond (b==true) (r0 [(.bool (cond true (decide (((g:Nat):Int)>0)) false)),(.imm (i.take (g*1)) g 1 false false)]) (r0 [(.bool false),(.imm (i.take (g*1)) g 1 false false)]))))
def G6:=(Af (@t4 R)).1
theorem od:@G6 R=@t4 R:=(Af _).2
def A10:Ef:=[(143,Hd N)]
def wQ (F:KF R):LA→O R:=(fun l=>F (.pagg l false) [])
theorem wR (b:Bool) (c:LA) (d:Nat) (f e:Bool) (F:KF R):Cm (A10 N) Ou N 93 [(.bool b),(.imm c d 1 f e)] [] F=(G6 N b c d f e (wQ F)):=by
 rw[od]
 kernel_rfl
def og (a:LA) (h:Am) (k:KF R):O R :=
 match a,h with
 | [(.bool b),(.imm c d 1 f e)],[]=>(G6 N b c d f e (wQ k))
 | _,_=>none
theorem wT:Ao N 93 @og:=by
 intro R Q a h k j;unfold og;split;exact Ay (wR ..) (wR ..) ⟨He N,trivial⟩;exact A0
def Lh:=Az (wT N)
def Li:=Cj (wT N)
def TW (b:Int) (r0:LA→O R):O R :=
 (cond (decide (b<0)) (Gf N (wrap .u64 ((wrap .u64 (wrap .i64 ((0:Int) - (wrap .i64 (b+1)))))+1)) (fun e g=>(G6 N true (g.take (e*1)) e false true (fun c=>(cond ((Nat.beq 0 0)&&((Nat.beq (c.length) 2)&&(Nat.beq 2 2))) (cond (Nat.ble 2 (c.length)) (r0 (c.take 2)) none) none))))) (Gf N (wrap .u64 b) (fun f i=>(G6 N false (i.take (f*1)) f false true (fun d=>(cond ((Nat.beq 0 0)&&((Nat.beq (d.length) 2)&&(Nat.beq 2 2))) (cond (Nat.ble 2 (d.length)) (r0 (d.take 2)) none) none))))))
def Lj:=(Af (@TW R)).1
theorem XN:@Lj R=@TW R:=(Af _).2
def Alz:Ef:=[(94,JA N),(93,Lh N)]
def cT (F:KF R):LA→O R:=(fun l=>F (.pagg l false) [])
theorem cU (b:Int) (F:KF R):Cm (Alz N) Ou N 55 [(iv b)] [] F=(Lj N b (cT F)):=by
 rw[XN]
 kernel_rfl
def XO (a:LA) (h:Am) (k:KF R):O R :=
 match a,h with
 | [(.int .i64 b)],[]=>(Lj N b (cT k))
 | _,_=>none
theorem cV:Ao N 55 @XO:=by
 intro R Q a h k j;unfold XO;split;exact Ay (cU ..) (cU ..) ⟨JB N,Li N,trivial⟩;exact A0
def cW:=Az (cV N)
def cX:=Cj (cV N)
def t5 (b:LA) (c:Bool) (r0:LA→O R):O R :=
 (ON b fun e=>(Co 1 (b.drop 1) fun f g=>(G6 N e f g false c (fun d=>(cond ((Nat.beq 0 0)&&((Nat.beq (d.length) 2)&&(Nat.beq 2 2))) (cond (Nat.ble 2 (d.length)) (r0 (d.take 2)) none) none)))))
def FD:=(Af (@t5 R)).1
theorem oh:@FD R=@t5 R:=(Af _).2
def A11:Ef:=[(93,Lh N)]
def wU (F:KF R):LA→O R:=(fun i=>F (.pagg i false) [])
theorem wV (b:LA) (c:Bool) (F:KF R):Cm (A11 N) Ou N 88 [(.pagg b c)] [] F=(FD N b c (wU F)):=by
 rw[oh]
 kernel_rfl
def oi (a:LA) (h:Am) (k:KF R):O R :=
 match a,h with
 | [(.pagg b c)],[]=>(FD N b c (wU k))
 | _,_=>none
theorem wW:Ao N 88 @oi:=by
 intro R Q a h k j;unfold oi;split;exact Ay (wV ..) (wV ..) ⟨Li N,trivial⟩;exact A0
def wX:=Az (wW N)
def wY:=Cj (wW N)
def t6 (b:LA) (c:Bool) (r0:Int→O R):O R :=
 (cond (Nat.ble 2 (b.length)) (FD N (b.take 2) c (fun d=>(cond ((Nat.beq (d.length) 2)&&((Nat.ble 2 (b.length))&&(!false))) (ON (setCells b 0 d) fun e=>(cond e (r0 (-1)) (Co 1 ((setCells b 0 d).drop 1) fun i f=>(cond (((f:Nat):Int)==0) (r0 0) (r0 1))))) none))) none)
def FE:=(Af (@t6 R)).1
theorem om:@FE R=@t6 R:=(Af _).2
def A12:Ef:=[(88,wX N)]
def wZ (F:KF R):Int→O R:=(fun g=>F (iv g) [])
theorem w8 (b:LA) (c:Bool) (F:KF R):Cm (A12 N) Dr N 75 [(.pagg b c)] [] F=(FE N b c (wZ F)):=by
 rw[om]
 kernel_rfl
def oq (a:LA) (h:Am) (k:KF R):O R :=
 match a,h with
 | [(.pagg b c)],[]=>(FE N b c (wZ k))
 | _,_=>none
theorem w9:Ao N 75 @oq:=by
 intro R Q a h k j;unfold oq;split;exact Ay (w8 ..) (w8 ..) ⟨wY N,trivial⟩;exact A0
def w_:=Az (w9 N)
def wc:=Cj (w9 N)
def t7 (N:Nat) (r0:LA→O R):O R :=
 (r0 [(.bool false),(.imm [] 0 1 false false),(.imm [(.int .u32 1)] 1 1 false false)])
def OQ:=(Af (@t7 R)).1
theorem ot:@OQ R=@t7 R:=(Af _).2
def wg (F:KF R):LA→O R:=(fun b=>F (.pagg b false) [])
theorem wh (F:KF R):Cm [] Ou N 41 [] [] F=(OQ N (wg F)):=by
 rw[ot]
 kernel_rfl
def ou (a:LA) (h:Am) (k:KF R):O R :=
 match a,h with
 | [],[]=>(OQ N (wg k))
 | _,_=>none
theorem wi:Ao N 41 @ou:=by
 intro R Q a h k j;unfold ou;split;exact Ay (wh ..) (wh ..) trivial;exact A0
def wk:=Az (wi N)
def wl:=Cj (wi N)
def Xy (N:Nat) (r0:Bool→O R) (d:LA) (b:Nat) (f g:Bool) (e:LA) (c:Nat) (i l:Bool) (k0:Int→O R) (m:Int):O R :=
 (cond (decide (m<((b:Nat):Int))) (cond (Ac m b) (An .u32 (d.drop ((m.toNat)*1)) fun o=>(cond (Ac m c) (An .u32 (e.drop ((m.toNat)*1)) fun p=>(cond (o != p) (r0 false) (k0 (wrap .i64 (m+1))))) none)) none) (r0 true))
def Lu (r0:Bool→O R) (d:LA) (b:Nat) (f g:Bool) (e:LA) (c:Nat) (i l:Bool):Nat→Int→O R
 | 0,_=>none
 | n+1,m=>(Xy N r0 d b f g e c i l (Lu r0 d b f g e c i l n) m)
def TX (N:Nat) (r0:Bool→O R) (q0:Int→O R) (d:LA) (b:Nat) (f g:Bool) (e:LA) (c:Nat) (i l:Bool):O R :=
 (cond (((b:Nat):Int) != ((c:Nat):Int)) (r0 false) (q0 0))
def DZ:=(Af (fun (N:Nat) (d:LA) (b:Nat) (f g:Bool) (e:LA) (c:Nat) (i l:Bool) (r0:Bool→O R)=>(TX N r0 (fun m=>(Lu N r0 d b f g e c i l N m)) d b f g e c i l))).1
theorem jQ (d b f g e c i l r0):(@DZ R N d b f g e c i l r0)=(TX N r0 (fun m=>(Lu N r0 d b f g e c i l N m)) d b f g e c i l):=by rw[DZ,(Af _).2]
def ov:Hints:={ H:=(hS hL (hS hL (hS (hS hL (hS (hP [0,1,5] hL) hL)) hL))) }
def Asv (F:KF R):=Ja Tryz.f89 ov [] [] N F
def Ul (F:KF R):Bool→O R:=(fun q=>F (.bool q) [])
def Asw (d:LA) (b:Nat) (f g:Bool) (e:LA) (c:Nat) (i l:Bool) (m:Int):St:=⟨[(0,(.imm d b 1 f g)),(1,(.imm e c 1 i l)),(5,(iv m))],[]⟩
def Asx (F:KF R):=Asv N F [1,1,0,1,0] []
theorem XP (F:KF R) (d:LA) (b:Nat) (f g:Bool) (e:LA) (c:Nat) (i l:Bool):∀ (n:Nat) (m:Int),Ap (Asx N F) n (Asw d b f g e c i l m)=(Lu N (Ul F) d b f g e c i l n m)
 | 0,_=>by kernel_rfl
 | n+1,m=>Eq.trans (by kernel_rfl) (Bn (Xy N (Ul F) d b f g e c i l · m) (funext fun m=>(XP F d b f g e c i l n m)):_)
theorem ow (d:LA) (b:Nat) (f g:Bool) (e:LA) (c:Nat) (i l:Bool) (F:KF R):Cm [] ov N 89 [(.imm d b 1 f g),(.imm e c 1 i l)] [] F=(DZ N d b f g e c i l (Ul F)):=by
 rw[jQ]
 exact Eq.trans (by kernel_rfl) (Bn (TX N (Ul F) · d b f g e c i l) (funext fun m=>(Aj ..).trans (XP N F d b f g e c i l N m)):_)
def jR (a:LA) (h:Am) (k:KF R):O R :=
 match a,h with
 | [(.imm d b 1 f g),(.imm e c 1 i l)],[]=>(DZ N d b f g e c i l (Ul k))
 | _,_=>none
theorem oz:Ao N 89 @jR:=by
 intro R Q a h k j;unfold jR;split;exact Ay (ow ..) (ow ..) trivial;exact A0
def Asy:=Az (oz N)
def Asz:=Cj (oz N)
def Gg (N:Nat) (r0:Int→Bool→O R) (b:Nat) (d:LA) (k0:Int→Int→O R) (e c:Int):O R :=
 (cond (decide (c≥0)) (cond (Ac c b) (An .u32 (d.drop (0+((c.toNat)*1))) fun m=>(k0 (To .u64 (wrap .u64 (e*2 ^ 32)) (wrap .u64 m)) (wrap .i64 (c - 1)))) none) (r0 e true))
def E1 (r0:Int→Bool→O R) (b:Nat) (d:LA):Nat→Int→Int→O R
 | 0,_,_=>none
 | n+1,e,c=>(Gg N r0 b d (E1 r0 b d n) e c)
def JC (r0:Int→Bool→O R) (q0:Nat→LA→Int→Int→O R) (f:LA) (g:Nat) (l i:Bool):O R :=
 (Ek N f g false i (fun b d=>(cond (decide (((b:Nat):Int)>2)) (r0 0 false) (q0 b d 0 (wrap .i64 (((b:Nat):Int) - 1))))))
def S5:=(Af (fun (N:Nat) (f:LA) (g:Nat) (l i:Bool) (r0:Int→Bool→O R)=>(JC N r0 (fun b d e c=>(E1 N r0 b d N e c)) f g l i))).1
theorem cY (f g l i r0):(@S5 R N f g l i r0)=(JC N r0 (fun b d e c=>(E1 N r0 b d N e c)) f g l i):=by rw[S5,(Af _).2]
def jS:Hints:={ H:=(hS hL (hS hL (hS hL (hS hL (hS (hS hL (hS (hP [0,4,5] hL) hL)) hL))))) }
def pA:Ef:=[(143,Hd N)]
def Al0 (F:KF R):=Ja Tryz.f178 jS (pA N) [] N F
def Rd (F:KF R):Int→Bool→O R:=(fun o p=>F (.tup [(.int .u64 o),(.bool p)]) [])
def Al1 (b:Nat) (d:LA) (e c:Int):St:=⟨[(0,(.own 300000 0 b)),(4,(.int .u64 e)),(5,(iv c))],(hq [(bQ 1 d)])⟩
def Al2 (F:KF R):=Al0 N F [1,1,1,1,0,1,0] []
theorem OR (F:KF R) (b:Nat) (d:LA):∀ (n:Nat) (e c:Int),Ap (Al2 N F) n (Al1 b d e c)=(E1 N (Rd F) b d n e c)
 | 0,_,_=>by kernel_rfl
 | n+1,e,c=>Eq.trans (by kernel_rfl) (Bn (Gg N (Rd F) b d · e c) (funext fun e=>funext fun c=>(OR F b d n e c)):_)
theorem jT (f:LA) (g:Nat) (l i:Bool) (F:KF R):Cm (pA N) jS N 178 [(.imm f g 1 l i)] [] F=(S5 N f g l i (Rd F)):=by
 rw[cY]
 exact Eq.trans (by kernel_rfl) (Bn (JC N (Rd F) · f g l i) (funext fun b=>funext fun d=>funext fun e=>funext fun c=>(Aj ..).trans (OR N F b d N e c)):_)
def cZ (a:LA) (h:Am) (k:KF R):O R :=
 match a,h with
 | [(.imm f g 1 l i)],[]=>(S5 N f g l i (Rd k))
 | _,_=>none
theorem jU:Ao N 178 @cZ:=by
 intro R Q a h k j;unfold cZ;split;exact Ay (jT ..) (jT ..) ⟨He N,trivial⟩;exact A0
def Al3:=Az (jU N)
def Al4:=Cj (jU N)
def Um (N:Nat) (r0:Int→O R) (k0:Int→Int→O R) (b c:Int):O R :=
 (cond (decide (c>0)) (k0 (wrap .i64 (b+1)) (Int.fdiv c (2 ^ 1))) (r0 b))
def Lk (r0:Int→O R):Nat→Int→Int→O R
 | 0,_,_=>none
 | n+1,b,c=>(Um N r0 (Lk r0 n) b c)
def OS (r0:Int→O R) (q0:Int→Int→O R) (d:LA) (e:Nat) (g f:Bool):O R :=
 (Ek N d e false f (fun i l=>(cond (((i:Nat):Int)==0) (r0 0) (cond (Ac (wrap .i64 (((i:Nat):Int) - 1)) i) (An .u32 (l.drop (0+(((wrap .i64 (((i:Nat):Int) - 1)).toNat)*1))) fun m=>(q0 (wrap .i64 (32*(wrap .i64 (((i:Nat):Int) - 1)))) m)) none))))
def OT:=(Af (fun (N:Nat) (d:LA) (e:Nat) (g f:Bool) (r0:Int→O R)=>(OS N r0 (fun b c=>(Lk N r0 N b c)) d e g f))).1
theorem TY (d e g f r0):(@OT R N d e g f r0)=(OS N r0 (fun b c=>(Lk N r0 N b c)) d e g f):=by rw[OT,(Af _).2]
def wm:Hints:={ H:=(hS hL (hS hL (hS hL (hS hL (hS (hS hL (hS (hP [3,4] hL) hL)) hL))))) }
def Ado:Ef:=[(143,Hd N)]
def Axp (F:KF R):=Ja Tryz.f179 wm (Ado N) [] N F
def Y2 (F:KF R):Int→O R:=(fun o=>F (iv o) [])
def Axq (b c:Int):St:=⟨[(3,(iv b)),(4,(.int .u32 c))],[]⟩
def Axr (F:KF R):=Axp N F [1,1,1,1,0,1,0] []
theorem c0 (F:KF R):∀ (n:Nat) (b c:Int),Ap (Axr N F) n (Axq b c)=(Lk N (Y2 F) n b c)
 | 0,_,_=>by kernel_rfl
 | n+1,b,c=>Eq.trans (by kernel_rfl) (Bn (Um N (Y2 F) · b c) (funext fun b=>funext fun c=>(c0 F n b c)):_)
theorem wo (d:LA) (e:Nat) (g f:Bool) (F:KF R):Cm (Ado N) wm N 179 [(.imm d e 1 g f)] [] F=(OT N d e g f (Y2 F)):=by
 rw[TY]
 exact Eq.trans (by kernel_rfl) (Bn (OS N (Y2 F) · d e g f) (funext fun b=>funext fun c=>(Aj ..).trans (c0 N F N b c)):_)
def pB (a:LA) (h:Am) (k:KF R):O R :=
 match a,h with
 | [(.imm d e 1 g f)],[]=>(OT N d e g f (Y2 k))
 | _,_=>none
theorem wq:Ao N 179 @pB:=by
 intro R Q a h k j;unfold pB;split;exact Ay (wo ..) (wo ..) ⟨He N,trivial⟩;exact A0
def Axs:=Az (wq N)
def Axt:=Cj (wq N)
def FF (N:Nat) (k0:Nat→Int→Int→LA→O R) (r0:Nat→LA→O R) (d:LA) (b:Nat) (f g:Bool) (e:LA) (c:Nat) (i l:Bool) (m:Nat) (o:LA) (s q:Int):O R :=
 (cond (decide (q<((c:Nat):Int))) (cond (Ac q c) (An .u32 (e.drop ((q.toNat)*1)) fun t=>(cond (Ac q m) (cond ((Nat.beq 1 1)&&((Nat.ble ((0+((q.toNat)*1))+1) (o.length))&&(!false))) (k0 m (Int.fdiv (wrap .u64 (s+(wrap .u64 t))) (2 ^ 32)) (wrap .i64 (q+1)) (o.set (0+((q.toNat)*1)) (.int .u32 (wrap .u32 (wrap .u64 (s+(wrap .u64 t))))))) none) none)) none) (cond (Ac q m) (cond ((Nat.beq 1 1)&&((Nat.ble ((0+((q.toNat)*1))+1) (o.length))&&(!false))) (k0 m (Int.fdiv s (2 ^ 32)) (wrap .i64 (q+1)) (o.set (0+((q.toNat)*1)) (.int .u32 (wrap .u32 s)))) none) none))
def JD (r0:Nat→LA→O R) (d:LA) (b:Nat) (f g:Bool) (e:LA) (c:Nat) (i l:Bool) (k0:Nat→Int→Int→LA→O R) (q1:Int→Int→O R) (m:Nat) (r p:Int) (o:LA):O R :=
 (cond (decide (p<((m:Nat):Int))) (cond (decide (p<((b:Nat):Int))) (cond (Ac p b) (An .u32 (d.drop ((p.toNat)*1)) fun u=>(q1 (wrap .u64 (r+(wrap .u64 u))) p)) none) (q1 r p)) (Ek N (o.take (m*1)) m false true (fun v w=>(r0 v w))))
def Jv (r0:Nat→LA→O R) (d:LA) (b:Nat) (f g:Bool) (e:LA) (c:Nat) (i l:Bool):Nat→Nat→Int→Int→LA→O R
 | 0,_,_,_,_=>none
 | n+1,m,r,p,o=>(JD N r0 d b f g e c i l (Jv r0 d b f g e c i l n) (fun s q=>(FF N (Jv r0 d b f g e c i l n) r0 d b f g e c i l m o s q)) m r p o)
def pC (N:Nat) (r0:Nat→LA→O R) (q0:Nat→Int→Int→LA→O R) (d:LA) (b:Nat) (f g:Bool) (e:LA) (c:Nat) (i l:Bool):O R :=
 (cond ((decide (0≤(wrap .i64 ((Iq ((b:Nat):Int) ((c:Nat):Int))+1))))&&((decide ((wrap .i64 ((Iq ((b:Nat):Int) ((c:Nat):Int))+1))≤(wrap .i64 ((Iq ((b:Nat):Int) ((c:Nat):Int))+1))))&&((decide ((wrap .i64 ((Iq ((b:Nat):Int) ((c:Nat):Int))+1))≤140737488355328))&&(decide (((wrap .i64 ((Iq ((b:Nat):Int) ((c:Nat):Int))+1))*((4:Nat):Int))≤140737488355328))))) (q0 ((wrap .i64 ((Iq ((b:Nat):Int) ((c:Nat):Int))+1)).toNat) 0 0 (List.replicate ((wrap .i64 ((Iq ((b:Nat):Int) ((c:Nat):Int))+1)).toNat) (.int .u32 0))) none)
def JE:=(Af (fun (N:Nat) (d:LA) (b:Nat) (f g:Bool) (e:LA) (c:Nat) (i l:Bool) (r0:Nat→LA→O R)=>(pC N r0 (fun m r p o=>(Jv N r0 d b f g e c i l N m r p o)) d b f g e c i l))).1
theorem ws (d b f g e c i l r0):(@JE R N d b f g e c i l r0)=(pC N r0 (fun m r p o=>(Jv N r0 d b f g e c i l N m r p o)) d b f g e c i l):=by rw[JE,(Af _).2]
def Adp:Hints:={ H:=(hS hL (hS hL (hS hL (hS (hS hL (hS (hP [0,1,5,6,7] (hS hL (hS (hS (hJ [0,1,5,6,7] hL hL) hL) hL))) hL)) hL)))),nils:=[(4,1)],modes:=[(2,1)] }
def Ao2:Ef:=[(143,Hd N)]
def Adq (F:KF R):=Ja Tryz.f122 Adp (Ao2 N) [] N F
def S6 (F:KF R):Nat→LA→O R:=(fun x y=>F (.own 300000 0 x) (hq [(bQ 1 y)]))
def A13 (d:LA) (b:Nat) (f g:Bool) (e:LA) (c:Nat) (i l:Bool) (m:Nat) (o:LA) (s q:Int):St:=⟨[(0,(.imm d b 1 f g)),(1,(.imm e c 1 i l)),(5,(.own 300000 0 m)),(6,(.int .u64 s)),(7,(iv q))],(hq [(bQ 1 o)])⟩
def A14 (F:KF R) (Q0:St→O R):=Adq N F [1,1,1,0,1,0,0,1,0,0,1] [Q0]
def Adr (d:LA) (b:Nat) (f g:Bool) (e:LA) (c:Nat) (i l:Bool) (m:Nat) (r p:Int) (o:LA):St:=⟨[(0,(.imm d b 1 f g)),(1,(.imm e c 1 i l)),(5,(.own 300000 0 m)),(6,(.int .u64 r)),(7,(iv p))],(hq [(bQ 1 o)])⟩
def Ads (F:KF R):=Adq N F [1,1,1,0,1,0] []
theorem Al5 (Q0:St→O R) (F:KF R) (d:LA) (b:Nat) (f g:Bool) (e:LA) (c:Nat) (i l:Bool) (m:Nat) (o:LA):∀ (s q:Int),A8 (A14 N F Q0) (A13 d b f g e c i l m o s q)=(FF N (fun m r p o=>Q0 (Adr d b f g e c i l m r p o)) (S6 F) d b f g e c i l m o s q):=by
 intro s q
 kernel_rfl
theorem jV (F:KF R) (d:LA) (b:Nat) (f g:Bool) (e:LA) (c:Nat) (i l:Bool):∀ (n m:Nat) (r p:Int) (o:LA),Ap (Ads N F) n (Adr d b f g e c i l m r p o)=(Jv N (S6 F) d b f g e c i l n m r p o)
 | 0,_,_,_,_=>by kernel_rfl
 | n+1,m,r,p,o=>have e0:=(funext fun m=>funext fun r=>funext fun p=>funext fun o=>(jV F d b f g e c i l n m r p o))
  Eq.trans (by kernel_rfl) (cR (JD N (S6 F) d b f g e c i l · · m r p o) e0 (funext fun s=>funext fun q=>(Ar ..).trans ((Al5 N (Ap (Ads N F) n) F d b f g e c i l m o s q).trans (Bn (FF N · (S6 F) d b f g e c i l m o s q) e0))):_)
theorem Adt (d:LA) (b:Nat) (f g:Bool) (e:LA) (c:Nat) (i l:Bool) (F:KF R):Cm (Ao2 N) Adp N 122 [(.imm d b 1 f g),(.imm e c 1 i l)] [] F=(JE N d b f g e c i l (S6 F)):=by
 rw[ws]
 exact Eq.trans (by kernel_rfl) (Bn (pC N (S6 F) · d b f g e c i l) (funext fun m=>funext fun r=>funext fun p=>funext fun o=>(Aj ..).trans (jV N F d b f g e c i l N m r p o)):_)
def wt (a:LA) (h:Am) (k:KF R):O R :=
 match a,h with
 | [(.imm d b 1 f g),(.imm e c 1 i l)],[]=>(JE N d b f g e c i l (S6 k))
 | _,_=>none
theorem Adu:Ao N 122 @wt:=by
 intro R Q a h k j;unfold wt;split;exact Ay (Adt ..) (Adt ..) ⟨He N,trivial⟩;exact A0
def Adv:=Az (Adu N)
def Adw:=Cj (Adu N)
def Adx (N:Nat) (d:LA) (c:Nat) (e f:Bool) (b:Int) (r0:Int→O R):O R :=
 (cond (decide ((wrap .i64 (Int.tdiv b 32))≥((c:Nat):Int))) (r0 0) (cond (Ac (wrap .i64 (Int.tdiv b 32)) c) (An .u32 (d.drop (((wrap .i64 (Int.tdiv b 32)).toNat)*1)) fun g=>(cond (decide ((wrap .u64 (Int.tmod b 32))<0)) none (r0 (A1w .u32 (Int.fdiv g (2 ^ (min ((wrap .u64 (Int.tmod b 32)).toNat) 32))) 1)))) none))
def pD:=(Af (@Adx R)).1
theorem wu:@pD R=@Adx R:=(Af _).2
def Ady (F:KF R):Int→O R:=(fun i=>F (.int .u32 i) [])
theorem Adz (d:LA) (c:Nat) (e f:Bool) (b:Int) (F:KF R):Cm [] Dr N 180 [(.imm d c 1 e f),(iv b)] [] F=(pD N d c e f b (Ady F)):=by
 rw[wu]
 kernel_rfl
def wv (a:LA) (h:Am) (k:KF R):O R :=
 match a,h with
 | [(.imm d c 1 e f),(.int .i64 b)],[]=>(pD N d c e f b (Ady k))
 | _,_=>none
theorem Ad0:Ao N 180 @wv:=by
 intro R Q a h k j;unfold wv;split;exact Ay (Adz ..) (Adz ..) trivial;exact A0
def A15:=Az (Ad0 N)
def A16:=Cj (Ad0 N)
def R9 (N:Nat) (r0:Int→O R) (c d:Nat) (e f:LA) (k0:Int→O R) (b:Int):O R :=
 (cond (decide (b≥0)) (cond (Ac b c) (An .u32 (e.drop (0+((b.toNat)*1))) fun s=>(cond (Ac b d) (An .u32 (f.drop (0+((b.toNat)*1))) fun t=>(cond (decide (s<t)) (r0 (-1)) (cond (Ac b c) (An .u32 (e.drop (0+((b.toNat)*1))) fun u=>(cond (Ac b d) (An .u32 (f.drop (0+((b.toNat)*1))) fun v=>(cond (decide (u>v)) (r0 1) (k0 (wrap .i64 (b - 1))))) none)) none))) none)) none) (r0 0))
def H3 (r0:Int→O R) (c d:Nat) (e f:LA):Nat→Int→O R
 | 0,_=>none
 | n+1,b=>(R9 N r0 c d e f (H3 r0 c d e f n) b)
def CT (r0:Int→O R) (q0:Nat→Nat→LA→LA→Int→O R) (g:LA) (i:Nat) (q l:Bool) (m:LA) (o:Nat) (r p:Bool):O R :=
 (Ek N g i false l (fun c e=>(Ek N m o false p (fun d f=>(cond (((c:Nat):Int) != ((d:Nat):Int)) (cond (decide (((c:Nat):Int)<((d:Nat):Int))) (r0 (-1)) (r0 1)) (q0 c d e f (wrap .i64 (((c:Nat):Int) - 1))))))))
def Tp:=(Af (fun (N:Nat) (g:LA) (i:Nat) (q l:Bool) (m:LA) (o:Nat) (r p:Bool) (r0:Int→O R)=>(CT N r0 (fun c d e f b=>(H3 N r0 c d e f N b)) g i q l m o r p))).1
theorem XQ (g i q l m o r p r0):(@Tp R N g i q l m o r p r0)=(CT N r0 (fun c d e f b=>(H3 N r0 c d e f N b)) g i q l m o r p):=by rw[Tp,(Af _).2]
def jW:Ef:=[(143,Hd N)]
def Ad1 (F:KF R):=Ja Tryz.f168 Ao1 (jW N) [] N F
def Ow (F:KF R):Int→O R:=(fun w=>F (iv w) [])
def Ad2 (c d:Nat) (e f:LA) (b:Int):St:=⟨[(0,(.own 300000 0 c)),(1,(.own 300001 0 d)),(5,(iv b))],(hq [(bQ 1 e),(bQ 1 f)])⟩
def Ad3 (F:KF R):=Ad1 N F [1,1,1,0,1,0] []
theorem JF (F:KF R) (c d:Nat) (e f:LA):∀ (n:Nat) (b:Int),Ap (Ad3 N F) n (Ad2 c d e f b)=(H3 N (Ow F) c d e f n b)
 | 0,_=>by kernel_rfl
 | n+1,b=>Eq.trans (by kernel_rfl) (Bn (R9 N (Ow F) c d e f · b) (funext fun b=>(JF F c d e f n b)):_)
theorem c6 (g:LA) (i:Nat) (q l:Bool) (m:LA) (o:Nat) (r p:Bool) (F:KF R):Cm (jW N) Ao1 N 168 [(.imm g i 1 q l),(.imm m o 1 r p)] [] F=(Tp N g i q l m o r p (Ow F)):=by
 rw[XQ]
 exact Eq.trans (by kernel_rfl) (Bn (CT N (Ow F) · g i q l m o r p) (funext fun c=>funext fun d=>funext fun e=>funext fun f=>funext fun b=>(Aj ..).trans (JF N F c d e f N b)):_)
def XR (a:LA) (h:Am) (k:KF R):O R :=
 match a,h with
 | [(.imm g i 1 q l),(.imm m o 1 r p)],[]=>(Tp N g i q l m o r p (Ow k))
 | _,_=>none
theorem c7:Ao N 168 @XR:=by
 intro R Q a h k j;unfold XR;split;exact Ay (c6 ..) (c6 ..) ⟨He N,trivial⟩;exact A0
def Ad4:=Az (c7 N)
def Ad5:=Cj (c7 N)
def FG (N:Nat) (k0:Int→Int→LA→O R) (r0:Nat→Bool→LA→O R) (b d:Nat) (e f c:LA) (i m:Int):O R :=
 (cond (Ac i b) (An .u32 (e.drop (0+((i.toNat)*1))) fun w=>(cond (decide ((wrap .u64 w)<m)) (cond (Ac i b) (cond ((Nat.beq 1 1)&&((Nat.ble ((0+((i.toNat)*1))+1) (c.length))&&(!false))) (k0 1 (wrap .i64 (i+1)) (c.set (0+((i.toNat)*1)) (.int .u32 (wrap .u32 (wrap .u64 ((wrap .u64 ((wrap .u64 w)+4294967296)) - m)))))) none) none) (cond (Ac i b) (cond ((Nat.beq 1 1)&&((Nat.ble ((0+((i.toNat)*1))+1) (c.length))&&(!false))) (k0 0 (wrap .i64 (i+1)) (c.set (0+((i.toNat)*1)) (.int .u32 (wrap .u32 (wrap .u64 ((wrap .u64 w) - m)))))) none) none))) none)
def JG (r0:Nat→Bool→LA→O R) (b d:Nat) (e f:LA) (k0:Int→Int→LA→O R) (q1:Int→Int→O R) (l g:Int) (c:LA):O R :=
 (cond (decide (g<((b:Nat):Int))) (cond (decide (g<((d:Nat):Int))) (cond (Ac g d) (An .u32 (f.drop (0+((g.toNat)*1))) fun x=>(q1 g (wrap .u64 (l+(wrap .u64 x))))) none) (q1 g l)) (Ek N (c.take (b*1)) b false true (fun y z=>(r0 y true z))))
def Jw (r0:Nat→Bool→LA→O R) (b d:Nat) (e f:LA):Nat→Int→Int→LA→O R
 | 0,_,_,_=>none
 | n+1,l,g,c=>(JG N r0 b d e f (Jw r0 b d e f n) (fun i m=>(FG N (Jw r0 b d e f n) r0 b d e f c i m)) l g c)
def pE (r0:Nat→Bool→LA→O R) (q0:Nat→Nat→LA→LA→Int→Int→LA→O R) (o:LA) (p:Nat) (u q:Bool) (r:LA) (s:Nat) (v t:Bool):O R :=
 (Tp N o p false q r s false t (fun aa=>(cond (decide (aa<0)) (r0 0 false []) (Ek N o p false q (fun b e=>(Ek N r s false t (fun d f=>(cond ((decide (0≤((b:Nat):Int)))&&((decide (((b:Nat):Int)≤((b:Nat):Int)))&&((decide (((b:Nat):Int)≤140737488355328))&&(decide ((((b:Nat):Int)*((4:Nat):Int))≤140737488355328))))) (q0 b d e f 0 0 (List.replicate b (.int .u32 0))) none))))))))
def JH:=(Af (fun (N:Nat) (o:LA) (p:Nat) (u q:Bool) (r:LA) (s:Nat) (v t:Bool) (r0:Nat→Bool→LA→O R)=>(pE N r0 (fun b d e f l g c=>(Jw N r0 b d e f N l g c)) o p u q r s v t))).1
theorem ww (o p u q r s v t r0):(@JH R N o p u q r s v t r0)=(pE N r0 (fun b d e f l g c=>(Jw N r0 b d e f N l g c)) o p u q r s v t):=by rw[JH,(Af _).2]
def Ad6:Hints:={ H:=(hS hL (hS hL (hS hL (hS hL (hS hL (hS (hS hL (hS (hP [0,1,6,7,8] (hS hL (hS (hS (hS hL (hJ [0,1,6,8,9] hL hL)) hL) hL))) hL)) hL)))))),nils:=[(4,1)],modes:=[(2,1),(0,0)] }
def Ao3:Ef:=[(168,Ad4 N),(143,Hd N)]
def Ad7 (F:KF R):=Ja Tryz.f123 Ad6 (Ao3 N) [] N F
def S7 (F:KF R):Nat→Bool→LA→O R:=(fun ab ac ad=>F (.tup [(.own 300000 0 ab),(.bool ac)]) (hq [(bQ 1 ad)]))
def A17 (b d:Nat) (e f c:LA) (i m:Int):St:=⟨[(0,(.own 300000 0 b)),(1,(.own 300001 0 d)),(6,(.own 300002 0 b)),(8,(iv i)),(9,(.int .u64 m))],(hq [(bQ 1 e),(bQ 1 f),(bQ 1 c)])⟩
def A18 (F:KF R) (Q0:St→O R):=Ad7 N F [1,1,1,1,1,0,1,0,0,1,0,0,1,1] [Q0]
def Ad8 (b d:Nat) (e f:LA) (l g:Int) (c:LA):St:=⟨[(0,(.own 300000 0 b)),(1,(.own 300001 0 d)),(6,(.own 300002 0 b)),(7,(.int .u64 l)),(8,(iv g))],(hq [(bQ 1 e),(bQ 1 f),(bQ 1 c)])⟩
def Ad9 (F:KF R):=Ad7 N F [1,1,1,1,1,0,1,0] []
theorem Al6 (Q0:St→O R) (F:KF R) (b d:Nat) (e f c:LA):∀ (i m:Int),A8 (A18 N F Q0) (A17 b d e f c i m)=(FG N (fun l g c=>Q0 (Ad8 b d e f l g c)) (S7 F) b d e f c i m):=by
 intro i m
 kernel_rfl
theorem jX (F:KF R) (b d:Nat) (e f:LA):∀ (n:Nat) (l g:Int) (c:LA),Ap (Ad9 N F) n (Ad8 b d e f l g c)=(Jw N (S7 F) b d e f n l g c)
 | 0,_,_,_=>by kernel_rfl
 | n+1,l,g,c=>have e0:=(funext fun l=>funext fun g=>funext fun c=>(jX F b d e f n l g c))
  Eq.trans (by kernel_rfl) (cR (JG N (S7 F) b d e f · · l g c) e0 (funext fun i=>funext fun m=>(Ar ..).trans ((Al6 N (Ap (Ad9 N F) n) F b d e f c i m).trans (Bn (FG N · (S7 F) b d e f c i m) e0))):_)
theorem Aea (o:LA) (p:Nat) (u q:Bool) (r:LA) (s:Nat) (v t:Bool) (F:KF R):Cm (Ao3 N) Ad6 N 123 [(.imm o p 1 u q),(.imm r s 1 v t)] [] F=(JH N o p u q r s v t (S7 F)):=by
 rw[ww]
 exact Eq.trans (by kernel_rfl) (Bn (pE N (S7 F) · o p u q r s v t) (funext fun b=>funext fun d=>funext fun e=>funext fun f=>funext fun l=>funext fun g=>funext fun c=>(Aj ..).trans (jX N F b d e f N l g c)):_)
def wx (a:LA) (h:Am) (k:KF R):O R :=
 match a,h with
 | [(.imm o p 1 u q),(.imm r s 1 v t)],[]=>(JH N o p u q r s v t (S7 k))
 | _,_=>none
theorem Aeb:Ao N 123 @wx:=by
 intro R Q a h k j;unfold wx;split;exact Ay (Aea ..) (Aea ..) ⟨Ad5 N,He N,trivial⟩;exact A0
def Aec:=Az (Aeb N)
def Aed:=Cj (Aeb N)
def Nn (k1:Nat→Int→LA→LA→O R) (r0:Nat→Nat→Bool→LA→LA→O R) (c:LA) (b:Nat) (e d:Bool) (f:Nat) (i:Int) (g l:LA) (p:Nat) (q:LA):O R :=
 (JH N (q.take (p*1)) p false true (g.take (f*1)) f false true (fun z aa ab=>(cond aa (cond (Ac (wrap .i64 (Int.tdiv i 32)) b) (An .u32 (l.drop (0+(((wrap .i64 (Int.tdiv i 32)).toNat)*1))) fun ac=>(cond (decide ((wrap .u64 (Int.tmod i 32))<0)) none (cond (Ac (wrap .i64 (Int.tdiv i 32)) b) (cond ((Nat.beq 1 1)&&((Nat.ble ((0+(((wrap .i64 (Int.tdiv i 32)).toNat)*1))+1) (l.length))&&(!false))) (k1 z (wrap .i64 (i - 1)) (l.set (0+(((wrap .i64 (Int.tdiv i 32)).toNat)*1)) (.int .u32 (To .u32 ac (wrap .u32 ((1:Int)*2 ^ (min ((wrap .u64 (Int.tmod i 32)).toNat) 32)))))) ab) none) none))) none) (k1 p (wrap .i64 (i - 1)) l q))))
def Un (r0:Nat→Nat→Bool→LA→LA→O R) (c:LA) (b:Nat) (e d:Bool) (f:Nat) (g:LA) (k1:Nat→Int→LA→LA→O R) (q2:Nat→LA→O R) (m:Nat) (i:Int) (l o:LA):O R :=
 (cond (decide (i≥0)) (JE N (o.take (m*1)) m false true (o.take (m*1)) m false true (fun w x=>(pD N c b false d i (fun ad=>(cond (ad==1) (JE N (x.take (w*1)) w false true [(.int .u32 1)] 1 false true (fun ae af=>(q2 ae af))) (q2 w x)))))) (Ek N (l.take (b*1)) b false true (fun ag ah=>(Ek N (o.take (m*1)) m false true (fun ai aj=>(r0 ag ai true ah aj))))))
def F5 (r0:Nat→Nat→Bool→LA→LA→O R) (c:LA) (b:Nat) (e d:Bool) (f:Nat) (g:LA):Nat→Nat→Int→LA→LA→O R
 | 0,_,_,_,_=>none
 | n+1,m,i,l,o=>(Un N r0 c b e d f g (F5 r0 c b e d f g n) (fun p q=>(Nn N (F5 r0 c b e d f g n) r0 c b e d f i g l p q)) m i l o)
def FH (r0:Nat→Nat→Bool→LA→LA→O R) (c:LA) (b:Nat) (e d:Bool) (f:Nat) (g:LA) (q1:Nat→Int→LA→LA→O R):O R :=
 (cond ((decide (0≤((b:Nat):Int)))&&((decide (((b:Nat):Int)≤((b:Nat):Int)))&&((decide (((b:Nat):Int)≤140737488355328))&&(decide ((((b:Nat):Int)*((4:Nat):Int))≤140737488355328))))) (OT N c b false d (fun ak=>(q1 0 (wrap .i64 (ak - 1)) (List.replicate b (.int .u32 0)) []))) none)
def Re (r0:Nat→Nat→Bool→LA→LA→O R) (c:LA) (b:Nat) (e d:Bool) (f:Nat) (g:LA):O R:=(FH N r0 c b e d f g (fun m i l o=>(F5 N r0 c b e d f g N m i l o)))
def JI (r0:Nat→Nat→Bool→LA→LA→O R) (q0:Nat→LA→O R) (c:LA) (b:Nat) (e d:Bool) (r:LA) (s:Nat) (u t:Bool):O R :=
 (Ek N r s false t (fun f g=>(cond (((f:Nat):Int)==0) (r0 0 0 false [] []) (S5 N c b false d (fun y al=>(S5 N (g.take (f*1)) f false true (fun v am=>(cond (al==true) (cond (cond true am false) (cond (v==0) none (Gf N (wrap .u64 (Int.tdiv y v)) (fun an ao=>(cond (v==0) none (Gf N (Int.tmod y v) (fun ap aq=>(r0 an ap true ao aq))))))) (q0 f g)) (q0 f g)))))))))
def S8:=(Af (fun (N:Nat) (c:LA) (b:Nat) (e d:Bool) (r:LA) (s:Nat) (u t:Bool) (r0:Nat→Nat→Bool→LA→LA→O R)=>(JI N r0 (fun f g=>(Re N r0 c b e d f g)) c b e d r s u t))).1
theorem c8 (c b e d r s u t r0):(@S8 R N c b e d r s u t r0)=(JI N r0 (fun f g=>(Re N r0 c b e d f g)) c b e d r s u t):=by rw[S8,(Af _).2]
def jY:Hints:={ H:=(hS hL (hS hL (hS hL (hS hL (hJ [0,1,5] hL (hS hL (hS (hS hL (hS (hP [0,1,4,5,11] (hS hL (hS (hS (hS hL (hJ [0,1,4,5,11] hL hL)) hL) hL))) hL)) hL))))))),nils:=[(4,1),(5,1)],modes:=[(2,1),(2,1),(0,0)] }
def pF:Ef:=[(143,Hd N),(178,Al3 N),(94,JA N),(179,Axs N),(122,Adv N),(180,A15 N),(123,Aec N)]
def ND (F:KF R):=Ja Tryz.f140 jY (pF N) [] N F
def F6 (F:KF R):Nat→Nat→Bool→LA→LA→O R:=(fun ar au av aw ax=>F (.tup [(.own 300000 0 ar),(.own 300001 0 au),(.bool av)]) (hq [(bQ 1 aw),(bQ 1 ax)]))
def Al7 (c:LA) (b:Nat) (e d:Bool) (f:Nat) (i:Int) (g l:LA) (p:Nat) (q:LA):St:=⟨[(0,(.imm c b 1 e d)),(1,(.own 300000 0 f)),(4,(.own 300001 0 b)),(5,(.own 300002 0 p)),(11,(iv i))],(hq [(bQ 1 g),(bQ 1 l),(bQ 1 q)])⟩
def Al8 (F:KF R) (Q1:St→O R):=ND N F [1,1,1,1,1,1,0,1,0,0,1,0,0,1,1] [Q1]
def jZ (c:LA) (b:Nat) (e d:Bool) (f:Nat) (g:LA) (m:Nat) (i:Int) (l o:LA):St:=⟨[(0,(.imm c b 1 e d)),(1,(.own 300000 0 f)),(4,(.own 300001 0 b)),(5,(.own 300002 0 m)),(11,(iv i))],(hq [(bQ 1 g),(bQ 1 l),(bQ 1 o)])⟩
def j0 (F:KF R):=ND N F [1,1,1,1,1,1,0,1,0] []
def Al9 (c:LA) (b:Nat) (e d:Bool) (f:Nat) (g:LA):St:=⟨[(0,(.imm c b 1 e d)),(1,(.own 300000 0 f)),(5,(.own 300001 0 0))],(hq [(bQ 1 g),(bQ 1 [])])⟩
def Ama (F:KF R):=ND N F [1,1,1,1,1] []
theorem t8 (Q1:St→O R) (F:KF R) (c:LA) (b:Nat) (e d:Bool) (f:Nat) (i:Int) (g l:LA):∀ (p:Nat) (q:LA),A8 (Al8 N F Q1) (Al7 c b e d f i g l p q)=(Nn N (fun m i l o=>Q1 (jZ c b e d f g m i l o)) (F6 F) c b e d f i g l p q):=by
 intro p q
 kernel_rfl
theorem OU (F:KF R) (c:LA) (b:Nat) (e d:Bool) (f:Nat) (g:LA):∀ (n m:Nat) (i:Int) (l o:LA),Ap (j0 N F) n (jZ c b e d f g m i l o)=(F5 N (F6 F) c b e d f g n m i l o)
 | 0,_,_,_,_=>by kernel_rfl
 | n+1,m,i,l,o=>have e0:=(funext fun m=>funext fun i=>funext fun l=>funext fun o=>(OU F c b e d f g n m i l o))
  Eq.trans (by kernel_rfl) (cR (Un N (F6 F) c b e d f g · · m i l o) e0 (funext fun p=>funext fun q=>(Ar ..).trans ((t8 N (Ap (j0 N F) n) F c b e d f i g l p q).trans (Bn (Nn N · (F6 F) c b e d f i g l p q) e0))):_)
theorem t9 (F:KF R) (c:LA) (b:Nat) (e d:Bool) (f:Nat) (g:LA):A8 (Ama N F) (Al9 c b e d f g)=(Re N (F6 F) c b e d f g):=by
 exact Eq.trans (by kernel_rfl) (Bn (FH N (F6 F) c b e d f g ·) (funext fun m=>funext fun i=>funext fun l=>funext fun o=>(Aj ..).trans (OU N F c b e d f g N m i l o)):_)
theorem j1 (c:LA) (b:Nat) (e d:Bool) (r:LA) (s:Nat) (u t:Bool) (F:KF R):Cm (pF N) jY N 140 [(.imm c b 1 e d),(.imm r s 1 u t)] [] F=(S8 N c b e d r s u t (F6 F)):=by
 rw[c8]
 exact Eq.trans (by kernel_rfl) (Bn (JI N (F6 F) · c b e d r s u t) (funext fun f=>funext fun g=>(Ar ..).trans (t9 N F c b e d f g)):_)
def c9 (a:LA) (h:Am) (k:KF R):O R :=
 match a,h with
 | [(.imm c b 1 e d),(.imm r s 1 u t)],[]=>(S8 N c b e d r s u t (F6 k))
 | _,_=>none
theorem j2:Ao N 140 @c9:=by
 intro R Q a h k j;unfold c9;split;exact Ay (j1 ..) (j1 ..) ⟨He N,Al4 N,JB N,Axt N,Adw N,A16 N,Aed N,trivial⟩;exact A0
def j3:=Az (j2 N)
def j4:=Cj (j2 N)
def Tq (r0:Nat→LA→O R) (k0:Nat→Nat→LA→LA→O R) (c b:Nat) (d e:LA):O R :=
 (cond (decide (((b:Nat):Int)>0)) (S8 N (d.take (c*1)) c false true (e.take (b*1)) b false true (fun z r aa ab s=>(k0 b r e s))) (r0 c d))
def E6 (r0:Nat→LA→O R):Nat→Nat→Nat→LA→LA→O R
 | 0,_,_,_,_=>none
 | n+1,c,b,d,e=>(Tq N r0 (E6 r0 n) c b d e)
def pG (r0:Nat→LA→O R) (q0:Nat→Nat→LA→LA→O R) (f:LA) (g:Nat) (p i:Bool) (l:LA) (m:Nat) (q o:Bool):O R :=
 (Ek N f g false i (fun t u=>(Ek N l m false o (fun v w=>(q0 t v u w)))))
def gv:=(Af (fun (N:Nat) (f:LA) (g:Nat) (p i:Bool) (l:LA) (m:Nat) (q o:Bool) (r0:Nat→LA→O R)=>(pG N r0 (fun c b d e=>(E6 N r0 N c b d e)) f g p i l m q o))).1
theorem wy (f g p i l m q o r0):(@gv R N f g p i l m q o r0)=(pG N r0 (fun c b d e=>(E6 N r0 N c b d e)) f g p i l m q o):=by rw[gv,(Af _).2]
def Aee:Hints:={ H:=(hS hL (hS hL (hS (hS (hP [0,1] hL) hL) hL))),nils:=[(4,1)],modes:=[(2,1)] }
def Ao4:Ef:=[(143,Hd N),(140,j3 N)]
def A19 (F:KF R):=Ja Tryz.f139 Aee (Ao4 N) [] N F
def FI (F:KF R):Nat→LA→O R:=(fun x y=>F (.own 300000 0 x) (hq [(bQ 1 y)]))
def A2a (c b:Nat) (d e:LA):St:=⟨[(0,(.own 300000 0 c)),(1,(.own 300001 0 b))],(hq [(bQ 1 d),(bQ 1 e)])⟩
def A2b (F:KF R):=A19 N F [1,1,0,0] []
theorem j5 (F:KF R):∀ (n:Nat) (c b:Nat) (d e:LA),Ap (A2b N F) n (A2a c b d e)=(E6 N (FI F) n c b d e)
 | 0,_,_,_,_=>by kernel_rfl
 | n+1,c,b,d,e=>Eq.trans (by kernel_rfl) (Bn (Tq N (FI F) · c b d e) (funext fun c=>funext fun b=>funext fun d=>funext fun e=>(j5 F n c b d e)):_)
theorem Aef (f:LA) (g:Nat) (p i:Bool) (l:LA) (m:Nat) (q o:Bool) (F:KF R):Cm (Ao4 N) Aee N 139 [(.imm f g 1 p i),(.imm l m 1 q o)] [] F=(gv N f g p i l m q o (FI F)):=by
 rw[wy]
 exact Eq.trans (by kernel_rfl) (Bn (pG N (FI F) · f g p i l m q o) (funext fun c=>funext fun b=>funext fun d=>funext fun e=>(Aj ..).trans (j5 N F N c b d e)):_)
def wz (a:LA) (h:Am) (k:KF R):O R :=
 match a,h with
 | [(.imm f g 1 p i),(.imm l m 1 q o)],[]=>(gv N f g p i l m q o (FI k))
 | _,_=>none
theorem Aeg:Ao N 139 @wz:=by
 intro R Q a h k j;unfold wz;split;exact Ay (Aef ..) (Aef ..) ⟨He N,j4 N,trivial⟩;exact A0
def A2c:=Az (Aeg N)
def A2d:=Cj (Aeg N)
def Aeh (b:LA) (c:Bool) (d:LA) (e:Bool) (r0:LA→O R):O R :=
 (Co 1 (b.drop 1) fun i l=>(Co 1 (d.drop 1) fun m n=>(gv N i l false c m n false e (fun g o=>(G6 N false (o.take (g*1)) g false true (fun f=>(cond ((Nat.beq 0 0)&&((Nat.beq (f.length) 2)&&(Nat.beq 2 2))) (cond (Nat.ble 2 (f.length)) (r0 (f.take 2)) none) none)))))))
def pH:=(Af (@Aeh R)).1
theorem xA:@pH R=@Aeh R:=(Af _).2
def A67:Ef:=[(139,A2c N),(93,Lh N)]
def Aei (F:KF R):LA→O R:=(fun p=>F (.pagg p false) [])
theorem Aej (b:LA) (c:Bool) (d:LA) (e:Bool) (F:KF R):Cm (A67 N) Ou N 90 [(.pagg b c),(.pagg d e)] [] F=(pH N b c d e (Aei F)):=by
 rw[xA]
 kernel_rfl
def xB (a:LA) (h:Am) (k:KF R):O R :=
 match a,h with
 | [(.pagg b c),(.pagg d e)],[]=>(pH N b c d e (Aei k))
 | _,_=>none
theorem Aek:Ao N 90 @xB:=by
 intro R Q a h k j;unfold xB;split;exact Ay (Aej ..) (Aej ..) ⟨A2d N,Li N,trivial⟩;exact A0
def A2e:=Az (Aek N)
def A2f:=Cj (Aek N)
def Axu (b:LA) (c:Bool) (r0:LA→O R):O R :=
 (Co 1 (b.drop 1) fun e f=>(G6 N false e f false c (fun d=>(cond ((Nat.beq 0 0)&&((Nat.beq (d.length) 2)&&(Nat.beq 2 2))) (cond (Nat.ble 2 (d.length)) (r0 (d.take 2)) none) none))))
def Ab3:=(Af (@Axu R)).1
theorem Axv:@Ab3 R=@Axu R:=(Af _).2
def A68:Ef:=[(93,Lh N)]
def Ael (F:KF R):LA→O R:=(fun g=>F (.pagg g false) [])
theorem Aem (b:LA) (c:Bool) (F:KF R):Cm (A68 N) Ou N 141 [(.pagg b c)] [] F=(Ab3 N b c (Ael F)):=by
 rw[Axv]
 kernel_rfl
def xC (a:LA) (h:Am) (k:KF R):O R :=
 match a,h with
 | [(.pagg b c)],[]=>(Ab3 N b c (Ael k))
 | _,_=>none
theorem Aen:Ao N 141 @xC:=by
 intro R Q a h k j;unfold xC;split;exact Ay (Aem ..) (Aem ..) ⟨Li N,trivial⟩;exact A0
def A2g:=Az (Aen N)
def A2h:=Cj (Aen N)
def Aeo (b:LA) (d:Bool) (c:LA) (e:Bool) (r0:LA→O R):O R :=
 (ON b fun o=>(ON c fun p=>(cond (o==p) (ON b fun q=>(Co 1 (b.drop 1) fun r s=>(Co 1 (c.drop 1) fun t u=>(JE N r s false d t u false e (fun l v=>(G6 N q (v.take (l*1)) l false true (fun f=>(cond ((Nat.beq 0 0)&&((Nat.beq (f.length) 2)&&(Nat.beq 2 2))) (cond (Nat.ble 2 (f.length)) (r0 (f.take 2)) none) none)))))))) (Co 1 (b.drop 1) fun w x=>(Co 1 (c.drop 1) fun y z=>(JH N w x false d y z false e (fun m aa ab=>(cond aa (ON b fun ac=>(G6 N ac (ab.take (m*1)) m false true (fun g=>(cond ((Nat.beq 0 0)&&((Nat.beq (g.length) 2)&&(Nat.beq 2 2))) (cond (Nat.ble 2 (g.length)) (r0 (g.take 2)) none) none)))) (Co 1 (c.drop 1) fun ad ae=>(Co 1 (b.drop 1) fun af ag=>(JH N ad ae false e af ag false d (fun n ak ah=>(ON c fun ai=>(G6 N ai (ah.take (n*1)) n false true (fun i=>(cond ((Nat.beq 0 0)&&((Nat.beq (i.length) 2)&&(Nat.beq 2 2))) (cond (Nat.ble 2 (i.length)) (r0 (i.take 2)) none) none))))))))))))))))
def CU:=(Af (@Aeo R)).1
theorem xD:@CU R=@Aeo R:=(Af _).2
def A69:Ef:=[(122,Adv N),(93,Lh N),(123,Aec N)]
def Aep (F:KF R):LA→O R:=(fun aj=>F (.pagg aj false) [])
theorem Aeq (b:LA) (d:Bool) (c:LA) (e:Bool) (F:KF R):Cm (A69 N) Ou N 71 [(.pagg b d),(.pagg c e)] [] F=(CU N b d c e (Aep F)):=by
 rw[xD]
 kernel_rfl
def xE (a:LA) (h:Am) (k:KF R):O R :=
 match a,h with
 | [(.pagg b d),(.pagg c e)],[]=>(CU N b d c e (Aep k))
 | _,_=>none
theorem Aer:Ao N 71 @xE:=by
 intro R Q a h k j;unfold xE;split;exact Ay (Aeq ..) (Aeq ..) ⟨Adw N,Li N,Aed N,trivial⟩;exact A0
def mZ:=Az (Aer N)
def m7:=Cj (Aer N)
def Aes (b:LA) (c:Bool) (r0:LA→O R):O R :=
 (ON b fun e=>(Co 1 (b.drop 1) fun f g=>(G6 N (!e) f g false c (fun d=>(cond ((Nat.beq 0 0)&&((Nat.beq (d.length) 2)&&(Nat.beq 2 2))) (cond (Nat.ble 2 (d.length)) (r0 (d.take 2)) none) none)))))
def CV:=(Af (@Aes R)).1
theorem xF:@CV R=@Aes R:=(Af _).2
def A7a:Ef:=[(93,Lh N)]
def Aet (F:KF R):LA→O R:=(fun i=>F (.pagg i false) [])
theorem Aeu (b:LA) (c:Bool) (F:KF R):Cm (A7a N) Ou N 92 [(.pagg b c)] [] F=(CV N b c (Aet F)):=by
 rw[xF]
 kernel_rfl
def xG (a:LA) (h:Am) (k:KF R):O R :=
 match a,h with
 | [(.pagg b c)],[]=>(CV N b c (Aet k))
 | _,_=>none
theorem Aev:Ao N 92 @xG:=by
 intro R Q a h k j;unfold xG;split;exact Ay (Aeu ..) (Aeu ..) ⟨Li N,trivial⟩;exact A0
def m8:=Az (Aev N)
def m9:=Cj (Aev N)
def Axw (b:LA) (d:Bool) (c:LA) (e:Bool) (r0:LA→O R):O R :=
 (cond (Nat.ble 2 (b.length)) (cond (Nat.ble 2 (c.length)) (CV N (c.take 2) e (fun g=>(CU N (b.take 2) d g false (fun f=>(cond ((Nat.beq 0 0)&&((Nat.beq (f.length) 2)&&(Nat.beq 2 2))) (cond (Nat.ble 2 (f.length)) (r0 (f.take 2)) none) none))))) none) none)
def Ab4:=(Af (@Axw R)).1
theorem Axx:@Ab4 R=@Axw R:=(Af _).2
def A7b:Ef:=[(92,m8 N),(71,mZ N)]
def Aew (F:KF R):LA→O R:=(fun i=>F (.pagg i false) [])
theorem Aex (b:LA) (d:Bool) (c:LA) (e:Bool) (F:KF R):Cm (A7b N) Ou N 142 [(.pagg b d),(.pagg c e)] [] F=(Ab4 N b d c e (Aew F)):=by
 rw[Axx]
 kernel_rfl
def xH (a:LA) (h:Am) (k:KF R):O R :=
 match a,h with
 | [(.pagg b d),(.pagg c e)],[]=>(Ab4 N b d c e (Aew k))
 | _,_=>none
theorem Aey:Ao N 142 @xH:=by
 intro R Q a h k j;unfold xH;split;exact Ay (Aex ..) (Aex ..) ⟨m9 N,m7 N,trivial⟩;exact A0
def A2i:=Az (Aey N)
def A2j:=Cj (Aey N)
def c_ (f:LA) (m:Bool) (e:LA) (l:Bool) (r0:LA→LA→Bool→O R):O R :=
 (Co 1 (f.drop 1) fun p q=>(Co 1 (e.drop 1) fun r s=>(S8 N p q false m r s false l (fun n o t u v=>(cond (!t) (r0 [(.bool false),.nsl] [(.bool false),.nsl] false) (ON f fun w=>(ON e fun x=>(G6 N (!(w==x)) (u.take (n*1)) n false true (fun b=>(ON f fun y=>(G6 N y (v.take (o*1)) o false true (fun c=>(cond ((Nat.beq 0 0)&&((Nat.beq (b.length) 2)&&(Nat.beq 2 2))) (cond ((Nat.beq 0 0)&&((Nat.beq (c.length) 2)&&(Nat.beq 2 2))) (ON c fun z=>(cond z (cond (Nat.ble 2 (c.length)) (cond (Nat.ble 2 (e.length)) (Ab3 N (e.take 2) l (fun aa=>(CU N (c.take 2) false aa false (fun d=>(cond ((Nat.beq (d.length) 2)&&((Nat.ble 2 (c.length))&&(!false))) (ON e fun ab=>(cond ab (cond (Nat.ble 2 (b.length)) (Lj N 1 (fun ac=>(CU N (b.take 2) false ac false (fun g=>(cond ((Nat.beq (g.length) 2)&&((Nat.ble 2 (b.length))&&(!false))) (cond (Nat.ble 2 ((setCells b 0 g).length)) (cond (Nat.ble 2 ((setCells c 0 d).length)) (cond ((Nat.beq (((setCells b 0 g).take 2).length) 2)&&((Nat.ble 2 ((setCells b 0 g).length))&&(!false))) (cond ((Nat.beq (((setCells c 0 d).take 2).length) 2)&&((Nat.ble 2 ((setCells c 0 d).length))&&(!false))) (cond (Nat.ble 2 ((setCells (setCells b 0 g) 0 ((setCells b 0 g).take 2)).length)) (cond (Nat.ble 2 ((setCells (setCells c 0 d) 0 ((setCells c 0 d).take 2)).length)) (r0 ((setCells (setCells b 0 g) 0 ((setCells b 0 g).take 2)).take 2) ((setCells (setCells c 0 d) 0 ((setCells c 0 d).take 2)).take 2) true) none) none) none) none) none) none) none))))) none) (cond (Nat.ble 2 (b.length)) (Lj N 1 (fun ad=>(Ab4 N (b.take 2) false ad false (fun i=>(cond ((Nat.beq (i.length) 2)&&((Nat.ble 2 (b.length))&&(!false))) (cond (Nat.ble 2 ((setCells b 0 i).length)) (cond (Nat.ble 2 ((setCells c 0 d).length)) (cond ((Nat.beq (((setCells b 0 i).take 2).length) 2)&&((Nat.ble 2 ((setCells b 0 i).length))&&(!false))) (cond ((Nat.beq (((setCells c 0 d).take 2).length) 2)&&((Nat.ble 2 ((setCells c 0 d).length))&&(!false))) (cond (Nat.ble 2 ((setCells (setCells b 0 i) 0 ((setCells b 0 i).take 2)).length)) (cond (Nat.ble 2 ((setCells (setCells c 0 d) 0 ((setCells c 0 d).take 2)).length)) (r0 ((setCells (setCells b 0 i) 0 ((setCells b 0 i).take 2)).take 2) ((setCells (setCells c 0 d) 0 ((setCells c 0 d).take 2)).take 2) true) none) none) none) none) none) none) none))))) none))) none))))) none) none) (cond (Nat.ble 2 (b.length)) (cond (Nat.ble 2 (c.length)) (cond ((Nat.beq ((b.take 2).length) 2)&&((Nat.ble 2 (b.length))&&(!false))) (cond ((Nat.beq ((c.take 2).length) 2)&&((Nat.ble 2 (c.length))&&(!false))) (cond (Nat.ble 2 ((setCells b 0 (b.take 2)).length)) (cond (Nat.ble 2 ((setCells c 0 (c.take 2)).length)) (r0 ((setCells b 0 (b.take 2)).take 2) ((setCells c 0 (c.take 2)).take 2) true) none) none) none) none) none) none))) none) none)))))))))))))
def W0:=(Af (@c_ R)).1
theorem dA:@W0 R=@c_ R:=(Af _).2
def Amb:Hints:={ H:=hL,modes:=[(3,0),(3,0),(0,0)] }
def As0:Ef:=[(140,j3 N),(93,Lh N),(141,A2g N),(71,mZ N),(55,cW N),(142,A2i N)]
def j6 (F:KF R):LA→LA→Bool→O R:=(fun ae af ag=>F (.tup [(.pagg ae false),(.pagg af false),(.bool ag)]) [])
theorem j7 (f:LA) (m:Bool) (e:LA) (l:Bool) (F:KF R):Cm (As0 N) Amb N 91 [(.pagg f m),(.pagg e l)] [] F=(W0 N f m e l (j6 F)):=by
 rw[dA]
 kernel_rfl
def dB (a:LA) (h:Am) (k:KF R):O R :=
 match a,h with
 | [(.pagg f m),(.pagg e l)],[]=>(W0 N f m e l (j6 k))
 | _,_=>none
theorem j8:Ao N 91 @dB:=by
 intro R Q a h k j;unfold dB;split;exact Ay (j7 ..) (j7 ..) ⟨j4 N,Li N,A2h N,m7 N,cX N,A2j N,trivial⟩;exact A0
def Amc:=Az (j8 N)
def Amd:=Cj (j8 N)
end
end Gx

namespace Gx
open Go Go.Proofs
open IntKind (wrap)
set_option maxRecDepth 100000
noncomputable section
variable {R:Type} (N:Nat)
def JJ (r0:LA→O R) (e:Bool) (c:LA) (d:Bool) (b:LA):O R :=
 (cond (Nat.ble 2 (c.length)) (cond (Nat.ble 2 (b.length)) (pH N (c.take 2) e (b.take 2) d (fun l=>(cond ((Nat.beq 0 0)&&((Nat.beq (l.length) 2)&&(Nat.beq 2 2))) (cond (Nat.ble 2 (c.length)) (cond (Nat.ble 2 (l.length)) (W0 N (c.take 2) e (l.take 2) false (fun f w af=>(cond ((Nat.beq 0 0)&&((Nat.beq (f.length) 2)&&(Nat.beq 2 2))) (cond ((Nat.beq 0 0)&&((Nat.beq (w.length) 2)&&(Nat.beq 2 2))) (cond (Nat.ble 2 (b.length)) (cond (Nat.ble 2 (l.length)) (W0 N (b.take 2) d (l.take 2) false (fun g x ag=>(cond ((Nat.beq 0 0)&&((Nat.beq (g.length) 2)&&(Nat.beq 2 2))) (cond ((Nat.beq 0 0)&&((Nat.beq (x.length) 2)&&(Nat.beq 2 2))) (ON g fun y=>(cond y (cond (Nat.ble 2 (f.length)) (CV N (f.take 2) false (fun i=>(cond (Nat.ble 2 (g.length)) (CV N (g.take 2) false (fun v=>(cond ((Nat.beq (i.length) 2)&&((Nat.ble 2 (f.length))&&(!false))) (cond ((Nat.beq (v.length) 2)&&((Nat.ble 2 (g.length))&&(!false))) (cond (Nat.ble 2 ((setCells f 0 i).length)) (Co 1 ((setCells g 0 v).drop 1) fun o p=>(cond ((Nat.beq (((setCells f 0 i).take 2).length) 2)&&(Nat.ble 2 3)) (cond ((Nat.beq 1 1)&&(Nat.ble 3 ((setCells [(.bool false),.nsl,.nsl] 0 ((setCells f 0 i).take 2)).length))) (cond ((Nat.beq 0 0)&&((Nat.beq (((setCells [(.bool false),.nsl,.nsl] 0 ((setCells f 0 i).take 2)).set 2 (.imm o p 1 false false)).length) 3)&&(Nat.beq 3 3))) (cond (Nat.ble 3 (((setCells [(.bool false),.nsl,.nsl] 0 ((setCells f 0 i).take 2)).set 2 (.imm o p 1 false false)).length)) (r0 (((setCells [(.bool false),.nsl,.nsl] 0 ((setCells f 0 i).take 2)).set 2 (.imm o p 1 false false)).take 3)) none) none) none) none)) none) none) none))) none))) none) (cond (Nat.ble 2 (f.length)) (Co 1 (g.drop 1) fun q r=>(cond ((Nat.beq ((f.take 2).length) 2)&&(Nat.ble 2 3)) (cond ((Nat.beq 1 1)&&(Nat.ble 3 ((setCells [(.bool false),.nsl,.nsl] 0 (f.take 2)).length))) (cond ((Nat.beq 0 0)&&((Nat.beq (((setCells [(.bool false),.nsl,.nsl] 0 (f.take 2)).set 2 (.imm q r 1 false false)).length) 3)&&(Nat.beq 3 3))) (cond (Nat.ble 3 (((setCells [(.bool false),.nsl,.nsl] 0 (f.take 2)).set 2 (.imm q r 1 false false)).length)) (r0 (((setCells [(.bool false),.nsl,.nsl] 0 (f.take 2)).set 2 (.imm q r 1 false false)).take 3)) none) none) none) none)) none))) none) none))) none) none) none) none))) none) none) none))) none) none)
def gw (r0:LA→O R) (q0:O R) (c:LA) (e:Bool) (b:LA) (d:Bool):O R :=
 (cond (Nat.ble 2 (b.length)) (FE N (b.take 2) d (fun z=>(cond (z==0) (OQ N (fun s=>(cond ((Nat.beq 0 0)&&((Nat.beq (s.length) 3)&&(Nat.beq 3 3))) (cond (Nat.ble 3 (s.length)) (r0 (s.take 3)) none) none))) (cond (Nat.ble 2 (b.length)) (FD N (b.take 2) d (fun n=>(cond ((Nat.beq 0 0)&&((Nat.beq (n.length) 2)&&(Nat.beq 2 2))) (ON n fun aa=>(cond ((!aa)==true) (Co 1 (n.drop 1) fun ab ac=>(DZ N ab ac false false [(.int .u32 1)] 1 false true (fun ad=>(cond (cond true ad false) (cond (Nat.ble 2 (c.length)) (FD N (c.take 2) e (fun m=>(Co 1 (n.drop 1) fun t u=>(cond ((Nat.beq (m.length) 2)&&(Nat.ble 2 3)) (cond ((Nat.beq 1 1)&&(Nat.ble 3 ((setCells [(.bool false),.nsl,.nsl] 0 m).length))) (cond ((Nat.beq 0 0)&&((Nat.beq (((setCells [(.bool false),.nsl,.nsl] 0 m).set 2 (.imm t u 1 false false)).length) 3)&&(Nat.beq 3 3))) (cond (Nat.ble 3 (((setCells [(.bool false),.nsl,.nsl] 0 m).set 2 (.imm t u 1 false false)).length)) (r0 (((setCells [(.bool false),.nsl,.nsl] 0 m).set 2 (.imm t u 1 false false)).take 3)) none) none) none) none)))) none) q0)))) q0)) none))) none)))) none)
def Rf:=(Af (fun (N:Nat) (c:LA) (e:Bool) (b:LA) (d:Bool) (r0:LA→O R)=>(gw N r0 (JJ N r0 e c d b) c e b d))).1
theorem pI (c e b d r0):(@Rf R N c e b d r0)=(gw N r0 (JJ N r0 e c d b) c e b d):=by rw[Rf,(Af _).2]
def xI:Hints:={ H:=(hS hL (hS hL (hJ [2,3,4] hL hL))),modes:=[(3,0)] }
def Aez:Ef:=[(75,w_ N),(41,wk N),(88,wX N),(89,Asy N),(90,A2e N),(91,Amc N),(92,m8 N)]
def Axy (F:KF R):=Ja Tryz.f54 xI (Aez N) [] N F
def JK (F:KF R):LA→O R:=(fun ae=>F (.pagg ae false) [])
def Axz (e:Bool) (c:LA) (d:Bool) (b:LA):St:=⟨[(2,(op 0)),(3,(op 1)),(4,(op 2))],(hq [(bP e 0 c),(bP d 0 b),⟨false,false,false,false,0,[(.bool false),.nsl,.nsl],false⟩])⟩
def Ax0 (F:KF R):=Axy N F [1,1,1] []
theorem Ae0 (F:KF R) (e:Bool) (c:LA) (d:Bool) (b:LA):A8 (Ax0 N F) (Axz e c d b)=(JJ N (JK F) e c d b):=by
 kernel_rfl
theorem xJ (c:LA) (e:Bool) (b:LA) (d:Bool) (F:KF R):Cm (Aez N) xI N 54 [(.pagg c e),(.pagg b d)] [] F=(Rf N c e b d (JK F)):=by
 rw[pI]
 exact Eq.trans (by kernel_rfl) (Bn (gw N (JK F) · c e b d) ((Ar ..).trans (Ae0 N F e c d b)):_)
def pJ (a:LA) (h:Am) (k:KF R):O R :=
 match a,h with
 | [(.pagg c e),(.pagg b d)],[]=>(Rf N c e b d (JK k))
 | _,_=>none
theorem xK:Ao N 54 @pJ:=by
 intro R Q a h k j;unfold pJ;split;exact Ay (xJ ..) (xJ ..) ⟨wc N,wl N,wY N,Asz N,A2f N,Amd N,m9 N,trivial⟩;exact A0
def JL:=Az (xK N)
def JM:=Cj (xK N)
def TZ (b:Int) (r0:LA→O R):O R :=
 (Lj N b (fun d=>(Lj N 1 (fun e=>(Rf N d false e false (fun c=>(cond ((Nat.beq 0 0)&&((Nat.beq (c.length) 3)&&(Nat.beq 3 3))) (cond (Nat.ble 3 (c.length)) (r0 (c.take 3)) none) none)))))))
def Fk:=(Af (@TZ R)).1
theorem XS:@Fk R=@TZ R:=(Af _).2
def Ame:Ef:=[(55,cW N),(54,JL N)]
def dC (F:KF R):LA→O R:=(fun f=>F (.pagg f false) [])
theorem dD (b:Int) (F:KF R):Cm (Ame N) Ou N 20 [(iv b)] [] F=(Fk N b (dC F)):=by
 rw[XS]
 kernel_rfl
def XT (a:LA) (h:Am) (k:KF R):O R :=
 match a,h with
 | [(.int .i64 b)],[]=>(Fk N b (dC k))
 | _,_=>none
theorem dE:Ao N 20 @XT:=by
 intro R Q a h k j;unfold XT;split;exact Ay (dD ..) (dD ..) ⟨cX N,JM N,trivial⟩;exact A0
def dF:=Az (dE N)
def dG:=Cj (dE N)
def T_ (N:Nat) (r0:Nat→O R) (b:Nat) (c:LA) (k0:Int→O R) (d:Int):O R :=
 (cond ((decide (d>0))==true) (cond (Ac (wrap .i64 (d - 1)) b) (An .u32 (c.drop (0+(((wrap .i64 (d - 1)).toNat)*1))) fun e=>(cond (cond true (e==0) false) (k0 (wrap .i64 (d - 1))) (cond ((decide ((0:Int)≤(0:Int)))&&((decide (0≤d))&&((decide (d≤((b:Nat):Int)))&&(decide (((b:Nat):Int)≤((b:Nat):Int)))))) (r0 (d.toNat)) none))) none) (cond ((decide ((0:Int)≤(0:Int)))&&((decide (0≤d))&&((decide (d≤((b:Nat):Int)))&&(decide (((b:Nat):Int)≤((b:Nat):Int)))))) (r0 (d.toNat)) none))
def W1 (r0:Nat→O R) (b:Nat) (c:LA):Nat→Int→O R
 | 0,_=>none
 | n+1,d=>(T_ N r0 b c (W1 r0 b c n) d)
def pK (N:Nat) (r0:Nat→O R) (q0:Int→O R) (b:Nat) (c:LA):O R :=
 (q0 ((b:Nat):Int))
def W2:=(Af (fun (N b:Nat) (c:LA) (r0:Nat→O R)=>(pK N r0 (fun d=>(W1 N r0 b c N d)) b c))).1
theorem m_ (b c r0):(@W2 R N b c r0)=(pK N r0 (fun d=>(W1 N r0 b c N d)) b c):=by rw[W2,(Af _).2]
def A7c (F:KF R):=Ja Tryz.f171 wL [] [100000] N F
def D_ (c:LA) (F:KF R):Nat→O R:=(fun f=>F (.own 100000 0 f) [(100000,(bQ 1 c))])
def A7d (b:Nat) (c:LA) (d:Int):St:=⟨[(0,(.own 100000 0 b)),(3,(iv d))],[(100000,(bQ 1 c))]⟩
def A7e (F:KF R):=A7c N F [1,1,0,0] []
theorem pL (F:KF R) (b:Nat) (c:LA):∀ (n:Nat) (d:Int),Ap (A7e N F) n (A7d b c d)=(W1 N (D_ c F) b c n d)
 | 0,_=>by kernel_rfl
 | n+1,d=>Eq.trans (by kernel_rfl) (Bn (T_ N (D_ c F) b c · d) (funext fun d=>(pL F b c n d)):_)
theorem gy (b:Nat) (c:LA) (F:KF R):Cm [] wL N 171 [(.own 100000 0 b)] [(100000,(bQ 1 c))] F=(W2 N b c (D_ c F)):=by
 rw[m_]
 exact Eq.trans (by kernel_rfl) (Bn (pK N (D_ c F) · b c) (funext fun d=>(Aj ..).trans (pL N F b c N d)):_)
def Ae1 (a:LA) (h:Am) (k:KF R):O R :=
 match a,h with
 | [(.own 100000 0 b)],[(100000,⟨false,false,true,false,1,c,false⟩)]=>(W2 N b c (D_ c k))
 | _,_=>none
theorem Ao5:Ao N 171 @Ae1:=by
 intro R Q a h k j;unfold Ae1;split;exact Ay (gy ..) (gy ..) trivial;exact A0
def t_:=Az (Ao5 N)
def ta:=Cj (Ao5 N)
def FJ (b:Int) (r0:Nat→LA→O R):O R :=
 (W2 N 2 [(.int .u32 (wrap .u32 b)),(.int .u32 (wrap .u32 (Int.fdiv b (2 ^ 32))))] (fun c=>(r0 c [(.int .u32 (wrap .u32 b)),(.int .u32 (wrap .u32 (Int.fdiv b (2 ^ 32))))])))
def Ce:=(Af (@FJ R)).1
theorem JN:@Ce R=@FJ R:=(Af _).2
def zs:Ef:=[(171,t_ N)]
def OV (F:KF R):Nat→LA→O R:=(fun d e=>F (.own 300000 0 d) (hq [(bQ 1 e)]))
theorem OW (b:Int) (F:KF R):Cm (zs N) Ban N 149 [(.int .u64 b)] [] F=(Ce N b (OV F)):=by
 rw[JN]
 kernel_rfl
def JO (a:LA) (h:Am) (k:KF R):O R :=
 match a,h with
 | [(.int .u64 b)],[]=>(Ce N b (OV k))
 | _,_=>none
theorem OX:Ao N 149 @JO:=by
 intro R Q a h k j;unfold JO;split;exact Ay (OW ..) (OW ..) ⟨ta N,trivial⟩;exact A0
def Hi:=Az (OX N)
def Hj:=Cj (OX N)
def mb (N:Nat) (d:Bool) (b:Nat) (c:LA) (r0:Bool→O R):O R :=
 (cond (d==true) (r0 (cond true (decide (((b:Nat):Int)>0)) false)) (r0 false))
def Kq:=(Af (@mb R)).1
theorem j9:@Kq R=@mb R:=(Af _).2
def pM (b:Nat) (c:LA) (F:KF R):Bool→O R:=(fun e=>F (.agg [(.bool e),(.own 100000 0 b)]) [(100000,(bQ 1 c))])
theorem pN (d:Bool) (b:Nat) (c:LA) (F:KF R):Cm [] Dr N 148 [(.bool d),(.own 100000 0 b)] [(100000,(bQ 1 c))] F=(Kq N d b c (pM b c F)):=by
 rw[j9]
 kernel_rfl
def j_ (a:LA) (h:Am) (k:KF R):O R :=
 match a,h with
 | [(.bool d),(.own 100000 0 b)],[(100000,⟨false,false,true,false,1,c,false⟩)]=>(Kq N d b c (pM b c k))
 | _,_=>none
theorem pO:Ao N 148 @j_:=by
 intro R Q a h k j;unfold j_;split;exact Ay (pN ..) (pN ..) trivial;exact A0
def CW:=Az (pO N)
def CX:=Cj (pO N)
def dH (b:Int) (r0:Bool→Nat→LA→O R):O R :=
 (cond (decide (b<0)) (Ce N (wrap .u64 ((0:Int) - (wrap .u64 b))) (fun c d=>(Kq N true c d (fun g=>(r0 g c d))))) (Ce N (wrap .u64 b) (fun e f=>(Kq N false e f (fun i=>(r0 i e f))))))
def FK:=(Af (@dH R)).1
theorem dI:@FK R=@dH R:=(Af _).2
def As1:Ef:=[(149,Hi N),(148,CW N)]
def ja (F:KF R):Bool→Nat→LA→O R:=(fun l m n=>F (.agg [(.bool l),(.own 300000 0 m)]) (hq [(bQ 1 n)]))
theorem jb (b:Int) (F:KF R):Cm (As1 N) Dr N 104 [(iv b)] [] F=(FK N b (ja F)):=by
 rw[dI]
 kernel_rfl
def dJ (a:LA) (h:Am) (k:KF R):O R :=
 match a,h with
 | [(.int .i64 b)],[]=>(FK N b (ja k))
 | _,_=>none
theorem jc:Ao N 104 @dJ:=by
 intro R Q a h k j;unfold dJ;split;exact Ay (jb ..) (jb ..) ⟨Hj N,CX N,trivial⟩;exact A0
def Amf:=Az (jc N)
def Amg:=Cj (jc N)
def dK (b:Int) (r0:LA→O R):O R :=
 (FK N b (fun d c e=>(r0 [(.bool d),(.imm (e.take (c*1)) c 1 false false),(.imm [(.int .u32 1)] 1 1 false false)])))
def B6:=(Af (@dK R)).1
theorem dL:@B6 R=@dK R:=(Af _).2
def As2:Ef:=[(104,Amf N)]
def jd (F:KF R):LA→O R:=(fun f=>F (.pagg f false) [])
theorem je (b:Int) (F:KF R):Cm (As2 N) Ou N 60 [(iv b)] [] F=(B6 N b (jd F)):=by
 rw[dL]
 kernel_rfl
def dM (a:LA) (h:Am) (k:KF R):O R :=
 match a,h with
 | [(.int .i64 b)],[]=>(B6 N b (jd k))
 | _,_=>none
theorem jf:Ao N 60 @dM:=by
 intro R Q a h k j;unfold dM;split;exact Ay (je ..) (je ..) ⟨Amg N,trivial⟩;exact A0
def F7:=Az (jf N)
def F8:=Cj (jf N)
def Xz (N:Nat) (r0:LA→Nat→O R) (e:LA) (b:Nat) (f c:Bool) (k0:Int→O R) (d:Int):O R :=
 (cond ((decide (d>0))==true) (cond (Ac (wrap .i64 (d - 1)) b) (An .u32 (e.drop (((wrap .i64 (d - 1)).toNat)*1)) fun g=>(cond (cond true (g==0) false) (k0 (wrap .i64 (d - 1))) (cond ((decide ((0:Int)≤(0:Int)))&&((decide (0≤d))&&((decide (d≤((b:Nat):Int)))&&(decide (((b:Nat):Int)≤((b:Nat):Int)))))) (r0 (e.take ((d.toNat)*1)) (d.toNat)) none))) none) (cond ((decide ((0:Int)≤(0:Int)))&&((decide (0≤d))&&((decide (d≤((b:Nat):Int)))&&(decide (((b:Nat):Int)≤((b:Nat):Int)))))) (r0 (e.take ((d.toNat)*1)) (d.toNat)) none))
def Lv (r0:LA→Nat→O R) (e:LA) (b:Nat) (f c:Bool):Nat→Int→O R
 | 0,_=>none
 | n+1,d=>(Xz N r0 e b f c (Lv r0 e b f c n) d)
def T' (N:Nat) (r0:LA→Nat→O R) (q0:Int→O R) (e:LA) (b:Nat) (f c:Bool):O R :=
 (q0 ((b:Nat):Int))
def Cq:=(Af (fun (N:Nat) (e:LA) (b:Nat) (f c:Bool) (r0:LA→Nat→O R)=>(T' N r0 (fun d=>(Lv N r0 e b f c N d)) e b f c))).1
theorem jg (e b f c r0):(@Cq R N e b f c r0)=(T' N r0 (fun d=>(Lv N r0 e b f c N d)) e b f c):=by rw[Cq,(Af _).2]
def As3 (F:KF R):=Ja Tryz.f171 wL [] [] N F
def Lw (c:Bool) (F:KF R):LA→Nat→O R:=(fun i l=>F (.imm i l 1 false c) [])
def As4 (e:LA) (b:Nat) (f c:Bool) (d:Int):St:=⟨[(0,(.imm e b 1 f c)),(3,(iv d))],[]⟩
def As5 (F:KF R):=As3 N F [1,1,0,0] []
theorem XU (F:KF R) (e:LA) (b:Nat) (f c:Bool):∀ (n:Nat) (d:Int),Ap (As5 N F) n (As4 e b f c d)=(Lv N (Lw c F) e b f c n d)
 | 0,_=>by kernel_rfl
 | n+1,d=>Eq.trans (by kernel_rfl) (Bn (Xz N (Lw c F) e b f c · d) (funext fun d=>(XU F e b f c n d)):_)
theorem P6 (e:LA) (b:Nat) (f c:Bool) (F:KF R):Cm [] wL N 171 [(.imm e b 1 f c)] [] F=(Cq N e b f c (Lw c F)):=by
 rw[jg]
 exact Eq.trans (by kernel_rfl) (Bn (T' N (Lw c F) · e b f c) (funext fun d=>(Aj ..).trans (XU N F e b f c N d)):_)
def jh (a:LA) (h:Am) (k:KF R):O R :=
 match a,h with
 | [(.imm e b 1 f c)],[]=>(Cq N e b f c (Lw c k))
 | _,_=>none
theorem pP:Ao N 171 @jh:=by
 intro R Q a h k j;unfold jh;split;exact Ay (P6 ..) (P6 ..) trivial;exact A0
def Uo:=Az (pP N)
def Up:=Cj (pP N)
def ji (N:Nat) (r0:LA→O R) (k0:O R):O R :=
 (r0 [])
def Uq (r0:LA→O R):Nat→O R
 | 0=>none
 | n+1=>(ji N r0 (Uq r0 n))
def UA (N:Nat) (r0:LA→O R) (q0:O R):O R :=
 q0
def EA:=(Af (fun (N:Nat) (r0:LA→O R)=>(UA N r0 (Uq N r0 N)))).1
theorem jj (r0):(@EA R N r0)=(UA N r0 (Uq N r0 N)):=by rw[EA,(Af _).2]
def As6 (F:KF R):=Ja Tryz.f171 wL [] [] N F
def Ur (F:KF R):LA→O R:=(fun b=>F (.own 300000 0 0) (hq [(bQ 1 b)]))
def As7:St:=⟨[(0,.nsl),(3,(iv 0))],[]⟩
def As8 (F:KF R):=As6 N F [1,1,0,0] []
theorem XV (F:KF R):∀ (n:Nat) ,Ap (As8 N F) n As7=(Uq N (Ur F) n)
 | 0=>by kernel_rfl
 | n+1=>Eq.trans (by kernel_rfl) (Bn (ji N (Ur F) ·) (XV F n):_)
theorem pQ (F:KF R):Cm [] wL N 171 [.nsl] [] F=(EA N (Ur F)):=by
 rw[jj]
 exact Eq.trans (by kernel_rfl) (Bn (UA N (Ur F) ·) ((Aj ..).trans (XV N F N)):_)
def FL (N:Nat) (r0:Int→O R) (e:LA) (d:Nat) (b:Bool) (f:LA) (k0:Int→O R) (c:Int):O R :=
 (cond (decide (c≥0)) (cond (Ac c d) (An .u32 (e.drop ((c.toNat)*1)) fun m=>(cond (Ac c 0) (An .u32 (f.drop (0+((c.toNat)*1))) fun o=>(cond (decide (m<o)) (r0 (-1)) (cond (Ac c d) (An .u32 (e.drop ((c.toNat)*1)) fun p=>(cond (Ac c 0) (An .u32 (f.drop (0+((c.toNat)*1))) fun q=>(cond (decide (p>q)) (r0 1) (k0 (wrap .i64 (c - 1))))) none)) none))) none)) none) (r0 0))
def Rg (r0:Int→O R) (e:LA) (d:Nat) (b:Bool) (f:LA):Nat→Int→O R
 | 0,_=>none
 | n+1,c=>(FL N r0 e d b f (Rg r0 e d b f n) c)
def JP (r0:Int→O R) (q0:LA→Nat→LA→Int→O R) (g:LA) (i:Nat) (l b:Bool):O R :=
 (Cq N g i l b (fun e d=>(EA N (fun f=>(cond (((d:Nat):Int) != 0) (cond (decide (((d:Nat):Int)<0)) (r0 (-1)) (r0 1)) (q0 e d f (wrap .i64 (((d:Nat):Int) - 1))))))))
def S9:=(Af (fun (N:Nat) (g:LA) (i:Nat) (l b:Bool) (r0:Int→O R)=>(JP N r0 (fun e d f c=>(Rg N r0 e d b f N c)) g i l b))).1
theorem dN (g i l b r0):(@S9 R N g i l b r0)=(JP N r0 (fun e d f c=>(Rg N r0 e d b f N c)) g i l b):=by rw[S9,(Af _).2]
def N6 (a:LA) (h:Am) (k:KF R):O R :=
 match a,h with
 | [(.imm g i 1 l b)],[]=>(Cq N g i l b (Lw b k))
 | [.nsl],[]=>(EA N (Ur k))
 | _,_=>none
theorem Ox:Ao N 171 @N6:=by
 intro R Q a h k j;unfold N6;split;exact Ay (P6 ..) (P6 ..) trivial;exact Ay (pQ ..) (pQ ..) trivial;exact A0
def FM:=Az (Ox N)
def FN:=Cj (Ox N)
def pR:Ef:=[(171,FM N)]
def Amh (F:KF R):=Ja Tryz.f132 Ao1 (pR N) [] N F
def Rh (F:KF R):Int→O R:=(fun r=>F (iv r) [])
def Ami (e:LA) (d:Nat) (b:Bool) (f:LA) (c:Int):St:=⟨[(0,(.imm e d 1 false b)),(1,(.own 300000 0 0)),(5,(iv c))],(hq [(bQ 1 f)])⟩
def Amj (F:KF R):=Amh N F [1,1,1,0,1,0] []
theorem OY (F:KF R) (e:LA) (d:Nat) (b:Bool) (f:LA):∀ (n:Nat) (c:Int),Ap (Amj N F) n (Ami e d b f c)=(Rg N (Rh F) e d b f n c)
 | 0,_=>by kernel_rfl
 | n+1,c=>Eq.trans (by kernel_rfl) (Bn (FL N (Rh F) e d b f · c) (funext fun c=>(OY F e d b f n c)):_)
theorem jk (g:LA) (i:Nat) (l b:Bool) (F:KF R):Cm (pR N) Ao1 N 132 [(.imm g i 1 l b),.nsl] [] F=(S9 N g i l b (Rh F)):=by
 rw[dN]
 exact Eq.trans (by kernel_rfl) (Bn (JP N (Rh F) · g i l b) (funext fun e=>funext fun d=>funext fun f=>funext fun c=>(Aj ..).trans (OY N F e d b f N c)):_)
def dO (a:LA) (h:Am) (k:KF R):O R :=
 match a,h with
 | [(.imm g i 1 l b),.nsl],[]=>(S9 N g i l b (Rh k))
 | _,_=>none
theorem jl:Ao N 132 @dO:=by
 intro R Q a h k j;unfold dO;split;exact Ay (jk ..) (jk ..) ⟨FN N,trivial⟩;exact A0
def jm:=Az (jl N)
def jn:=Cj (jl N)
def gz (b:LA) (c:Bool) (r0:LA→Bool→LA→Nat→Bool→O R):O R :=
 (Co 1 (b.drop 2) fun d e=>(S9 N d e false c (fun f=>(cond (f==0) (r0 [(.bool false),.nsl] false [(.int .u32 1)] 1 false) (cond (Nat.ble 2 (b.length)) (Co 1 (b.drop 2) fun g i=>(cond ((Nat.beq 0 0)&&((Nat.beq ((b.take 2).length) 2)&&(Nat.beq 2 2))) (cond (Nat.ble 2 ((b.take 2).length)) (r0 ((b.take 2).take 2) c g i c) none) none)) none)))))
def M7:=(Af (@gz R)).1
theorem UB:@M7 R=@gz R:=(Af _).2
def Ax1:Hints:={ H:=hL,nils:=[(3,1)],modes:=[(3,0),(1,1)] }
def A2k:Ef:=[(132,jm N)]
def xL (F:KF R):LA→Bool→LA→Nat→Bool→O R:=(fun l m n o p=>F (.tup [(.pagg l m),(.imm n o 1 false p)]) [])
theorem xM (b:LA) (c:Bool) (F:KF R):Cm (A2k N) Ax1 N 101 [(.pagg b c)] [] F=(M7 N b c (xL F)):=by
 rw[UB]
 kernel_rfl
def pS (a:LA) (h:Am) (k:KF R):O R :=
 match a,h with
 | [(.pagg b c)],[]=>(M7 N b c (xL k))
 | _,_=>none
theorem xN:Ao N 101 @pS:=by
 intro R Q a h k j;unfold pS;split;exact Ay (xM ..) (xM ..) ⟨jn N,trivial⟩;exact A0
def Y3:=Az (xN N)
def Y4:=Cj (xN N)
def Ae2 (b:LA) (c:Bool) (r0:Int→O R):O R :=
 (Co 1 (b.drop 1) fun d e=>(S9 N d e false c (fun f=>(cond (f==0) (r0 0) (ON b fun g=>(cond g (r0 (-1)) (r0 1)))))))
def UC:=(Af (@Ae2 R)).1
theorem xO:@UC R=@Ae2 R:=(Af _).2
def A7f:Ef:=[(132,jm N)]
def Ae3 (F:KF R):Int→O R:=(fun i=>F (iv i) [])
theorem Ae4 (b:LA) (c:Bool) (F:KF R):Cm (A7f N) Dr N 144 [(.pagg b c)] [] F=(UC N b c (Ae3 F)):=by
 rw[xO]
 kernel_rfl
def xP (a:LA) (h:Am) (k:KF R):O R :=
 match a,h with
 | [(.pagg b c)],[]=>(UC N b c (Ae3 k))
 | _,_=>none
theorem Ae5:Ao N 144 @xP:=by
 intro R Q a h k j;unfold xP;split;exact Ay (Ae4 ..) (Ae4 ..) ⟨jn N,trivial⟩;exact A0
def Ae6:=Az (Ae5 N)
def Ae7:=Cj (Ae5 N)
def Ae8 (b:LA) (c:Bool) (r0:Int→O R):O R :=
 (cond (Nat.ble 3 (b.length)) (M7 N (b.take 3) c (fun d e i l m=>(cond ((Nat.beq 0 0)&&((Nat.beq (d.length) 2)&&(Nat.beq 2 2))) (cond (Nat.ble 2 (d.length)) (UC N (d.take 2) e (fun f=>(r0 f))) none) none))) none)
def Sa:=(Af (@Ae8 R)).1
theorem xQ:@Sa R=@Ae8 R:=(Af _).2
def A7g:Ef:=[(101,Y3 N),(144,Ae6 N)]
def Ae9 (F:KF R):Int→O R:=(fun g=>F (iv g) [])
theorem Afa (b:LA) (c:Bool) (F:KF R):Cm (A7g N) Dr N 95 [(.pagg b c)] [] F=(Sa N b c (Ae9 F)):=by
 rw[xQ]
 kernel_rfl
def xR (a:LA) (h:Am) (k:KF R):O R :=
 match a,h with
 | [(.pagg b c)],[]=>(Sa N b c (Ae9 k))
 | _,_=>none
theorem Afb:Ao N 95 @xR:=by
 intro R Q a h k j;unfold xR;split;exact Ay (Afa ..) (Afa ..) ⟨Y4 N,Ae7 N,trivial⟩;exact A0
def UD:=Az (Afb N)
def UE:=Cj (Afb N)
def FO (N:Nat) (b:Int) (r0:Bool→O R):O R :=
 (r0 (b != b))
def Ri:=(Af (@FO R)).1
theorem JQ:@Ri R=@FO R:=(Af _).2
def OZ (F:KF R):Bool→O R:=(fun c=>F (.bool c) [])
theorem O_ (b:Int) (F:KF R):Cm [] Dr N 145 [(iv b)] [] F=(Ri N b (OZ F)):=by
 rw[JQ]
 kernel_rfl
def JR (a:LA) (h:Am) (k:KF R):O R :=
 match a,h with
 | [(.int .i64 b)],[]=>(Ri N b (OZ k))
 | _,_=>none
theorem O':Ao N 145 @JR:=by
 intro R Q a h k j;unfold JR;split;exact Ay (O_ ..) (O_ ..) trivial;exact A0
def tc:=Az (O' N)
def te:=Cj (O' N)
def W3 (b c:Int) (r0:Int→O R):O R :=
 (Ri N b (fun e=>(Ri N c (fun d=>(cond e (cond d (r0 0) (r0 (-1))) (cond d (r0 1) (cond (decide (b<c)) (r0 (-1)) (cond (decide (b>c)) (r0 1) (r0 0)))))))))
def M8:=(Af (@W3 R)).1
theorem AS:@M8 R=@W3 R:=(Af _).2
def pT:Ef:=[(145,tc N)]
def FP (F:KF R):Int→O R:=(fun f=>F (iv f) [])
theorem FQ (b c:Int) (F:KF R):Cm (pT N) Dr N 98 [(iv b),(iv c)] [] F=(M8 N b c (FP F)):=by
 rw[AS]
 kernel_rfl
def AT (a:LA) (h:Am) (k:KF R):O R :=
 match a,h with
 | [(.int .i64 b),(.int .i64 c)],[]=>(M8 N b c (FP k))
 | _,_=>none
theorem FR:Ao N 98 @AT:=by
 intro R Q a h k j;unfold AT;split;exact Ay (FQ ..) (FQ ..) ⟨te N,trivial⟩;exact A0
def md:=Az (FR N)
def mf:=Cj (FR N)
def Ll (N:Nat) (r0:Int→O R) (c:LA) (b:Nat) (d e:Bool) (k0:Int→Int→Int→O R) (g i f:Int):O R :=
 (cond (decide (f<i)) (cond (Ac f b) (An .u32 (c.drop ((f.toNat)*1)) fun l=>(cond (decide ((wrap .i64 (32*f))<0)) none (k0 (To .u64 g (wrap .u64 ((wrap .u64 l)*2 ^ (min ((wrap .i64 (32*f)).toNat) 64)))) i (wrap .i64 (f+1))))) none) (r0 g))
def Jx (r0:Int→O R) (c:LA) (b:Nat) (d e:Bool):Nat→Int→Int→Int→O R
 | 0,_,_,_=>none
 | n+1,g,i,f=>(Ll N r0 c b d e (Jx r0 c b d e n) g i f)
def pU (N:Nat) (r0:Int→O R) (q0:Int→Int→Int→O R) (c:LA) (b:Nat) (d e:Bool):O R :=
 (q0 0 ((b:Nat):Int) 0)
def Sb:=(Af (fun (N:Nat) (c:LA) (b:Nat) (d e:Bool) (r0:Int→O R)=>(pU N r0 (fun g i f=>(Jx N r0 c b d e N g i f)) c b d e))).1
theorem xS (c b d e r0):(@Sb R N c b d e r0)=(pU N r0 (fun g i f=>(Jx N r0 c b d e N g i f)) c b d e):=by rw[Sb,(Af _).2]
def Afc:Hints:={ H:=(hS hL (hS hL (hS (hS hL (hS (hP [3,6,7,8] hL) hL)) hL))) }
def A2l (F:KF R):=Ja Tryz.f181 Afc [] [] N F
def FS (F:KF R):Int→O R:=(fun m=>F (.int .u64 m) [])
def A2m (c:LA) (b:Nat) (d e:Bool) (g i f:Int):St:=⟨[(3,(.int .u64 g)),(6,(.imm c b 1 d e)),(7,(iv i)),(8,(iv f))],[]⟩
def A2n (F:KF R):=A2l N F [1,1,0,1,0] []
theorem jo (F:KF R) (c:LA) (b:Nat) (d e:Bool):∀ (n:Nat) (g i f:Int),Ap (A2n N F) n (A2m c b d e g i f)=(Jx N (FS F) c b d e n g i f)
 | 0,_,_,_=>by kernel_rfl
 | n+1,g,i,f=>Eq.trans (by kernel_rfl) (Bn (Ll N (FS F) c b d e · g i f) (funext fun g=>funext fun i=>funext fun f=>(jo F c b d e n g i f)):_)
theorem Afd (c:LA) (b:Nat) (d e:Bool) (F:KF R):Cm [] Afc N 181 [(.imm c b 1 d e)] [] F=(Sb N c b d e (FS F)):=by
 rw[xS]
 exact Eq.trans (by kernel_rfl) (Bn (pU N (FS F) · c b d e) (funext fun g=>funext fun i=>funext fun f=>(Aj ..).trans (jo N F c b d e N g i f)):_)
def xT (a:LA) (h:Am) (k:KF R):O R :=
 match a,h with
 | [(.imm c b 1 d e)],[]=>(Sb N c b d e (FS k))
 | _,_=>none
theorem Afe:Ao N 181 @xT:=by
 intro R Q a h k j;unfold xT;split;exact Ay (Afd ..) (Afd ..) trivial;exact A0
def mg:=Az (Afe N)
def mh:=Cj (Afe N)
def mj (c:LA) (d:Nat) (e b:Bool) (r0:Int→Bool→O R):O R :=
 (Cq N c d e b (fun g f=>(cond (decide (((f:Nat):Int)>2)) (r0 0 false) (Sb N g f false b (fun i=>(r0 i true))))))
def EB:=(Af (@mj R)).1
theorem jq:@EB R=@mj R:=(Af _).2
def Ax2:Ef:=[(171,Uo N),(181,mg N)]
def pV (F:KF R):Int→Bool→O R:=(fun l m=>F (.tup [(.int .u64 l),(.bool m)]) [])
theorem pW (c:LA) (d:Nat) (e b:Bool) (F:KF R):Cm (Ax2 N) Dr N 146 [(.imm c d 1 e b)] [] F=(EB N c d e b (pV F)):=by
 rw[jq]
 kernel_rfl
def jr (a:LA) (h:Am) (k:KF R):O R :=
 match a,h with
 | [(.imm c d 1 e b)],[]=>(EB N c d e b (pV k))
 | _,_=>none
theorem pX:Ao N 146 @jr:=by
 intro R Q a h k j;unfold jr;split;exact Ay (pW ..) (pW ..) ⟨Up N,mh N,trivial⟩;exact A0
def As9:=Az (pX N)
def Ata:=Cj (pX N)
def Gh (N:Nat) (r0:Int→Int→Bool→O R) (e d:Int) (c:Bool) (b:LA) (f:Bool):O R :=
 (cond f (r0 0 0 false) (cond (d==0) (r0 0 1 true) (ON b fun g=>(cond g (r0 (wrap .i64 ((0:Int) - (wrap .i64 e))) (wrap .i64 d) true) (r0 (wrap .i64 e) (wrap .i64 d) true)))))
def EC (r0:Int→Int→Bool→O R) (q0:Int→Int→Bool→O R) (b:LA) (c:Bool):O R :=
 (Co 1 (b.drop 1) fun i l=>(EB N i l false c (fun e m=>(Co 1 (b.drop 2) fun n o=>(EB N n o false c (fun d p=>(cond ((!m)==false) (cond ((cond false true (!p))==false) (cond ((cond false true (decide (e≥2147483648)))==false) (q0 e d (cond false true (decide (d≥2147483648)))) (q0 e d true)) (q0 e d true)) (q0 e d true))))))))
def G7:=(Af (fun (N:Nat) (b:LA) (c:Bool) (r0:Int→Int→Bool→O R)=>(EC N r0 (fun e d f=>(Gh N r0 e d c b f)) b c))).1
theorem CY (b c r0):(@G7 R N b c r0)=(EC N r0 (fun e d f=>(Gh N r0 e d c b f)) b c):=by rw[G7,(Af _).2]
def xU:Hints:={ H:=(hS hL (hS hL (hS hL (hS (hS (hJ [1,5,6,21] hL hL) hL) hL)))) }
def Aff:Ef:=[(146,As9 N)]
def Ax3 (F:KF R):=Ja Tryz.f99 xU (Aff N) [] N F
def JT (F:KF R):Int→Int→Bool→O R:=(fun q r s=>F (.tup [(iv q),(iv r),(.bool s)]) [])
def Ax4 (e d:Int) (c:Bool) (b:LA) (f:Bool):St:=⟨[(1,(op 0)),(5,(.int .u64 e)),(6,(.int .u64 d)),(21,(.bool f))],(hq [(bP c 0 b)])⟩
def Ax5 (F:KF R):=Ax3 N F [1,1,1,0,0,1] []
theorem Afg (F:KF R) (e d:Int) (c:Bool) (b:LA):∀ (f:Bool),A8 (Ax5 N F) (Ax4 e d c b f)=(Gh N (JT F) e d c b f):=by
 intro f
 kernel_rfl
theorem xV (b:LA) (c:Bool) (F:KF R):Cm (Aff N) xU N 99 [(.pagg b c)] [] F=(G7 N b c (JT F)):=by
 rw[CY]
 exact Eq.trans (by kernel_rfl) (Bn (EC N (JT F) · b c) (funext fun e=>funext fun d=>funext fun f=>(Ar ..).trans (Afg N F e d c b f)):_)
def pY (a:LA) (h:Am) (k:KF R):O R :=
 match a,h with
 | [(.pagg b c)],[]=>(G7 N b c (JT k))
 | _,_=>none
theorem xW:Ao N 99 @pY:=by
 intro R Q a h k j;unfold pY;split;exact Ay (xV ..) (xV ..) ⟨Ata N,trivial⟩;exact A0
def JU:=Az (xW N)
def JV:=Cj (xW N)
def W4 (N:Nat) (b:Int) (r0:Bool→O R):O R :=
 (r0 (b != b))
def M9:=(Af (@W4 R)).1
theorem AU:@M9 R=@W4 R:=(Af _).2
def FT (F:KF R):Bool→O R:=(fun c=>F (.bool c) [])
theorem FU (b:Int) (F:KF R):Cm [] Dr N 147 [(iv b)] [] F=(M9 N b (FT F)):=by
 rw[AU]
 kernel_rfl
def AW (a:LA) (h:Am) (k:KF R):O R :=
 match a,h with
 | [(.int .i64 b)],[]=>(M9 N b (FT k))
 | _,_=>none
theorem FV:Ao N 147 @AW:=by
 intro R Q a h k j;unfold AW;split;exact Ay (FU ..) (FU ..) trivial;exact A0
def mm:=Az (FV N)
def mo:=Cj (FV N)
def Ta (b c:Int) (r0:Int→O R):O R :=
 (M9 N b (fun e=>(M9 N c (fun d=>(cond e (cond d (r0 0) (r0 (-1))) (cond d (r0 1) (cond (decide (b<c)) (r0 (-1)) (cond (decide (b>c)) (r0 1) (r0 0)))))))))
def Jb:=(Af (@Ta R)).1
theorem V7:@Jb R=@Ta R:=(Af _).2
def i0:Ef:=[(147,mm N)]
def Y5 (F:KF R):Int→O R:=(fun f=>F (iv f) [])
theorem Y6 (b c:Int) (F:KF R):Cm (i0 N) Dr N 100 [(iv b),(iv c)] [] F=(Jb N b c (Y5 F)):=by
 rw[V7]
 kernel_rfl
def V8 (a:LA) (h:Am) (k:KF R):O R :=
 match a,h with
 | [(.int .i64 b),(.int .i64 c)],[]=>(Jb N b c (Y5 k))
 | _,_=>none
theorem Y7:Ao N 100 @V8:=by
 intro R Q a h k j;unfold V8;split;exact Ay (Y6 ..) (Y6 ..) ⟨mo N,trivial⟩;exact A0
def dP:=Az (Y7 N)
def dQ:=Cj (Y7 N)
def UF (N:Nat) (k1:Nat→Int→Int→LA→O R) (r0:Nat→LA→O R) (f:LA) (b:Nat) (e:Bool) (l:Nat) (g r:Int) (i:LA) (d:Nat) (c:Bool) (m:Int) (k2:Int→Int→Int→LA→O R) (s t o:Int) (q:LA):O R :=
 (cond (decide (o<t)) (cond (Ac o b) (An .u32 (f.drop ((o.toNat)*1)) fun aa=>(cond (Ac (wrap .i64 (g+o)) l) (An .u32 (q.drop (0+(((wrap .i64 (g+o)).toNat)*1))) fun ab=>(cond (Ac (wrap .i64 (g+o)) l) (cond ((Nat.beq 1 1)&&((Nat.ble ((0+(((wrap .i64 (g+o)).toNat)*1))+1) (q.length))&&(!false))) (k2 (Int.fdiv (wrap .u64 (s+(wrap .u64 ((wrap .u64 ((wrap .u64 r)*(wrap .u64 aa)))+(wrap .u64 ab))))) (2 ^ 32)) t (wrap .i64 (o+1)) (q.set (0+(((wrap .i64 (g+o)).toNat)*1)) (.int .u32 (wrap .u32 (wrap .u64 (s+(wrap .u64 ((wrap .u64 ((wrap .u64 r)*(wrap .u64 aa)))+(wrap .u64 ab))))))))) none) none)) none)) none) (cond (Ac (wrap .i64 (g+((b:Nat):Int))) l) (cond ((Nat.beq 1 1)&&((Nat.ble ((0+(((wrap .i64 (g+((b:Nat):Int))).toNat)*1))+1) (q.length))&&(!false))) (k1 l m (wrap .i64 (g+1)) (q.set (0+(((wrap .i64 (g+((b:Nat):Int))).toNat)*1)) (.int .u32 (wrap .u32 s)))) none) none))
def W5 (k1:Nat→Int→Int→LA→O R) (r0:Nat→LA→O R) (f:LA) (b:Nat) (e:Bool) (l:Nat) (g r:Int) (i:LA) (d:Nat) (c:Bool) (m:Int):Nat→Int→Int→Int→LA→O R
 | 0,_,_,_,_=>none
 | n+1,s,t,o,q=>(UF N k1 r0 f b e l g r i d c m (W5 k1 r0 f b e l g r i d c m n) s t o q)
def FW (r0:Nat→LA→O R) (f:LA) (b:Nat) (e:Bool) (i:LA) (d:Nat) (c:Bool) (k1:Nat→Int→Int→LA→O R) (q2:Int→Int→Int→Int→LA→O R) (l:Nat) (m g:Int) (p:LA):O R :=
 (cond (decide (g<m)) (cond (Ac g d) (An .u32 (i.drop ((g.toNat)*1)) fun r=>(cond (r==0) (k1 l m (wrap .i64 (g+1)) p) (q2 r 0 ((b:Nat):Int) 0 p))) none) (W2 N l p (fun ad=>(r0 ad p))))
def P7 (r0:Nat→LA→O R) (f:LA) (b:Nat) (e:Bool) (i:LA) (d:Nat) (c:Bool):Nat→Nat→Int→Int→LA→O R
 | 0,_,_,_,_=>none
 | n+1,l,m,g,p=>(FW N r0 f b e i d c (P7 r0 f b e i d c n) (fun r s t o q=>(W5 N (P7 r0 f b e i d c n) r0 f b e l g r i d c m N s t o q)) l m g p)
def mq (N:Nat) (r0:Nat→LA→O R) (i:LA) (d:Nat) (c:Bool) (f:LA) (b:Nat) (e:Bool) (q1:Nat→Int→Int→LA→O R):O R :=
 (cond ((decide (0≤(wrap .i64 (((d:Nat):Int)+((b:Nat):Int)))))&&((decide ((wrap .i64 (((d:Nat):Int)+((b:Nat):Int)))≤(wrap .i64 (((d:Nat):Int)+((b:Nat):Int)))))&&((decide ((wrap .i64 (((d:Nat):Int)+((b:Nat):Int)))≤140737488355328))&&(decide (((wrap .i64 (((d:Nat):Int)+((b:Nat):Int)))*((4:Nat):Int))≤140737488355328))))) (q1 ((wrap .i64 (((d:Nat):Int)+((b:Nat):Int))).toNat) ((d:Nat):Int) 0 (List.replicate ((wrap .i64 (((d:Nat):Int)+((b:Nat):Int))).toNat) (.int .u32 0))) none)
def hG (r0:Nat→LA→O R) (i:LA) (d:Nat) (c:Bool) (f:LA) (b:Nat) (e:Bool):O R:=(mq N r0 i d c f b e (fun l m g p=>(P7 N r0 f b e i d c N l m g p)))
def hI (r0:Nat→LA→O R) (q0:LA→Nat→LA→Nat→O R) (v:LA) (u:Nat) (w c:Bool) (x:LA) (y:Nat) (z e:Bool):O R :=
 (Cq N v u w c (fun i d=>(Cq N x y z e (fun f b=>(cond ((((d:Nat):Int)==0)==false) (cond (cond false true (((b:Nat):Int)==0)) (r0 0 []) (q0 i d f b)) (r0 0 []))))))
def NE:=(Af (fun (N:Nat) (v:LA) (u:Nat) (w c:Bool) (x:LA) (y:Nat) (z e:Bool) (r0:Nat→LA→O R)=>(hI N r0 (fun i d f b=>(hG N r0 i d c f b e)) v u w c x y z e))).1
theorem UG (v u w c x y z e r0):(@NE R N v u w c x y z e r0)=(hI N r0 (fun i d f b=>(hG N r0 i d c f b e)) v u w c x y z e):=by rw[NE,(Af _).2]
def Ao6:Hints:={ H:=(hS hL (hS hL (hJ [0,1] hL (hS hL (hS (hS hL (hS (hP [1,5,29,30,31] (hS hL (hS hL (hS (hS (hS hL (hS hL (hS hL (hS (hS hL (hS (hP [1,5,6,7,8,29,30,31,38,39,40] hL) hL)) hL)))) hL) hL)))) hL)) hL))))),nils:=[(4,1)],modes:=[(2,1)] }
def Rj (a:LA) (h:Am) (k:KF R):O R :=
 match a,h with
 | [(.imm v u 1 w c)],[]=>(Cq N v u w c (Lw c k))
 | [(.own 100000 0 u)],[(100000,⟨false,false,true,false,1,ac,false⟩)]=>(W2 N u ac (D_ ac k))
 | _,_=>none
theorem Tr:Ao N 171 @Rj:=by
 intro R Q a h k j;unfold Rj;split;exact Ay (P6 ..) (P6 ..) trivial;exact Ay (gy ..) (gy ..) trivial;exact A0
def Gn:=Az (Tr N)
def Gp:=Cj (Tr N)
def Ax6:Ef:=[(171,Gn N)]
def th (F:KF R):=Ja Tryz.f135 Ao6 (Ax6 N) [] N F
def No (F:KF R):Nat→LA→O R:=(fun ae af=>F (.own 300000 0 ae) (hq [(bQ 1 af)]))
def A7h (f:LA) (b:Nat) (e:Bool) (l:Nat) (g r:Int) (i:LA) (d:Nat) (c:Bool) (m s t o:Int) (q:LA):St:=⟨[(1,(.imm f b 1 false e)),(5,(.own 300000 0 l)),(6,(iv g)),(7,(.int .u32 r)),(8,(.int .u64 s)),(29,(.imm i d 1 false c)),(30,(iv m)),(31,(iv g)),(38,(.imm f b 1 false e)),(39,(iv t)),(40,(iv o))],(hq [(bQ 1 q)])⟩
def A7i (F:KF R) (Q1:St→O R):=th N F [1,1,1,1,0,1,0,0,1,1,0,0,1,1,1,0,1,0] [Q1]
def ti (f:LA) (b:Nat) (e:Bool) (i:LA) (d:Nat) (c:Bool) (l:Nat) (m g:Int) (p:LA):St:=⟨[(1,(.imm f b 1 false e)),(5,(.own 300000 0 l)),(29,(.imm i d 1 false c)),(30,(iv m)),(31,(iv g))],(hq [(bQ 1 p)])⟩
def Ao7 (F:KF R):=th N F [1,1,1,1,0,1,0] []
def A7j (i:LA) (d:Nat) (c:Bool) (f:LA) (b:Nat) (e:Bool):St:=⟨[(0,(.imm i d 1 false c)),(1,(.imm f b 1 false e))],[]⟩
def A7k (F:KF R):=th N F [1,1,1] []
theorem pZ (Q1:St→O R) (F:KF R) (f:LA) (b:Nat) (e:Bool) (l:Nat) (g r:Int) (i:LA) (d:Nat) (c:Bool) (m:Int):∀ (n:Nat) (s t o:Int) (q:LA),Ap (A7i N F Q1) n (A7h f b e l g r i d c m s t o q)=(W5 N (fun l m g p=>Q1 (ti f b e i d c l m g p)) (No F) f b e l g r i d c m n s t o q)
 | 0,_,_,_,_=>by kernel_rfl
 | n+1,s,t,o,q=>Eq.trans (by kernel_rfl) (Bn (UF N (fun l m g p=>Q1 (ti f b e i d c l m g p)) (No F) f b e l g r i d c m · s t o q) (funext fun s=>funext fun t=>funext fun o=>funext fun q=>(pZ Q1 F f b e l g r i d c m n s t o q)):_)
theorem p8 (F:KF R) (f:LA) (b:Nat) (e:Bool) (i:LA) (d:Nat) (c:Bool):∀ (n l:Nat) (m g:Int) (p:LA),Ap (Ao7 N F) n (ti f b e i d c l m g p)=(P7 N (No F) f b e i d c n l m g p)
 | 0,_,_,_,_=>by kernel_rfl
 | n+1,l,m,g,p=>have e0:=(funext fun l=>funext fun m=>funext fun g=>funext fun p=>(p8 F f b e i d c n l m g p))
  Eq.trans (by kernel_rfl) (cR (FW N (No F) f b e i d c · · l m g p) e0 (funext fun r=>funext fun s=>funext fun t=>funext fun o=>funext fun q=>(Aj ..).trans ((pZ N (Ap (Ao7 N F) n) F f b e l g r i d c m N s t o q).trans (Bn (W5 N · (No F) f b e l g r i d c m N s t o q) e0))):_)
theorem Atb (F:KF R) (i:LA) (d:Nat) (c:Bool) (f:LA) (b:Nat) (e:Bool):A8 (A7k N F) (A7j i d c f b e)=(hG N (No F) i d c f b e):=by
 exact Eq.trans (by kernel_rfl) (Bn (mq N (No F) i d c f b e ·) (funext fun l=>funext fun m=>funext fun g=>funext fun p=>(Aj ..).trans (p8 N F f b e i d c N l m g p)):_)
theorem Ao8 (v:LA) (u:Nat) (w c:Bool) (x:LA) (y:Nat) (z e:Bool) (F:KF R):Cm (Ax6 N) Ao6 N 135 [(.imm v u 1 w c),(.imm x y 1 z e)] [] F=(NE N v u w c x y z e (No F)):=by
 rw[UG]
 exact Eq.trans (by kernel_rfl) (Bn (hI N (No F) · v u w c x y z e) (funext fun i=>funext fun d=>funext fun f=>funext fun b=>(Ar ..).trans (Atb N F i d c f b e)):_)
def Afh (a:LA) (h:Am) (k:KF R):O R :=
 match a,h with
 | [(.imm v u 1 w c),(.imm x y 1 z e)],[]=>(NE N v u w c x y z e (No k))
 | _,_=>none
theorem Ao9:Ao N 135 @Afh:=by
 intro R Q a h k j;unfold Afh;split;exact Ay (Ao8 ..) (Ao8 ..) ⟨Gp N,trivial⟩;exact A0
def h_:=Az (Ao9 N)
def iA:=Cj (Ao9 N)
def Atc (b:LA) (d:Bool) (c:LA) (e:Bool) (r0:Bool→Nat→LA→O R):O R :=
 (ON b fun i=>(ON c fun l=>(Co 1 (b.drop 1) fun m n=>(Co 1 (c.drop 1) fun o p=>(NE N m n false d o p false e (fun f g=>(Kq N (!(i==l)) f g (fun q=>(r0 q f g)))))))))
def UH:=(Af (@Atc R)).1
theorem Afi:@UH R=@Atc R:=(Af _).2
def Bao:Ef:=[(135,h_ N),(148,CW N)]
def Apa (F:KF R):Bool→Nat→LA→O R:=(fun r s t=>F (.agg [(.bool r),(.own 300000 0 s)]) (hq [(bQ 1 t)]))
theorem Apb (b:LA) (d:Bool) (c:LA) (e:Bool) (F:KF R):Cm (Bao N) Dr N 103 [(.pagg b d),(.pagg c e)] [] F=(UH N b d c e (Apa F)):=by
 rw[Afi]
 kernel_rfl
def Afj (a:LA) (h:Am) (k:KF R):O R :=
 match a,h with
 | [(.pagg b d),(.pagg c e)],[]=>(UH N b d c e (Apa k))
 | _,_=>none
theorem Apc:Ao N 103 @Afj:=by
 intro R Q a h k j;unfold Afj;split;exact Ay (Apb ..) (Apb ..) ⟨iA N,CX N,trivial⟩;exact A0
def tj:=Az (Apc N)
def tn:=Cj (Apc N)
def N7 (N:Nat) (r0:Int→O R) (g:LA) (e:Nat) (c:Bool) (i:LA) (f:Nat) (d:Bool) (k0:Int→O R) (b:Int):O R :=
 (cond (decide (b≥0)) (cond (Ac b e) (An .u32 (g.drop ((b.toNat)*1)) fun s=>(cond (Ac b f) (An .u32 (i.drop ((b.toNat)*1)) fun t=>(cond (decide (s<t)) (r0 (-1)) (cond (Ac b e) (An .u32 (g.drop ((b.toNat)*1)) fun u=>(cond (Ac b f) (An .u32 (i.drop ((b.toNat)*1)) fun v=>(cond (decide (u>v)) (r0 1) (k0 (wrap .i64 (b - 1))))) none)) none))) none)) none) (r0 0))
def Ft (r0:Int→O R) (g:LA) (e:Nat) (c:Bool) (i:LA) (f:Nat) (d:Bool):Nat→Int→O R
 | 0,_=>none
 | n+1,b=>(N7 N r0 g e c i f d (Ft r0 g e c i f d n) b)
def Us (r0:Int→O R) (q0:LA→Nat→LA→Nat→Int→O R) (l:LA) (m:Nat) (o c:Bool) (p:LA) (q:Nat) (r d:Bool):O R :=
 (Cq N l m o c (fun g e=>(Cq N p q r d (fun i f=>(cond (((e:Nat):Int) != ((f:Nat):Int)) (cond (decide (((e:Nat):Int)<((f:Nat):Int))) (r0 (-1)) (r0 1)) (q0 g e i f (wrap .i64 (((e:Nat):Int) - 1))))))))
def El:=(Af (fun (N:Nat) (l:LA) (m:Nat) (o c:Bool) (p:LA) (q:Nat) (r d:Bool) (r0:Int→O R)=>(Us N r0 (fun g e i f b=>(Ft N r0 g e c i f d N b)) l m o c p q r d))).1
theorem JW (l m o c p q r d r0):(@El R N l m o c p q r d r0)=(Us N r0 (fun g e i f b=>(Ft N r0 g e c i f d N b)) l m o c p q r d):=by rw[El,(Af _).2]
def XW:Ef:=[(171,Uo N)]
def tp (F:KF R):=Ja Tryz.f132 Ao1 (XW N) [] N F
def Kr (F:KF R):Int→O R:=(fun w=>F (iv w) [])
def tq (g:LA) (e:Nat) (c:Bool) (i:LA) (f:Nat) (d:Bool) (b:Int):St:=⟨[(0,(.imm g e 1 false c)),(1,(.imm i f 1 false d)),(5,(iv b))],[]⟩
def tt (F:KF R):=tp N F [1,1,1,0,1,0] []
theorem AX (F:KF R) (g:LA) (e:Nat) (c:Bool) (i:LA) (f:Nat) (d:Bool):∀ (n:Nat) (b:Int),Ap (tt N F) n (tq g e c i f d b)=(Ft N (Kr F) g e c i f d n b)
 | 0,_=>by kernel_rfl
 | n+1,b=>Eq.trans (by kernel_rfl) (Bn (N7 N (Kr F) g e c i f d · b) (funext fun b=>(AX F g e c i f d n b)):_)
theorem PA (l:LA) (m:Nat) (o c:Bool) (p:LA) (q:Nat) (r d:Bool) (F:KF R):Cm (XW N) Ao1 N 132 [(.imm l m 1 o c),(.imm p q 1 r d)] [] F=(El N l m o c p q r d (Kr F)):=by
 rw[JW]
 exact Eq.trans (by kernel_rfl) (Bn (Us N (Kr F) · l m o c p q r d) (funext fun g=>funext fun e=>funext fun i=>funext fun f=>funext fun b=>(Aj ..).trans (AX N F g e c i f d N b)):_)
def JX (a:LA) (h:Am) (k:KF R):O R :=
 match a,h with
 | [(.imm l m 1 o c),(.imm p q 1 r d)],[]=>(El N l m o c p q r d (Kr k))
 | _,_=>none
theorem PB:Ao N 132 @JX:=by
 intro R Q a h k j;unfold JX;split;exact Ay (PA ..) (PA ..) ⟨Up N,trivial⟩;exact A0
def Ks:=Az (PB N)
def Kt:=Cj (PB N)
def dR (b:LA) (d:Bool) (c:LA) (e:Bool) (r0:Int→O R):O R :=
 (cond (Nat.ble 2 (b.length)) (UC N (b.take 2) d (fun f=>(cond (Nat.ble 2 (c.length)) (UC N (c.take 2) e (fun g=>(cond (decide (f<g)) (r0 (-1)) (cond (decide (f>g)) (r0 1) (cond (decide (f<0)) (Co 1 (c.drop 1) fun i l=>(Co 1 (b.drop 1) fun m n=>(El N i l false e m n false d (fun o=>(r0 o))))) (Co 1 (b.drop 1) fun p q=>(Co 1 (c.drop 1) fun r s=>(El N p q false d r s false e (fun t=>(r0 t)))))))))) none))) none)
def FX:=(Af (@dR R)).1
theorem dS:@FX R=@dR R:=(Af _).2
def Atd:Ef:=[(144,Ae6 N),(132,Ks N)]
def js (F:KF R):Int→O R:=(fun u=>F (iv u) [])
theorem jt (b:LA) (d:Bool) (c:LA) (e:Bool) (F:KF R):Cm (Atd N) Dr N 102 [(.pagg b d),(.pagg c e)] [] F=(FX N b d c e (js F)):=by
 rw[dS]
 kernel_rfl
def dT (a:LA) (h:Am) (k:KF R):O R :=
 match a,h with
 | [(.pagg b d),(.pagg c e)],[]=>(FX N b d c e (js k))
 | _,_=>none
theorem ju:Ao N 102 @dT:=by
 intro R Q a h k j;unfold dT;split;exact Ay (jt ..) (jt ..) ⟨Ae7 N,Kt N,trivial⟩;exact A0
def Amk:=Az (ju N)
def Aml:=Cj (ju N)
def Rk (r0:Int→O R) (d:Bool) (b:LA) (e:Bool) (c:LA):O R :=
 (cond (Nat.ble 3 (b.length)) (M7 N (b.take 3) d (fun f q r s i=>(cond ((Nat.beq 0 0)&&((Nat.beq (f.length) 2)&&(Nat.beq 2 2))) (cond (Nat.ble 3 (c.length)) (M7 N (c.take 3) e (fun g t u v l=>(cond ((Nat.beq 0 0)&&((Nat.beq (g.length) 2)&&(Nat.beq 2 2))) (cond (Nat.ble 2 (f.length)) (UH N (f.take 2) q [(.bool false),(.imm u v 1 false l)] (l||false) (fun w m x=>(cond (Nat.ble 2 (g.length)) (UH N (g.take 2) t [(.bool false),(.imm r s 1 false i)] (i||false) (fun y n z=>(FX N [(.bool w),(.imm (x.take (m*1)) m 1 false true)] true [(.bool y),(.imm (z.take (n*1)) n 1 false true)] true (fun aa=>(r0 aa))))) none))) none) none))) none) none))) none)
def JY (r0:Int→O R) (q0:O R) (b:LA) (d:Bool) (c:LA) (e:Bool):O R :=
 (cond (Nat.ble 3 (b.length)) (Sa N (b.take 3) d (fun o=>(cond (Nat.ble 3 (c.length)) (Sa N (c.take 3) e (fun p=>(cond (o != p) (M8 N o p (fun ab=>(r0 ab))) (cond (Nat.ble 3 (b.length)) (G7 N (b.take 3) d (fun ac ad ae=>(cond (Nat.ble 3 (c.length)) (G7 N (c.take 3) e (fun af ag ah=>(cond (ae==true) (cond (cond true ah false) (Jb N (wrap .i64 (ac*ag)) (wrap .i64 (af*ad)) (fun ai=>(r0 ai))) q0) q0))) none))) none)))) none))) none)
def Fu:=(Af (fun (N:Nat) (b:LA) (d:Bool) (c:LA) (e:Bool) (r0:Int→O R)=>(JY N r0 (Rk N r0 d b e c) b d c e))).1
theorem dU (b d c e r0):(@Fu R N b d c e r0)=(JY N r0 (Rk N r0 d b e c) b d c e):=by rw[Fu,(Af _).2]
def jv:Hints:={ H:=(hS hL (hS hL (hS hL (hS hL (hJ [2,3] hL hL))))) }
def p9:Ef:=[(95,UD N),(98,md N),(99,JU N),(100,dP N),(101,Y3 N),(103,tj N),(102,Amk N)]
def Amm (F:KF R):=Ja Tryz.f59 jv (p9 N) [] N F
def X0 (F:KF R):Int→O R:=(fun aj=>F (iv aj) [])
def Amn (d:Bool) (b:LA) (e:Bool) (c:LA):St:=⟨[(2,(op 0)),(3,(op 1))],(hq [(bP d 0 b),(bP e 0 c)])⟩
def Amo (F:KF R):=Amm N F [1,1,1,1,1] []
theorem tw (F:KF R) (d:Bool) (b:LA) (e:Bool) (c:LA):A8 (Amo N F) (Amn d b e c)=(Rk N (X0 F) d b e c):=by
 kernel_rfl
theorem jw (b:LA) (d:Bool) (c:LA) (e:Bool) (F:KF R):Cm (p9 N) jv N 59 [(.pagg b d),(.pagg c e)] [] F=(Fu N b d c e (X0 F)):=by
 rw[dU]
 exact Eq.trans (by kernel_rfl) (Bn (JY N (X0 F) · b d c e) ((Ar ..).trans (tw N F d b e c)):_)
def dV (a:LA) (h:Am) (k:KF R):O R :=
 match a,h with
 | [(.pagg b d),(.pagg c e)],[]=>(Fu N b d c e (X0 k))
 | _,_=>none
theorem jx:Ao N 59 @dV:=by
 intro R Q a h k j;unfold dV;split;exact Ay (jw ..) (jw ..) ⟨UE N,mf N,JV N,dQ N,Y4 N,tn N,Aml N,trivial⟩;exact A0
def Rl:=Az (jx N)
def Rm:=Cj (jx N)
def Na (r0:LA→O R) (b c d:Int) (k1:Int→Int→O R) (e f:Int):O R :=
 (cond (f != 0) (cond (f==0) none (k1 f (Int.tmod e f))) (cond (e==0) none (Ce N (wrap .u64 (Int.tdiv d e)) (fun g l=>(cond (e==0) none (Ce N (wrap .u64 (Int.tdiv (wrap .u64 c) e)) (fun i m=>(r0 [(.bool (decide (b<0))),(.imm (l.take (g*1)) g 1 false false),(.imm (m.take (i*1)) i 1 false false)]))))))))
def Ds (r0:LA→O R) (b c d:Int):Nat→Int→Int→O R
 | 0,_,_=>none
 | n+1,e,f=>(Na N r0 b c d (Ds r0 b c d n) e f)
def AG (N:Nat) (r0:LA→O R) (b c:Int) (q1:Int→Int→O R) (d:Int):O R :=
 (q1 (wrap .u64 c) d)
def Ut (r0:LA→O R) (b c:Int) (d:Int):O R:=(AG N r0 b c (fun e f=>(Ds N r0 b c d N e f)) d)
def CZ (N:Nat) (r0:LA→O R) (q0:Int→O R) (b c:Int):O R :=
 (cond (decide (b<0)) (q0 (wrap .u64 ((0:Int) - (wrap .u64 b)))) (q0 (wrap .u64 b)))
def Jc:=(Af (fun (N:Nat) (b c:Int) (r0:LA→O R)=>(CZ N r0 (fun d=>(Ut N r0 b c d)) b c))).1
theorem XX (b c r0):(@Jc R N b c r0)=(CZ N r0 (fun d=>(Ut N r0 b c d)) b c):=by rw[Jc,(Af _).2]
def dW:Hints:={ H:=(hS hL (hS hL (hJ [0,1,4,5] hL (hS hL (hS (hS (hP [0,1,4,5,6,7] hL) hL) hL))))),modes:=[(3,0)] }
def jy:Ef:=[(149,Hi N)]
def dX (F:KF R):=Ja Tryz.f131 dW (jy N) [] N F
def H4 (F:KF R):LA→O R:=(fun o=>F (.pagg o false) [])
def Afk (b c d e f:Int):St:=⟨[(0,(iv b)),(1,(iv c)),(4,(op 0)),(5,(.int .u64 d)),(6,(.int .u64 e)),(7,(.int .u64 f))],(hq [⟨false,false,false,false,0,[(.bool false),.nsl,.nsl],false⟩])⟩
def Afl (F:KF R):=dX N F [1,1,1,1,0,0] []
def Afm (b c d:Int):St:=⟨[(0,(iv b)),(1,(iv c)),(4,(op 0)),(5,(.int .u64 d))],(hq [⟨false,false,false,false,0,[(.bool false),.nsl,.nsl],false⟩])⟩
def Afn (F:KF R):=dX N F [1,1,1] []
theorem JZ (F:KF R) (b c d:Int):∀ (n:Nat) (e f:Int),Ap (Afl N F) n (Afk b c d e f)=(Ds N (H4 F) b c d n e f)
 | 0,_,_=>by kernel_rfl
 | n+1,e,f=>Eq.trans (by kernel_rfl) (Bn (Na N (H4 F) b c d · e f) (funext fun e=>funext fun f=>(JZ F b c d n e f)):_)
theorem p_ (F:KF R) (b c:Int):∀ (d:Int),A8 (Afn N F) (Afm b c d)=(Ut N (H4 F) b c d):=by
 intro d
 exact Eq.trans (by kernel_rfl) (Bn (AG N (H4 F) b c · d) (funext fun e=>funext fun f=>(Aj ..).trans (JZ N F b c d N e f)):_)
theorem dY (b c:Int) (F:KF R):Cm (jy N) dW N 131 [(iv b),(iv c)] [] F=(Jc N b c (H4 F)):=by
 rw[XX]
 exact Eq.trans (by kernel_rfl) (Bn (CZ N (H4 F) · b c) (funext fun d=>(Ar ..).trans (p_ N F b c d)):_)
def XY (a:LA) (h:Am) (k:KF R):O R :=
 match a,h with
 | [(.int .i64 b),(.int .i64 c)],[]=>(Jc N b c (H4 k))
 | _,_=>none
theorem dZ:Ao N 131 @XY:=by
 intro R Q a h k j;unfold XY;split;exact Ay (dY ..) (dY ..) ⟨Hj N,trivial⟩;exact A0
def FY:=Az (dZ N)
def FZ:=Cj (dZ N)
end
end Gx

namespace Gx
open Go Go.Proofs
section
variable {R:Type}
def fit (k N:Nat):Prop:=100*k+1000≤N∧k≤1000000000
theorem fit.le {j k N:Nat} (h:fit k N) (C:j≤k):fit j N:=⟨by have:=h.1;omega,by have:=h.2;omega⟩
theorem ct (x y:O R):cond true x y=x:=rfl
theorem cf (x y:O R):cond false x y=y:=rfl
theorem Ax7 (x y:Bool):cond true x y=x:=rfl
theorem Bga (x y:Bool):cond false x y=y:=rfl
theorem A2o (c:Nat):((decide (((c+1:Nat):Int)>(0:Int)))==true)=true:=by simp
theorem Jy {j n:Nat} (h:j<n):decide ((j:Int)<(n:Int))=true:=by simp;omega
theorem Lm {j n:Nat} (h:n≤j):decide ((j:Int)<(n:Int))=false:=by simp;omega
theorem wS {j:Nat} (h:j≤1000000000000):IntKind.wrap .i64 ((j:Int)+1)=((j+1:Nat):Int):=by rw[i64 (by omega)];omega
theorem wP {j:Nat} (h:j≤1000000000000):IntKind.wrap .i64 (((j+1:Nat):Int) - 1)=(j:Int):=by rw[i64 (by omega)];omega
theorem wA {j k:Nat} (h:j+k≤1000000000000):IntKind.wrap .i64 ((j:Int)+(k:Int))=((j+k:Nat):Int):=by rw[i64 (by omega)];omega
theorem bJ {l:List Nat} {j:Nat} (h:j<l.length) {f:Int→O R}:An .u32 (List.drop ((Int.toNat (j:Int))*1) (Ae l)) f=f (l[j]:Nat):=by
 rw[Int.toNat_natCast,Nat.mul_one,Axl h]
theorem pa {l:List Nat} {j:Nat} (h:j<l.length) {f:Int→O R}:An .u32 (List.drop (0+((Int.toNat (j:Int))*1)) (Ae l)) f=f (l[j]:Nat):=by
 rw[Nat.zero_add,bJ h]
theorem Bd7 {c a:Nat} (h:c≤a):((decide ((0:Int)≤(0:Int)))&&((decide ((0:Int)≤(c:Int)))&&((decide ((c:Int)≤(a:Int)))&&(decide ((a:Int)≤(a:Int))))))=true:=by
 simp;omega
theorem A92 {n:Nat} (h:n≤1000000000000):((decide ((0:Int)≤(n:Int)))&&((decide ((n:Int)≤(n:Int)))&&((decide ((n:Int)≤(140737488355328:Int)))&&(decide (((n:Int)*((4:Nat):Int))≤(140737488355328:Int))))))=true:=by
 simp;omega
theorem Aos {x:Nat} {m:List Nat} (h:x<m.length):((Nat.beq 1 1)&&((Nat.ble ((0+((Int.toNat (x:Int))*1))+1) (List.length (Ae m)))&&(!false)))=true:=by
 rw[Ca,Int.toNat_natCast];simp;omega
theorem d6 {x v:Nat} {m:List Nat}:List.set (Ae m) (0+((Int.toNat (x:Int))*1)) (.int .u32 (v:Int))=Ae (m.set x v):=by
 rw[Int.toNat_natCast,Nat.mul_one,Nat.zero_add,oa]
theorem Ax8 {l:List Nat} (h:Al l):l.take (As (val l)).length=As (val l):=by
 obtain⟨k,C⟩:=Bx h
 rw[congrArg (List.take (As (val l)).length) k,List.take_left]
theorem Np {l:List Nat} (h:Al l):List.take ((As (val l)).length*1) (Ae l)=Ae (As (val l)):=by rw[Nat.mul_one,Wz,Ax8 h]
theorem A5 {l:List Nat} {c:Nat} (h:c<l.length):val (l.take (c+1))=val (l.take c)+4294967296 ^ c*l[c]:=by
 rw[List.take_succ_eq_append_getElem h,A1y,List.length_take,Nat.min_eq_left (by omega)]
theorem Ate {l:List Nat} {c:Nat} (k:Al l) (h:c<l.length) (C:l[c]≠0):As (val (l.take (c+1)))=l.take (c+1):=by
 apply Bez (Cv k _)
 intro D
 rw[List.getLast_eq_getElem]
 simp only[List.length_take,Nat.min_eq_left (show c+1≤l.length by omega),Nat.add_sub_cancel,List.getElem_take]
 exact C
theorem Afo {N:Nat} {l:List Nat} {K:Nat→O R} (C:Al l) (hs:l.length≤1000000000000):∀ (c fuel:Nat),c≤l.length→c<fuel →
  W1 N K l.length (Ae l) fuel (c:Int)=K (As (val (l.take c))).length
 | 0,fuel+1,D,_=>by
  rw[W1];unfold T_
  rw[show decide (((0:Nat):Int)>0)=false by simp]
  rw[show((false:Bool)==true)=false by rfl,cf,Bd7 (by omega),ct,Int.toNat_natCast];rfl
 | c+1,fuel+1,D,F=>by
  rw[W1];unfold T_
  rw[A2o,ct,wP (by omega),Aa (by omega),ct,pa (by omega),Ax7,Bd7 (by omega),ct,Afo C hs c fuel (by omega) (by omega),Int.toNat_natCast]
  by_cases k:l[c]=0
  ·rw[A5 (by omega),k];simp
  ·rw[Ate C (by omega) k,List.length_take,Nat.min_eq_left D]
   rw[show(((l[c]:Nat):Int)==0)=false by simp;exact k,cf]
theorem PC {N:Nat} {l:List Nat} {n:Nat} {K:Nat→O R} (hn:n=l.length) (C:Al l) (k:fit l.length N):W2 N n (Ae l) K=K (As (val l)).length:=by
 subst hn
 have D:=k.1;have F:=k.2
 rw[m_];unfold pK
 dsimp only
 rw[Afo C (by omega) l.length N (Nat.le_refl _) (by omega),List.take_length]
theorem Apd {N:Nat} {l:List Nat} {t o:Bool} {K:LA→Nat→O R} (C:Al l) (hs:l.length≤1000000000000):∀ (c fuel:Nat),c≤l.length→c<fuel →
  Lv N K (Ae l) l.length t o fuel (c:Int)=K (Ae (As (val (l.take c)))) (As (val (l.take c))).length
 | 0,fuel+1,D,_=>by
  rw[Lv];unfold Xz
  rw[show decide (((0:Nat):Int)>0)=false by simp]
  rw[show((false:Bool)==true)=false by rfl,cf,Bd7 (by omega),ct,Int.toNat_natCast];rfl
 | c+1,fuel+1,D,F=>by
  rw[Lv];unfold Xz
  rw[A2o,ct,wP (by omega),Aa (by omega),ct,bJ (by omega),Ax7,Bd7 (by omega),ct,Apd C hs c fuel (by omega) (by omega),Int.toNat_natCast,Nat.mul_one,Wz]
  by_cases k:l[c]=0
  ·rw[A5 (by omega),k];simp
  ·rw[Ate C (by omega) k,List.length_take,Nat.min_eq_left D]
   rw[show(((l[c]:Nat):Int)==0)=false by simp;exact k,cf]
theorem Cg {N:Nat} {l:List Nat} {n:Nat} {t o:Bool} {K:LA→Nat→O R} (hn:n=l.length) (C:Al l) (k:fit l.length N):Cq N (Ae l) n t o K=K (Ae (As (val l))) (As (val l)).length:=by
 subst hn
 have D:=k.1;have F:=k.2
 rw[jg];unfold T'
 dsimp only
 rw[Apd C (by omega) l.length N (Nat.le_refl _) (by omega),List.take_length]
theorem A7l {N:Nat} {K:LA→O R} (hN:1≤N):EA N K=K []:=by
 rw[jj];unfold UA
 cases N with
 | zero=>omega
 | succ N=>rw[Uq];rfl
end
end Gx

namespace Gx
open Go Go.RowKit
theorem A7m {P:Program} {f:Nat} {t:Tw} (G:Bcj P f t) {W:World} {avs:LA} {vs:List Value} (hr:Reps (fun _ k=>k<W.heap.size) (fun _=>none) [] W avs vs)
  (D:(t.runK avs [] fun v h=>some (v,h))=some (.bool true,[])):Calls P f vs.toArray W fun e w'=>e=.returned (.bool true)∧Below W.heap.size W w':=by
 have S:SimH (fun _ k=>k<W.heap.size) (fun _=>none) [] W:=⟨fun _ _ h=>h,fun _ h=>h,fun b x C=>by simp[Au] at C,fun b x C=>by simp[Au] at C,fun b M x x' k o o' C=>by simp[Au] at C⟩
 refine Calls.mono (G avs [] _ _ D _ _ W vs S hr) ?_
 rintro e w' ⟨vc,J',β',rfl,F,I⟩
 rw[Rep] at I;subst I
 refine⟨rfl,F.os,F.tape,F.output,F.size,fun k L=>F.frame k L ?_⟩
 rintro⟨b,x,o,C,_⟩
 change Au [] b=some x at C
 simp[Au] at C
structure Opens (P:Program) (t:TypeId) {α:Type} (e:α→List AV) (n:Nat):Prop where
 size:P.cellsOf t=n
 pos:0<n
 len:∀ a,(e a).length=n
 read:∀ {H:Type} (enc:TypeId×Value→H) (W:World) (fuel:Nat) (cs:List Value) (d:DataW H) (ps:List MemPlace),DataW.trod enc P W 0 (fun _=>true) true fuel t cs=some (d,ps) →
  cs.length=n∧∃ a,RepCs (fun k=>k<W.heap.size) W (e a) (fun j=>cs[j]?) 0
theorem tz {P:Program} {t:TypeId} {k:IntKind} (C:P.underlying t=some (.int k)) (D:P.cellsOf t=1):Opens P t (α:={ n:Int // (Lit.int k n).wf=true }) (fun n=>[.int k n.1]) 1:=by
 refine⟨D,by omega,fun _=>rfl,fun enc W fuel cs d ps h=>?_⟩
 obtain⟨n,rfl,_,F⟩:=DataW.trod_int C h
 exact⟨rfl,⟨n,F⟩,by simp[RepCs,RepC]⟩
theorem A2p {P:Program} {t:TypeId} (k:P.underlying t=some .bool) (C:P.cellsOf t=1):Opens P t (α:=Bool) (fun b=>[.bool b]) 1:=by
 refine⟨C,by omega,fun _=>rfl,fun enc W fuel cs d ps h=>?_⟩
 obtain⟨b,rfl,_⟩:=DataW.trod_bool k h
 exact⟨rfl,b,by simp[RepCs,RepC]⟩
theorem xX {α β:Type} {e:α→List β} {n:Nat} (hn:0<n) (k:∀ a,(e a).length=n):∀ (l:List α) (j:Nat),(l.flatMap e)[j]?=(l[j/n]?).bind fun a=>(e a)[j%n]?
 | [],j=>by simp
 | a::r,j=>by
  rw[List.flatMap_cons]
  by_cases C:j<n
  ·rw[List.getElem?_append_left (by rw[k];exact C),Nat.div_eq_of_lt C,Nat.mod_eq_of_lt C];simp
  ·rw[List.getElem?_append_right (by rw[k];omega),k,xX hn k r (j - n)]
   have D:j/n=(j - n)/n+1:=by
    have:=Nat.add_div_right (j - n) hn
    rw[show j - n+n=j by omega] at this;exact this
   have F:j%n=(j - n)%n:=by
    have:=Nat.add_mod_right (j - n) n
    rw[show j - n+n=j by omega] at this;exact this
   rw[D,F];simp
theorem d7 {α β:Type} {e:α→List β} {n:Nat} (k:∀ a,(e a).length=n):∀ (l:List α),(l.flatMap e).length=l.length*n
 | []=>by simp
 | a::r=>by rw[List.flatMap_cons,List.length_append,k,d7 k r,List.length_cons,Nat.succ_mul];omega
theorem Ax9 {α β:Type} {f:α→Option β}:∀ {l:List α} {r:List β},l.mapM f=some r→r.length=l.length∧∀ (i:Nat) (a:α),l[i]?=some a→f a=r[i]?
 | [],r,h=>by simp at h;subst h;simp
 | x::l,r,h=>by
  rw[List.mapM_cons] at h
  cases k:f x with
  | none=>simp[k] at h
  | some y =>
   cases C:l.mapM f with
   | none=>simp[k,C] at h
   | some ys =>
    simp[k,C] at h
    subst h
    obtain⟨D,F⟩:=Ax9 C
    refine⟨by simp[D],fun i a hi=>?_⟩
    cases i with
    | zero=>simp at hi;subst hi;simpa using k
    | succ i=>simpa using F i a (by simpa using hi)
theorem xY {P:Program} {t U:TypeId} {α:Type} {e:α→LA} {n:Nat} (hu:P.underlying t=some (.slice U)) (hc:P.cellsOf t=1) (G:Opens P U e n) :
  Opens P t (α:={ l:List α // l.length≤maxLen }) (fun l=>[.imm (l.1.flatMap e) l.1.length n false false]) 1:=by
 refine⟨hc,by omega,fun _=>rfl,fun enc W fuel cs d ps h=>?_⟩
 cases fuel with
 | zero=>simp[DataW.trod] at h
 | succ fuel =>
  unfold DataW.trod at h
  simp only[hu] at h
  split at h
  all_goals first | (rename_i C;simp at C;done) | (rename_i C _;simp at C;done) | (rename_i C _ _;simp at C;done) | skip
  ·refine⟨rfl,⟨[],by simp⟩,?_⟩
   simp[RepCs,RepC]
  ·rename_i e' a len cap C
   simp at C;subst C
   split at h
   ·rename_i I
    obtain⟨hb,hlc,hcm⟩:=I
    refine⟨rfl,?_⟩
    cases hm:(List.range len).mapM (fun i=>(W.cells? 0 (a.add (i*P.cellsOf U)) (P.cellsOf U)).bind (DataW.trod enc P W 0 (fun _=>true) true fuel U)) with
    | none=>rw[hm] at h;simp at h
    | some A43 =>
     obtain⟨h1,h2⟩:=Ax9 hm
     rw[G.size] at h2
     have each:∀ i:Nat,i<len→∃ x:α,∃ cs,W.cells? 0 (a.add (i*n)) n=some cs∧RepCs (fun k=>k<W.heap.size) W (e x) (fun j=>cs[j]?) 0:=by
      intro i hi
      have V:=h2 i i (by simp[hi])
      rw[List.getElem?_eq_getElem (by rw[h1];simpa using hi)] at V
      cases D:W.cells? 0 (a.add (i*n)) n with
      | none=>rw[D] at V;simp at V
      | some cs =>
       rw[D] at V
       obtain⟨_,x,C⟩:=G.read enc W fuel cs _ _ V
       exact⟨x,cs,rfl,C⟩
     have build:∀ m,m≤len→∃ l:List α,l.length=m∧∀ i x,l[i]?=some x→∃ cs,W.cells? 0 (a.add (i*n)) n=some cs∧RepCs (fun k=>k<W.heap.size) W (e x) (fun j=>cs[j]?) 0:=by
      intro m
      induction m with
      | zero=>intro _;exact⟨[],rfl,by simp⟩
      | succ m ih =>
       intro hm
       obtain⟨l,hl,L⟩:=ih (by omega)
       obtain⟨x,cs,hx1,hx2⟩:=each m (by omega)
       refine⟨l++[x],by simp[hl],fun i y S=>?_⟩
       rw[List.getElem?_append] at S
       split at S
       ·exact L i y S
       ·have:i=m:=by
         have:=(List.getElem?_eq_some_iff.1 S).1
         simp at this;omega
        subst this
        simp[hl] at S;subst S
        exact⟨cs,hx1,hx2⟩
     obtain⟨l,hl,L⟩:=build len (Nat.le_refl _)
     refine⟨⟨l,by omega⟩,?_⟩
     simp only[RepCs,RepC,and_true]
     refine⟨_,rfl,?_,some a,cap,by rw[hl],by omega,by simp,?_⟩
     ·exact d7 G.len l
     ·by_cases h0:l.length=0
      ·exact .inl h0
      ·right
       refine⟨a,rfl,?_,?_⟩
       ·obtain⟨x,cs,C,_⟩:=each 0 (by omega)
        have:=World.cells?_block C G.pos
        rwa [Wt] at this
       ·rw[Df]
        intro j x T
        rw[xX G.pos G.len] at T
        cases hq:l[j/n]? with
        | none=>rw[hq] at T;simp at T
        | some y =>
         rw[hq] at T
         simp at T
         obtain⟨cs,D,F⟩:=L (j/n) y hq
         rw[Df] at F
         obtain⟨u,Y,hu2⟩:=F (j%n) x T
         refine⟨u,?_,hu2⟩
         obtain⟨_,hlen,M⟩:=World.cells?_some D
         have hlt:j%n<n:=Nat.mod_lt _ G.pos
         have:=M (j%n) hlt
         rw[Addr.add_add,show j/n*n+j%n=j by rw[Nat.mul_comm];exact Nat.div_add_mod j n] at this
         simp only[Nat.zero_add] at Y ⊢
         rw[this];exact Y
   ·simp at h
  ·simp at h
end Gx

namespace Gx
open Go Go.RowKit
section
variable {P:Program} {W:World} {H:Type} {enc:TypeId×Value→H} {β:C8} {h:Am}
theorem Atf {t D:TypeId} {α:Type} {e:α→LA} {n:Nat} {a:Option Addr} {len cap:Nat} {d:DataW H} {p:List MemPlace} (C:P.underlying t=some (.slice D)) (F:P.cellsOf t=1) (G:Opens P D e n)
  (I:DataW.Trod enc P W 0 (fun _=>true) true t (.slice a len cap) d p):∃ l:List α,l.length≤maxLen∧Rep (fun _ k=>k<W.heap.size) β h W (.imm (l.flatMap e) l.length n false false) (.slice a len cap):=by
 obtain⟨fuel,L⟩:=I
 obtain⟨_,⟨l,M⟩,hr⟩:=(xY C F G).read enc W fuel _ _ _ L
 refine⟨l,M,?_⟩
 simp only[RepCs,Value.cells,and_true] at hr
 obtain⟨u,C,hr⟩:=hr
 simp at C;subst C
 rw[Rep];exact hr
theorem Bap:Reps (fun _ k=>k<W.heap.size) β h W [] []:=by rw[Reps]
theorem iB {x:AV} {xs:LA} {v:Value} {vs:List Value} (C:Rep (fun _ k=>k<W.heap.size) β h W x v) (D:Reps (fun _ k=>k<W.heap.size) β h W xs vs):Reps (fun _ k=>k<W.heap.size) β h W (x::xs) (v::vs):=by
 rw[Reps];exact⟨v,vs,rfl,C,D⟩
end
end Gx

namespace Gx
open Go Go.Proofs
open IntKind (wrap)
set_option maxRecDepth 100000
noncomputable section
variable {R:Type} (N:Nat)
def mt (N:Nat) (c b:Int) (r0:Int→O R):O R :=
 (cond (b==0) none (cond (b==0) none (r0 (Int.tmod (wrap .i64 ((Int.tmod c b)+b)) b))))
def PE:=(Af (@mt R)).1
theorem jz:@PE R=@mt R:=(Af _).2
def pb (F:KF R):Int→O R:=(fun d=>F (iv d) [])
theorem pc (c b:Int) (F:KF R):Cm [] Dr N 12 [(iv c),(iv b)] [] F=(PE N c b (pb F)):=by
 rw[jz]
 kernel_rfl
def kA (a:LA) (h:Am) (k:KF R):O R :=
 match a,h with
 | [(.int .i64 c),(.int .i64 b)],[]=>(PE N c b (pb k))
 | _,_=>none
theorem pe:Ao N 12 @kA:=by
 intro R Q a h k j;unfold kA;split;exact Ay (pc ..) (pc ..) trivial;exact A0
def Atg:=Az (pe N)
def Ath:=Cj (pe N)
def UI (N:Nat) (r0:Bool→O R) (c:LA) (b:Nat) (e f:Bool) (d:Int) (k0:Int→O R) (g:Int):O R :=
 (cond (decide (g<((b:Nat):Int))) (cond (Ac g b) (An .i64 (c.drop ((g.toNat)*1)) fun i=>(cond (i==d) (r0 true) (k0 (wrap .i64 (g+1))))) none) (r0 false))
def W6 (r0:Bool→O R) (c:LA) (b:Nat) (e f:Bool) (d:Int):Nat→Int→O R
 | 0,_=>none
 | n+1,g=>(UI N r0 c b e f d (W6 r0 c b e f d n) g)
def Ab5 (N:Nat) (r0:Bool→O R) (q0:Int→O R) (c:LA) (b:Nat) (e f:Bool) (d:Int):O R :=
 (q0 0)
def mv:=(Af (fun (N:Nat) (c:LA) (b:Nat) (e f:Bool) (d:Int) (r0:Bool→O R)=>(Ab5 N r0 (fun g=>(W6 N r0 c b e f d N g)) c b e f d))).1
theorem Afp (c b e f d r0):(@mv R N c b e f d r0)=(Ab5 N r0 (fun g=>(W6 N r0 c b e f d N g)) c b e f d):=by rw[mv,(Af _).2]
def Ape:Hints:={ H:=(hS hL (hS (hS hL (hS (hP [0,1,5] hL) hL)) hL)) }
def A7n (F:KF R):=Ja Tryz.f45 Ape [] [] N F
def PF (F:KF R):Bool→O R:=(fun l=>F (.bool l) [])
def A7o (c:LA) (b:Nat) (e f:Bool) (d g:Int):St:=⟨[(0,(.imm c b 1 e f)),(1,(iv d)),(5,(iv g))],[]⟩
def A7p (F:KF R):=A7n N F [1,0,1,0] []
theorem pf (F:KF R) (c:LA) (b:Nat) (e f:Bool) (d:Int):∀ (n:Nat) (g:Int),Ap (A7p N F) n (A7o c b e f d g)=(W6 N (PF F) c b e f d n g)
 | 0,_=>by kernel_rfl
 | n+1,g=>Eq.trans (by kernel_rfl) (Bn (UI N (PF F) c b e f d · g) (funext fun g=>(pf F c b e f d n g)):_)
theorem Apf (c:LA) (b:Nat) (e f:Bool) (d:Int) (F:KF R):Cm [] Ape N 45 [(.imm c b 1 e f),(iv d)] [] F=(mv N c b e f d (PF F)):=by
 rw[Afp]
 exact Eq.trans (by kernel_rfl) (Bn (Ab5 N (PF F) · c b e f d) (funext fun g=>(Aj ..).trans (pf N F c b e f d N g)):_)
def Afq (a:LA) (h:Am) (k:KF R):O R :=
 match a,h with
 | [(.imm c b 1 e f),(.int .i64 d)],[]=>(mv N c b e f d (PF k))
 | _,_=>none
theorem Apg:Ao N 45 @Afq:=by
 intro R Q a h k j;unfold Afq;split;exact Ay (Apf ..) (Apf ..) trivial;exact A0
def A7q:=Az (Apg N)
def A7r:=Cj (Apg N)
end
end Gx

namespace Gx
open Go Go.Proofs
open IntKind (wrap)
set_option maxRecDepth 100000
noncomputable section
variable {R:Type} (N:Nat)
def d8 (N:Nat) (r0:LA→O R):O R :=
 (r0 [(.str ([]:List UInt8)),(.int .i64 0),(.int .i64 10),(.int .i64 40),(.imm [(.int .i64 20),(.int .i64 3),(.int .i64 10),(.int .i64 5)] 2 2 false false),(.int .i64 0),(.int .i64 5),(.int .i64 10),(.int .i64 15),(.int .i64 15),(.int .i64 0),(.int .i64 0),(.int .i64 0),(.int .i64 0),(.int .i64 0),(.int .i64 0),(.int .i64 0),(.int .i64 0),.nsl,(.int .i64 2),(.int .i64 1),(.int .i64 12)])
def Rn:=(Af (@d8 R)).1
theorem J_:@Rn R=@d8 R:=(Af _).2
def PG (F:KF R):LA→O R:=(fun b=>F (.pagg b false) [])
theorem PH (F:KF R):Cm [] Ou N 46 [] [] F=(Rn N (PG F)):=by
 rw[J_]
 kernel_rfl
def KA (a:LA) (h:Am) (k:KF R):O R :=
 match a,h with
 | [],[]=>(Rn N (PG k))
 | _,_=>none
theorem PI:Ao N 46 @KA:=by
 intro R Q a h k j;unfold KA;split;exact Ay (PH ..) (PH ..) trivial;exact A0
def uA:=Az (PI N)
def uB:=Cj (PI N)
def Uu (N:Nat) (r0:Bool→O R) (c d:Int) (e:LA) (b:Nat) (f g:Bool) (k0:Int→Int→O R) (l i:Int):O R :=
 (cond (decide (i<l)) (cond (Ac i b) (An .i64 (e.drop ((i.toNat)*1)) fun m=>(cond ((decide (m<c))==false) (cond (cond false true (decide (m>d))) (r0 false) (k0 l (wrap .i64 (i+1)))) (r0 false))) none) (r0 true))
def Jz (r0:Bool→O R) (c d:Int) (e:LA) (b:Nat) (f g:Bool):Nat→Int→Int→O R
 | 0,_,_=>none
 | n+1,l,i=>(Uu N r0 c d e b f g (Jz r0 c d e b f g n) l i)
def KB (N:Nat) (r0:Bool→O R) (q0:Int→Int→O R) (c d:Int) (e:LA) (b:Nat) (f g:Bool):O R :=
 (q0 ((b:Nat):Int) 0)
def Dt:=(Af (fun (N:Nat) (c d:Int) (e:LA) (b:Nat) (f g:Bool) (r0:Bool→O R)=>(KB N r0 (fun l i=>(Jz N r0 c d e b f g N l i)) c d e b f g))).1
theorem d9 (c d e b f g r0):(@Dt R N c d e b f g r0)=(KB N r0 (fun l i=>(Jz N r0 c d e b f g N l i)) c d e b f g):=by rw[Dt,(Af _).2]
def kC:Hints:={ H:=(hS hL (hS (hS hL (hS (hP [0,1,9,10,11] hL) hL)) hL)) }
def Amp (F:KF R):=Ja Tryz.f47 kC [] [] N F
def Ro (F:KF R):Bool→O R:=(fun o=>F (.bool o) [])
def Amq (c d:Int) (e:LA) (b:Nat) (f g:Bool) (l i:Int):St:=⟨[(0,(iv c)),(1,(iv d)),(9,(.imm e b 1 f g)),(10,(iv l)),(11,(iv i))],[]⟩
def Amr (F:KF R):=Amp N F [1,0,1,0] []
theorem PJ (F:KF R) (c d:Int) (e:LA) (b:Nat) (f g:Bool):∀ (n:Nat) (l i:Int),Ap (Amr N F) n (Amq c d e b f g l i)=(Jz N (Ro F) c d e b f g n l i)
 | 0,_,_=>by kernel_rfl
 | n+1,l,i=>Eq.trans (by kernel_rfl) (Bn (Uu N (Ro F) c d e b f g · l i) (funext fun l=>funext fun i=>(PJ F c d e b f g n l i)):_)
theorem kD (c d:Int) (e:LA) (b:Nat) (f g:Bool) (F:KF R):Cm [] kC N 47 [(iv c),(iv d),(.imm e b 1 f g)] [] F=(Dt N c d e b f g (Ro F)):=by
 rw[d9]
 exact Eq.trans (by kernel_rfl) (Bn (KB N (Ro F) · c d e b f g) (funext fun l=>funext fun i=>(Aj ..).trans (PJ N F c d e b f g N l i)):_)
def d_ (a:LA) (h:Am) (k:KF R):O R :=
 match a,h with
 | [(.int .i64 c),(.int .i64 d),(.imm e b 1 f g)],[]=>(Dt N c d e b f g (Ro k))
 | _,_=>none
theorem kE:Ao N 47 @d_:=by
 intro R Q a h k j;unfold d_;split;exact Ay (kD ..) (kD ..) trivial;exact A0
def NF:=Az (kE N)
def NG:=Cj (kE N)
def KC (N:Nat) (r0:Bool→O R) (c:Bool) (b:LA):O R :=
 (An .i64 (b.drop 20) fun l=>(cond ((decide (l<1))==false) (An .i64 (b.drop 20) fun m=>(cond (cond false true (decide (m>48))) (r0 false) (An .i64 (b.drop 19) fun o=>(cond ((o != 1)==false) (An .i64 (b.drop 20) fun p=>(An .i64 (b.drop 12) fun q=>(r0 (cond false true (decide (p≤q)))))) (r0 true))))) (r0 false)))
def UJ (N:Nat) (r0:Bool→O R) (e f g i:Int) (c:Bool) (b:LA) (k0:Int→O R) (q1:O R) (d:Int):O R :=
 (cond (decide (d<4)) (cond (Ac d 4) (cond (Nat.beq ((d.toNat)*1) 0) (cond ((decide (e<0))==false) (cond (cond false true (decide (e>24))) (r0 false) (k0 (wrap .i64 (d+1)))) (r0 false)) (cond (Nat.beq ((d.toNat)*1) 1) (cond ((decide (f<0))==false) (cond (cond false true (decide (f>24))) (r0 false) (k0 (wrap .i64 (d+1)))) (r0 false)) (cond (Nat.beq ((d.toNat)*1) 2) (cond ((decide (g<0))==false) (cond (cond false true (decide (g>24))) (r0 false) (k0 (wrap .i64 (d+1)))) (r0 false)) (cond (Nat.beq ((d.toNat)*1) 3) (cond ((decide (i<0))==false) (cond (cond false true (decide (i>24))) (r0 false) (k0 (wrap .i64 (d+1)))) (r0 false)) none)))) none) (An .i64 (b.drop 19) fun r=>(cond ((r != 0)==true) (An .i64 (b.drop 19) fun s=>(cond ((cond true (s != 1) false)==true) (An .i64 (b.drop 19) fun t=>(cond (cond true (t != 2) false) (r0 false) q1)) q1)) q1)))
def Ts (r0:Bool→O R) (e f g i:Int) (c:Bool) (b:LA):Nat→Int→O R
 | 0,_=>none
 | n+1,d=>(UJ N r0 e f g i c b (Ts r0 e f g i c b n) (KC N r0 c b) d)
def iC (N:Nat) (r0:Bool→O R) (q0:Int→Int→Int→Int→Int→O R) (b:LA) (c:Bool):O R :=
 (An .i64 (b.drop 10) fun e=>(An .i64 (b.drop 11) fun f=>(An .i64 (b.drop 12) fun g=>(An .i64 (b.drop 15) fun i=>(q0 e f g i 0)))))
def Oy:=(Af (fun (N:Nat) (b:LA) (c:Bool) (r0:Bool→O R)=>(iC N r0 (fun e f g i d=>(Ts N r0 e f g i c b N d)) b c))).1
theorem pg (b c r0):(@Oy R N b c r0)=(iC N r0 (fun e f g i d=>(Ts N r0 e f g i c b N d)) b c):=by rw[Oy,(Af _).2]
def xZ:Hints:={ H:=(hS hL (hS (hS hL (hS (hP [1,13,14] hL) hL)) (hJ [1] hL hL))) }
def x9 (F:KF R):=Ja Tryz.f48 xZ [] [] N F
def Tt (F:KF R):Bool→O R:=(fun u=>F (.bool u) [])
def Aya (c:Bool) (b:LA):St:=⟨[(1,(op 0))],(hq [(bP c 0 b)])⟩
def Ayb (F:KF R):=x9 N F [1,1,1] []
def Ayc (e f g i:Int) (c:Bool) (b:LA) (d:Int):St:=⟨[(1,(op 0)),(13,(.agg [(iv e),(iv f),(iv g),(iv i)])),(14,(iv d))],(hq [(bP c 0 b)])⟩
def Ayd (F:KF R):=x9 N F [1,0,1,0] []
theorem Afr (F:KF R) (c:Bool) (b:LA):A8 (Ayb N F) (Aya c b)=(KC N (Tt F) c b):=by
 kernel_rfl
theorem dq (F:KF R) (e f g i:Int) (c:Bool) (b:LA):∀ (n:Nat) (d:Int),Ap (Ayd N F) n (Ayc e f g i c b d)=(Ts N (Tt F) e f g i c b n d)
 | 0,_=>by kernel_rfl
 | n+1,d=>Eq.trans (by kernel_rfl) (cR (UJ N (Tt F) e f g i c b · · d) (funext fun d=>(dq F e f g i c b n d)) ((Ar ..).trans (Afr N F c b)):_)
theorem x_ (b:LA) (c:Bool) (F:KF R):Cm [] xZ N 48 [(.pagg b c)] [] F=(Oy N b c (Tt F)):=by
 rw[pg]
 exact Eq.trans (by kernel_rfl) (Bn (iC N (Tt F) · b c) (funext fun e=>funext fun f=>funext fun g=>funext fun i=>funext fun d=>(Aj ..).trans (dq N F e f g i c b N d)):_)
def ph (a:LA) (h:Am) (k:KF R):O R :=
 match a,h with
 | [(.pagg b c)],[]=>(Oy N b c (Tt k))
 | _,_=>none
theorem xa:Ao N 48 @ph:=by
 intro R Q a h k j;unfold ph;split;exact Ay (x_ ..) (x_ ..) trivial;exact A0
def Y8:=Az (xa N)
def Y9:=Cj (xa N)
def Kh (N:Nat) (k0:Int→Int→Int→O R) (r0:Bool→O R) (d:LA) (e:Nat) (c:Bool) (f:Int) (b:LA) (o l p:Int) (m:LA):O R :=
 (cond ((decide (l>0))==true) (An .i64 (m.drop 1) fun q=>(Co 2 (b.drop 4) fun r s=>(cond (Ac (wrap .i64 (l - 1)) s) (An .i64 ((r.drop (((wrap .i64 (l - 1)).toNat)*2)).drop 1) fun t=>(cond (cond true (decide (q<t)) false) (r0 false) (An .i64 m fun u=>(k0 (wrap .i64 (o+u)) f (wrap .i64 (p+1)))))) none))) (An .i64 m fun v=>(k0 (wrap .i64 (o+v)) f (wrap .i64 (p+1)))))
def Jd (r0:Bool→O R) (d:LA) (e:Nat) (c:Bool) (b:LA) (k0:Int→Int→Int→O R) (q1:Int→Int→Int→LA→O R) (i f g:Int):O R :=
 (cond (decide (g<f)) (cond (Ac g e) (cond (Nat.ble 2 ((d.drop ((g.toNat)*2)).length)) (cond ((!c)||(Ba ((d.drop ((g.toNat)*2)).take 2))) (cond ((Nat.beq (((d.drop ((g.toNat)*2)).take 2).length) 2)&&((Nat.ble 2 2)&&(!false))) (An .i64 (setCells [(.int .i64 0),(.int .i64 0)] 0 ((d.drop ((g.toNat)*2)).take 2)) fun w=>(Dt N 1 1048576 [(.int .i64 w)] 1 false true (fun x=>(cond ((!x)==false) (An .i64 ((setCells [(.int .i64 0),(.int .i64 0)] 0 ((d.drop ((g.toNat)*2)).take 2)).drop 1) fun y=>(Dt N (-1048576) 1048576 [(.int .i64 y)] 1 false true (fun z=>(cond (cond false true (!z)) (r0 false) (q1 i g g (setCells [(.int .i64 0),(.int .i64 0)] 0 ((d.drop ((g.toNat)*2)).take 2))))))) (r0 false))))) none) none) none) none) (An .i64 (b.drop 3) fun aa=>(An .i64 (b.drop 2) fun ab=>(r0 (i==(wrap .i64 (aa - ab)))))))
def C5 (r0:Bool→O R) (d:LA) (e:Nat) (c:Bool) (b:LA):Nat→Int→Int→Int→O R
 | 0,_,_,_=>none
 | n+1,i,f,g=>(Jd N r0 d e c b (C5 r0 d e c b n) (fun o l p m=>(Kh N (C5 r0 d e c b n) r0 d e c f b o l p m)) i f g)
def N8 (N:Nat) (r0:Bool→O R) (q0:LA→Nat→Int→Int→Int→O R) (b:LA) (c:Bool):O R :=
 (Co 2 (b.drop 4) fun ae ac=>(cond (decide (((ac:Nat):Int)>8)) (r0 false) (Co 2 (b.drop 4) fun d e=>(q0 d e 0 ((e:Nat):Int) 0))))
def Fv:=(Af (fun (N:Nat) (b:LA) (c:Bool) (r0:Bool→O R)=>(N8 N r0 (fun d e i f g=>(C5 N r0 d e c b N i f g)) b c))).1
theorem Za (b c r0):(@Fv R N b c r0)=(N8 N r0 (fun d e i f g=>(C5 N r0 d e c b N i f g)) b c):=by rw[Fv,(Af _).2]
def AY:Hints:={ H:=(hS hL (hS hL (hS hL (hS (hS hL (hS (hP [1,3,11,12,13] (hS hL (hS hL (hS (hS (hS hL (hJ [1,3,4,5,11,12,13] hL hL)) hL) hL)))) hL)) hL)))) }
def F_:Ef:=[(47,NF N)]
def AZ (F:KF R):=Ja Tryz.f49 AY (F_ N) [] N F
def Ea (F:KF R):Bool→O R:=(fun ad=>F (.bool ad) [])
def i6 (d:LA) (e:Nat) (c:Bool) (f:Int) (b:LA) (o l p:Int) (m:LA):St:=⟨[(1,(op 0)),(3,(iv o)),(4,(iv l)),(5,(op 1)),(11,(.imm d e 2 false c)),(12,(iv f)),(13,(iv p))],(hq [(bP c 0 b),(bQ 0 m)])⟩
def i7 (F:KF R) (Q0:St→O R):=AZ N F [1,1,1,0,1,0,0,1,1,0,0,1,1] [Q0]
def A_ (d:LA) (e:Nat) (c:Bool) (b:LA) (i f g:Int):St:=⟨[(1,(op 0)),(3,(iv i)),(11,(.imm d e 2 false c)),(12,(iv f)),(13,(iv g))],(hq [(bP c 0 b)])⟩
def BA (F:KF R):=AZ N F [1,1,1,0,1,0] []
theorem UK (Q0:St→O R) (F:KF R) (d:LA) (e:Nat) (c:Bool) (f:Int) (b:LA):∀ (o l p:Int) (m:LA),A8 (i7 N F Q0) (i6 d e c f b o l p m)=(Kh N (fun i f g=>Q0 (A_ d e c b i f g)) (Ea F) d e c f b o l p m):=by
 intro o l p m
 kernel_rfl
theorem Uv (F:KF R) (d:LA) (e:Nat) (c:Bool) (b:LA):∀ (n:Nat) (i f g:Int),Ap (BA N F) n (A_ d e c b i f g)=(C5 N (Ea F) d e c b n i f g)
 | 0,_,_,_=>by kernel_rfl
 | n+1,i,f,g=>have e0:=(funext fun i=>funext fun f=>funext fun g=>(Uv F d e c b n i f g))
  Eq.trans (by kernel_rfl) (cR (Jd N (Ea F) d e c b · · i f g) e0 (funext fun o=>funext fun l=>funext fun p=>funext fun m=>(Ar ..).trans ((UK N (Ap (BA N F) n) F d e c f b o l p m).trans (Bn (Kh N · (Ea F) d e c f b o l p m) e0))):_)
theorem BB (b:LA) (c:Bool) (F:KF R):Cm (F_ N) AY N 49 [(.pagg b c)] [] F=(Fv N b c (Ea F)):=by
 rw[Za]
 exact Eq.trans (by kernel_rfl) (Bn (N8 N (Ea F) · b c) (funext fun d=>funext fun e=>funext fun i=>funext fun f=>funext fun g=>(Aj ..).trans (Uv N F d e c b N i f g)):_)
def Zb (a:LA) (h:Am) (k:KF R):O R :=
 match a,h with
 | [(.pagg b c)],[]=>(Fv N b c (Ea k))
 | _,_=>none
theorem BC:Ao N 49 @Zb:=by
 intro R Q a h k j;unfold Zb;split;exact Ay (BB ..) (BB ..) ⟨NG N,trivial⟩;exact A0
def i8:=Az (BC N)
def i9:=Cj (BC N)
def P8 (r0:Bool→O R) (c:LA) (b:Nat) (d e:Bool) (f:Int) (k0:Int→Int→O R) (i g:Int):O R :=
 (cond (decide (g<i)) (cond (Ac g b) (An .i64 (c.drop ((g.toNat)*1)) fun l=>(Dt N 0 (wrap .i64 (f - 1)) [(.int .i64 l)] 1 false true (fun m=>(cond ((!m)==false) (cond ((decide (g>0))==true) (cond (Ac (wrap .i64 (g - 1)) b) (An .i64 (c.drop (((wrap .i64 (g - 1)).toNat)*1)) fun o=>(cond (cond false true (cond true (decide (l≤o)) false)) (r0 false) (k0 i (wrap .i64 (g+1))))) none) (k0 i (wrap .i64 (g+1)))) (r0 false))))) none) (r0 true))
def Gw (r0:Bool→O R) (c:LA) (b:Nat) (d e:Bool) (f:Int):Nat→Int→Int→O R
 | 0,_,_=>none
 | n+1,i,g=>(P8 N r0 c b d e f (Gw r0 c b d e f n) i g)
def X1 (N:Nat) (r0:Bool→O R) (q0:Int→Int→O R) (c:LA) (b:Nat) (d e:Bool) (f:Int):O R :=
 (q0 ((b:Nat):Int) 0)
def Lx:=(Af (fun (N:Nat) (c:LA) (b:Nat) (d e:Bool) (f:Int) (r0:Bool→O R)=>(X1 N r0 (fun i g=>(Gw N r0 c b d e f N i g)) c b d e f))).1
theorem PK (c b d e f r0):(@Lx R N c b d e f r0)=(X1 N r0 (fun i g=>(Gw N r0 c b d e f N i g)) c b d e f):=by rw[Lx,(Af _).2]
def XZ:Hints:={ H:=(hS hL (hS (hS hL (hS (hP [0,1,7,8,9] hL) hL)) hL)) }
def dt:Ef:=[(47,NF N)]
def zt (F:KF R):=Ja Tryz.f50 XZ (dt N) [] N F
def Nb (F:KF R):Bool→O R:=(fun p=>F (.bool p) [])
def zu (c:LA) (b:Nat) (d e:Bool) (f i g:Int):St:=⟨[(0,(.imm c b 1 d e)),(1,(iv f)),(7,(.imm c b 1 d e)),(8,(iv i)),(9,(iv g))],[]⟩
def zw (F:KF R):=zt N F [1,0,1,0] []
theorem F' (F:KF R) (c:LA) (b:Nat) (d e:Bool) (f:Int):∀ (n:Nat) (i g:Int),Ap (zw N F) n (zu c b d e f i g)=(Gw N (Nb F) c b d e f n i g)
 | 0,_,_=>by kernel_rfl
 | n+1,i,g=>Eq.trans (by kernel_rfl) (Bn (P8 N (Nb F) c b d e f · i g) (funext fun i=>funext fun g=>(F' F c b d e f n i g)):_)
theorem X_ (c:LA) (b:Nat) (d e:Bool) (f:Int) (F:KF R):Cm (dt N) XZ N 50 [(.imm c b 1 d e),(iv f)] [] F=(Lx N c b d e f (Nb F)):=by
 rw[PK]
 exact Eq.trans (by kernel_rfl) (Bn (X1 N (Nb F) · c b d e f) (funext fun i=>funext fun g=>(Aj ..).trans (F' N F c b d e f N i g)):_)
def PL (a:LA) (h:Am) (k:KF R):O R :=
 match a,h with
 | [(.imm c b 1 d e),(.int .i64 f)],[]=>(Lx N c b d e f (Nb k))
 | _,_=>none
theorem YA:Ao N 50 @PL:=by
 intro R Q a h k j;unfold PL;split;exact Ay (X_ ..) (X_ ..) ⟨NG N,trivial⟩;exact A0
def zx:=Az (YA N)
def zy:=Cj (YA N)
def du (r0:Bool→O R) (d:Int) (c:Bool) (b:LA):O R :=
 (An .i64 (b.drop 2) fun e=>(An .i64 (b.drop 3) fun f=>(An .i64 (b.drop 8) fun g=>(An .i64 (b.drop 9) fun i=>(Dt N e f [(.int .i64 g),(.int .i64 i)] 2 false true (fun l=>(cond (!l) (r0 false) (An .i64 (b.drop 5) fun m=>(An .i64 (b.drop 13) fun n=>(An .i64 (b.drop 14) fun o=>(An .i64 (b.drop 17) fun p=>(Dt N 0 1048576 [(.int .i64 m),(.int .i64 n),(.int .i64 o),(.int .i64 p)] 4 false true (fun q=>(cond (!q) (r0 false) (An .i64 (b.drop 19) fun r=>(cond (r==2) (An .i64 (b.drop 2) fun s=>(An .i64 (b.drop 3) fun t=>(An .i64 (b.drop 21) fun u=>(Dt N s t [(.int .i64 u)] 1 false true (fun v=>(cond (!v) (r0 false) (cond (Nat.ble 22 (b.length)) (Fv N (b.take 22) c (fun w=>(cond (w==true) (Co 1 (b.drop 18) fun x y=>(Lx N x y false c d (fun z=>(r0 (cond true z false))))) (r0 false)))) none))))))) (An .i64 (b.drop 21) fun aa=>(cond (aa != 0) (r0 false) (cond (Nat.ble 22 (b.length)) (Fv N (b.take 22) c (fun ab=>(cond (ab==true) (Co 1 (b.drop 18) fun ac ad=>(Lx N ac ad false c d (fun ae=>(r0 (cond true ae false))))) (r0 false)))) none)))))))))))))))))))
def UL (r0:Bool→O R) (d:Int) (c:Bool) (b:LA) (q1:O R):O R :=
 (An .i64 (b.drop 2) fun af=>(An .i64 (b.drop 3) fun ag=>(An .i64 (b.drop 6) fun ah=>(An .i64 (b.drop 7) fun ai=>(An .i64 (b.drop 16) fun aj=>(Dt N 0 1048576 [(.int .i64 af),(.int .i64 ag),(.int .i64 ah),(.int .i64 ai),(.int .i64 aj)] 5 false true (fun ak=>(cond ((!ak)==false) (An .i64 (b.drop 2) fun al=>(An .i64 (b.drop 3) fun am=>(cond (cond false true (decide (al>am))) (r0 false) q1))) (r0 false)))))))))
def KD (r0:Bool→O R) (d:Int) (c:Bool) (b:LA):O R:=(UL N r0 d c b (du N r0 d c b))
def iD (r0:Bool→O R) (q0:O R) (b:LA) (c:Bool) (d:Int):O R :=
 (Dt N 1 24 [(.int .i64 d)] 1 false true (fun an=>(cond ((!an)==false) (cond (Nat.ble 22 (b.length)) (Oy N (b.take 22) c (fun ao=>(cond (cond false true (!ao)) (r0 false) q0))) none) (r0 false))))
def Uw:=(Af (fun (N:Nat) (b:LA) (c:Bool) (d:Int) (r0:Bool→O R)=>(iD N r0 (KD N r0 d c b) b c d))).1
theorem pi (b c d r0):(@Uw R N b c d r0)=(iD N r0 (KD N r0 d c b) b c d):=by rw[Uw,(Af _).2]
def xb:Hints:={ H:=(hS hL (hJ [1,2] hL (hJ [1,2] hL hL))) }
def Afs:Ef:=[(47,NF N),(48,Y8 N),(49,i8 N),(50,zx N)]
def xc (F:KF R):=Ja Tryz.f16 xb (Afs N) [] N F
def Tu (F:KF R):Bool→O R:=(fun ap=>F (.bool ap) [])
def Aye (d:Int) (c:Bool) (b:LA):St:=⟨[(1,(iv d)),(2,(op 0))],(hq [(bP c 0 b)])⟩
def Ayf (F:KF R):=xc N F [1,1,1] []
def Ayg (d:Int) (c:Bool) (b:LA):St:=⟨[(1,(iv d)),(2,(op 0))],(hq [(bP c 0 b)])⟩
def Ayh (F:KF R):=xc N F [1,1] []
theorem Aft (F:KF R) (d:Int) (c:Bool) (b:LA):A8 (Ayf N F) (Aye d c b)=(du N (Tu F) d c b):=by
 kernel_rfl
theorem Afu (F:KF R) (d:Int) (c:Bool) (b:LA):A8 (Ayh N F) (Ayg d c b)=(KD N (Tu F) d c b):=by
 exact Eq.trans (by kernel_rfl) (Bn (UL N (Tu F) d c b ·) ((Ar ..).trans (Aft N F d c b)):_)
theorem xd (b:LA) (c:Bool) (d:Int) (F:KF R):Cm (Afs N) xb N 16 [(.pagg b c),(iv d)] [] F=(Uw N b c d (Tu F)):=by
 rw[pi]
 exact Eq.trans (by kernel_rfl) (Bn (iD N (Tu F) · b c d) ((Ar ..).trans (Afu N F d c b)):_)
def pj (a:LA) (h:Am) (k:KF R):O R :=
 match a,h with
 | [(.pagg b c),(.int .i64 d)],[]=>(Uw N b c d (Tu k))
 | _,_=>none
theorem xe:Ao N 16 @pj:=by
 intro R Q a h k j;unfold pj;split;exact Ay (xd ..) (xd ..) ⟨NG N,Y9 N,i9 N,zy N,trivial⟩;exact A0
def KE:=Az (xe N)
def KG:=Cj (xe N)
end
end Gx

namespace Gx
open Go Go.Proofs
open IntKind (wrap)
set_option maxRecDepth 100000
noncomputable section
variable {R:Type} (N:Nat)
def Afv (d:LA) (e:Nat) (f c:Bool) (r0:Nat→LA→O R):O R :=
 (Cq N d e f c (fun g b=>(cond ((decide (0≤((b:Nat):Int)))&&((decide (((b:Nat):Int)≤((b:Nat):Int)))&&((decide (((b:Nat):Int)≤140737488355328))&&(decide ((((b:Nat):Int)*((4:Nat):Int))≤140737488355328))))) (cond ((!c)||(Ba g)) (r0 b (C0 (List.replicate b (.int .u32 0)) 0 (g.take ((min b b)*1)))) none) none)))
def C_:=(Af (@Afv R)).1
theorem xg:@C_ R=@Afv R:=(Af _).2
def A7s:Ef:=[(171,Uo N)]
def Afw (F:KF R):Nat→LA→O R:=(fun i l=>F (.own 300000 0 i) (hq [(bQ 1 l)]))
theorem Afx (d:LA) (e:Nat) (f c:Bool) (F:KF R):Cm (A7s N) Ban N 173 [(.imm d e 1 f c)] [] F=(C_ N d e f c (Afw F)):=by
 rw[xg]
 kernel_rfl
def xi (a:LA) (h:Am) (k:KF R):O R :=
 match a,h with
 | [(.imm d e 1 f c)],[]=>(C_ N d e f c (Afw k))
 | _,_=>none
theorem Afy:Ao N 173 @xi:=by
 intro R Q a h k j;unfold xi;split;exact Ay (Afx ..) (Afx ..) ⟨Up N,trivial⟩;exact A0
def UM:=Az (Afy N)
def UN:=Cj (Afy N)
def Afz (b:LA) (c:Bool) (r0:Bool→Nat→LA→O R):O R :=
 (ON b fun f=>(Co 1 (b.drop 1) fun g i=>(C_ N g i false c (fun d e=>(Kq N f d e (fun l=>(r0 l d e)))))))
def pk:=(Af (@Afz R)).1
theorem xj:@pk R=@Afz R:=(Af _).2
def A7t:Ef:=[(173,UM N),(148,CW N)]
def Af0 (F:KF R):Bool→Nat→LA→O R:=(fun m n o=>F (.agg [(.bool m),(.own 300000 0 n)]) (hq [(bQ 1 o)]))
theorem Af1 (b:LA) (c:Bool) (F:KF R):Cm (A7t N) Dr N 172 [(.pagg b c)] [] F=(pk N b c (Af0 F)):=by
 rw[xj]
 kernel_rfl
def xk (a:LA) (h:Am) (k:KF R):O R :=
 match a,h with
 | [(.pagg b c)],[]=>(pk N b c (Af0 k))
 | _,_=>none
theorem Af2:Ao N 172 @xk:=by
 intro R Q a h k j;unfold xk;split;exact Ay (Af1 ..) (Af1 ..) ⟨UN N,CX N,trivial⟩;exact A0
def A2q:=Az (Af2 N)
def A2r:=Cj (Af2 N)
def Fw (N:Nat) (r0:Int→O R) (b c:Int):O R :=
 (cond (decide (b≥256)) (cond (Ac (wrap .u8 (Int.fdiv b (2 ^ 8))) 256) (r0 (wrap .i64 ((wrap .i64 (c+8))+(wrap .i64 ((UInt8.toNat (List.getD ([0,1,2,2,3,3,3,3,4,4,4,4,4,4,4,4,5,5,5,5,5,5,5,5,5,5,5,5,5,5,5,5,6,6,6,6,6,6,6,6,6,6,6,6,6,6,6,6,6,6,6,6,6,6,6,6,6,6,6,6,6,6,6,6,7,7,7,7,7,7,7,7,7,7,7,7,7,7,7,7,7,7,7,7,7,7,7,7,7,7,7,7,7,7,7,7,7,7,7,7,7,7,7,7,7,7,7,7,7,7,7,7,7,7,7,7,7,7,7,7,7,7,7,7,7,7,7,7,8,8,8,8,8,8,8,8,8,8,8,8,8,8,8,8,8,8,8,8,8,8,8,8,8,8,8,8,8,8,8,8,8,8,8,8,8,8,8,8,8,8,8,8,8,8,8,8,8,8,8,8,8,8,8,8,8,8,8,8,8,8,8,8,8,8,8,8,8,8,8,8,8,8,8,8,8,8,8,8,8,8,8,8,8,8,8,8,8,8,8,8,8,8,8,8,8,8,8,8,8,8,8,8,8,8,8,8,8,8,8,8,8,8,8,8,8,8,8,8,8,8,8,8,8,8,8,8]:List UInt8) ((wrap .u8 (Int.fdiv b (2 ^ 8))).toNat) 0):Nat):Int))))) none) (cond (Ac (wrap .u8 b) 256) (r0 (wrap .i64 (c+(wrap .i64 ((UInt8.toNat (List.getD ([0,1,2,2,3,3,3,3,4,4,4,4,4,4,4,4,5,5,5,5,5,5,5,5,5,5,5,5,5,5,5,5,6,6,6,6,6,6,6,6,6,6,6,6,6,6,6,6,6,6,6,6,6,6,6,6,6,6,6,6,6,6,6,6,7,7,7,7,7,7,7,7,7,7,7,7,7,7,7,7,7,7,7,7,7,7,7,7,7,7,7,7,7,7,7,7,7,7,7,7,7,7,7,7,7,7,7,7,7,7,7,7,7,7,7,7,7,7,7,7,7,7,7,7,7,7,7,7,8,8,8,8,8,8,8,8,8,8,8,8,8,8,8,8,8,8,8,8,8,8,8,8,8,8,8,8,8,8,8,8,8,8,8,8,8,8,8,8,8,8,8,8,8,8,8,8,8,8,8,8,8,8,8,8,8,8,8,8,8,8,8,8,8,8,8,8,8,8,8,8,8,8,8,8,8,8,8,8,8,8,8,8,8,8,8,8,8,8,8,8,8,8,8,8,8,8,8,8,8,8,8,8,8,8,8,8,8,8,8,8,8,8,8,8,8,8,8,8,8,8,8,8,8,8,8,8]:List UInt8) ((wrap .u8 b).toNat) 0):Nat):Int))))) none))
def P9 (N:Nat) (r0:Int→O R) (q0:Int→Int→O R) (d:Int):O R :=
 (cond (decide (d≥65536)) (q0 (Int.fdiv d (2 ^ 16)) 16) (q0 d 0))
def I3:=(Af (fun (N:Nat) (d:Int) (r0:Int→O R)=>(P9 N r0 (fun b c=>(Fw N r0 b c)) d))).1
theorem BD (d r0):(@I3 R N d r0)=(P9 N r0 (fun b c=>(Fw N r0 b c)) d):=by rw[I3,(Af _).2]
def GA:Hints:={ H:=(hS hL (hJ [0,2] hL hL)) }
def mw (F:KF R):=Ja Tryz.f205 GA [] [] N F
def Ly (F:KF R):Int→O R:=(fun e=>F (iv e) [])
def mz (b c:Int):St:=⟨[(0,(.int .u32 b)),(2,(iv c))],[]⟩
def nA (F:KF R):=mw N F [1,1] []
theorem bK (F:KF R):∀ (b c:Int),A8 (nA N F) (mz b c)=(Fw N (Ly F) b c):=by
 intro b c
 kernel_rfl
theorem GB (d:Int) (F:KF R):Cm [] GA N 205 [(.int .u32 d)] [] F=(I3 N d (Ly F)):=by
 rw[BD]
 exact Eq.trans (by kernel_rfl) (Bn (P9 N (Ly F) · d) (funext fun b=>funext fun c=>(Ar ..).trans (bK N F b c)):_)
def BE (a:LA) (h:Am) (k:KF R):O R :=
 match a,h with
 | [(.int .u32 d)],[]=>(I3 N d (Ly k))
 | _,_=>none
theorem GC:Ao N 205 @BE:=by
 intro R Q a h k j;unfold BE;split;exact Ay (GB ..) (GB ..) trivial;exact A0
def nB:=Az (GC N)
def nC:=Cj (GC N)
def It (b:Int) (r0:Int→O R):O R :=
 (I3 N b (fun c=>(r0 (wrap .i64 (32 - c)))))
def Ck:=(Af (@It R)).1
theorem Nc:@Ck R=@It R:=(Af _).2
def GD:Ef:=[(205,nB N)]
def N9 (F:KF R):Int→O R:=(fun d=>F (iv d) [])
theorem Oa (b:Int) (F:KF R):Cm (GD N) Dr N 200 [(.int .u32 b)] [] F=(Ck N b (N9 F)):=by
 rw[Nc]
 kernel_rfl
def Nd (a:LA) (h:Am) (k:KF R):O R :=
 match a,h with
 | [(.int .u32 b)],[]=>(Ck N b (N9 k))
 | _,_=>none
theorem Ob:Ao N 200 @Nd:=by
 intro R Q a h k j;unfold Nd;split;exact Ay (Oa ..) (Oa ..) ⟨nC N,trivial⟩;exact A0
def Oc:=Az (Ob N)
def Od:=Cj (Ob N)
def NH (N:Nat) (f:Int) (c:LA) (b:Nat) (d e:Bool) (r0:Int→O R):O R :=
 (cond (decide (f<((b:Nat):Int))) (cond (Ac f b) (An .u32 (c.drop ((f.toNat)*1)) fun g=>(r0 (wrap .u64 g))) none) (r0 0))
def Lz:=(Af (@NH R)).1
theorem PM:@Lz R=@NH R:=(Af _).2
def YB (c:LA) (b:Nat) (d e:Bool) (F:KF R):Int→O R:=(fun i=>F (.int .u64 i) [(100000,⟨false,false,false,false,0,[(.imm c b 1 d e)],false⟩)])
theorem YC (f:Int) (c:LA) (b:Nat) (d e:Bool) (F:KF R):Cm [] Dr N 206 [(iv f),(.optr 100000 0)] [(100000,⟨false,false,false,false,0,[(.imm c b 1 d e)],false⟩)] F=(Lz N f c b d e (YB c b d e F)):=by
 rw[PM]
 kernel_rfl
def PN (a:LA) (h:Am) (k:KF R):O R :=
 match a,h with
 | [(.int .i64 f),(.optr 100000 0)],[(100000,⟨false,false,false,false,0,[(.imm c b 1 d e)],false⟩)]=>(Lz N f c b d e (YB c b d e k))
 | _,_=>none
theorem YD:Ao N 206 @PN:=by
 intro R Q a h k j;unfold PN;split;exact Ay (YC ..) (YC ..) trivial;exact A0
def Aaa:=Az (YD N)
def Aab:=Cj (YD N)
def nD (c:LA) (d:Nat) (e f:Bool) (g b:Int) (r0:Int→O R):O R :=
 (Lz N (wrap .i64 (g - 1)) c d e f (fun i=>(Lz N (wrap .i64 (g - 2)) c d e f (fun l=>(cond (decide (b<0)) none (Lz N (wrap .i64 (g - 3)) c d e f (fun m=>(cond (decide ((wrap .i64 (32 - b))<0)) none (r0 (To .u64 (wrap .u64 ((To .u64 (wrap .u64 (i*2 ^ 32)) l)*2 ^ (min (b.toNat) 64))) (Int.fdiv m (2 ^ (min ((wrap .i64 (32 - b)).toNat) 64)))))))))))))
def ED:=(Af (@nD R)).1
theorem kF:@ED R=@nD R:=(Af _).2
def Ayi:Ef:=[(206,Aaa N)]
def pm (F:KF R):Int→O R:=(fun n=>F (.int .u64 n) [])
theorem pn (c:LA) (d:Nat) (e f:Bool) (g b:Int) (F:KF R):Cm (Ayi N) Dr N 201 [(.imm c d 1 e f),(iv g),(iv b)] [] F=(ED N c d e f g b (pm F)):=by
 rw[kF]
 kernel_rfl
def kG (a:LA) (h:Am) (k:KF R):O R :=
 match a,h with
 | [(.imm c d 1 e f),(.int .i64 g),(.int .i64 b)],[]=>(ED N c d e f g b (pm k))
 | _,_=>none
theorem po:Ao N 201 @kG:=by
 intro R Q a h k j;unfold kG;split;exact Ay (pn ..) (pn ..) ⟨Aab N,trivial⟩;exact A0
def Ati:=Az (po N)
def Atj:=Cj (po N)
def X2 (N:Nat) (k0:Int→Int→Int→Int→Int→Int→Int→Int→Bool→O R) (r0:LA→O R) (q o r s t u:Int) (w:Bool):O R :=
 (cond (o==0) none (cond (o==0) none (k0 o (Int.tmod q o) r s (wrap .u64 (r+(wrap .u64 ((wrap .u64 (Int.tdiv q o))*s)))) t u (wrap .u64 (t+(wrap .u64 ((wrap .u64 (Int.tdiv q o))*u)))) (!w))))
def Ku (N:Nat) (r0:LA→O R) (k0:Int→Int→Int→Int→Int→Int→Int→Int→Bool→O R) (q1:Int→Int→Int→Int→Int→Int→Bool→O R) (g c i d m l b e:Int) (f:Bool):O R :=
 (cond ((decide (c≥e))==true) (cond (cond true (decide ((wrap .u64 (g - c))≥(wrap .u64 (b+e)))) false) (q1 g c d m b e f) (r0 [(.int .u64 i),(.int .u64 d),(.int .u64 l),(.int .u64 b),(.bool f)])) (r0 [(.int .u64 i),(.int .u64 d),(.int .u64 l),(.int .u64 b),(.bool f)]))
def E2 (r0:LA→O R):Nat→Int→Int→Int→Int→Int→Int→Int→Int→Bool→O R
 | 0,_,_,_,_,_,_,_,_,_=>none
 | n+1,g,c,i,d,m,l,b,e,f=>(Ku N r0 (E2 r0 n) (fun q o r s t u w=>(X2 N (E2 r0 n) r0 q o r s t u w)) g c i d m l b e f)
def KH (r0:LA→O R) (q0:Int→Int→Int→Int→Int→Int→Int→Int→Bool→O R) (v:LA) (p:Nat) (ab x:Bool) (y:LA) (z:Nat) (ac aa:Bool):O R :=
 (cond (Ac (wrap .i64 (((p:Nat):Int) - 1)) p) (An .u32 (v.drop (((wrap .i64 (((p:Nat):Int) - 1)).toNat)*1)) fun ae=>(Ck N ae (fun ad=>(ED N v p false x ((p:Nat):Int) ad (fun af=>(ED N y z false aa ((p:Nat):Int) ad (fun ag=>(q0 af ag 0 1 0 0 0 1 false)))))))) none)
def W7:=(Af (fun (N:Nat) (v:LA) (p:Nat) (ab x:Bool) (y:LA) (z:Nat) (ac aa:Bool) (r0:LA→O R)=>(KH N r0 (fun g c i d m l b e f=>(E2 N r0 N g c i d m l b e f)) v p ab x y z ac aa))).1
theorem dv (v p ab x y z ac aa r0):(@W7 R N v p ab x y z ac aa r0)=(KH N r0 (fun g c i d m l b e f=>(E2 N r0 N g c i d m l b e f)) v p ab x y z ac aa):=by rw[W7,(Af _).2]
def kH:Hints:={ H:=(hS hL (hS hL (hS hL (hS hL (hS hL (hS hL (hS hL (hS (hS (hP [4,7,8,9,10,11,12,13,14,15] (hJ [4,7,8,10,11,13,14,15] hL hL)) hL) hL)))))))),modes:=[(3,0)] }
def pp:Ef:=[(200,Oc N),(201,Ati N)]
def kI (F:KF R):=Ja Tryz.f195 kH (pp N) [] N F
def J3 (F:KF R):LA→O R:=(fun ah=>F (.pagg ah false) [])
def Ams (q o r s t u:Int) (w:Bool):St:=⟨[(4,(op 0)),(7,(.int .u64 q)),(8,(.int .u64 o)),(10,(.int .u64 r)),(11,(.int .u64 s)),(13,(.int .u64 t)),(14,(.int .u64 u)),(15,(.bool w))],(hq [(bQ 0 [(.int .u64 0),(.int .u64 0),(.int .u64 0),(.int .u64 0),(.bool false)])])⟩
def Amt (F:KF R) (Q0:St→O R):=kI N F [1,1,1,1,1,1,1,0,0,0,1] [Q0]
def kJ (g c i d m l b e:Int) (f:Bool):St:=⟨[(4,(op 0)),(7,(.int .u64 g)),(8,(.int .u64 c)),(9,(.int .u64 i)),(10,(.int .u64 d)),(11,(.int .u64 m)),(12,(.int .u64 l)),(13,(.int .u64 b)),(14,(.int .u64 e)),(15,(.bool f))],(hq [(bQ 0 [(.int .u64 0),(.int .u64 0),(.int .u64 0),(.int .u64 0),(.bool false)])])⟩
def kK (F:KF R):=kI N F [1,1,1,1,1,1,1,0,0] []
theorem uC (Q0:St→O R) (F:KF R):∀ (q o r s t u:Int) (w:Bool),A8 (Amt N F Q0) (Ams q o r s t u w)=(X2 N (fun g c i d m l b e f=>Q0 (kJ g c i d m l b e f)) (J3 F) q o r s t u w):=by
 intro q o r s t u w
 kernel_rfl
theorem PO (F:KF R):∀ (n:Nat) (g c i d m l b e:Int) (f:Bool),Ap (kK N F) n (kJ g c i d m l b e f)=(E2 N (J3 F) n g c i d m l b e f)
 | 0,_,_,_,_,_,_,_,_,_=>by kernel_rfl
 | n+1,g,c,i,d,m,l,b,e,f=>have e0:=(funext fun g=>funext fun c=>funext fun i=>funext fun d=>funext fun m=>funext fun l=>funext fun b=>funext fun e=>funext fun f=>(PO F n g c i d m l b e f))
  Eq.trans (by kernel_rfl) (cR (Ku N (J3 F) · · g c i d m l b e f) e0 (funext fun q=>funext fun o=>funext fun r=>funext fun s=>funext fun t=>funext fun u=>funext fun w=>(Ar ..).trans ((uC N (Ap (kK N F) n) F q o r s t u w).trans (Bn (X2 N · (J3 F) q o r s t u w) e0))):_)
theorem kL (v:LA) (p:Nat) (ab x:Bool) (y:LA) (z:Nat) (ac aa:Bool) (F:KF R):Cm (pp N) kH N 195 [(.imm v p 1 ab x),(.imm y z 1 ac aa)] [] F=(W7 N v p ab x y z ac aa (J3 F)):=by
 rw[dv]
 exact Eq.trans (by kernel_rfl) (Bn (KH N (J3 F) · v p ab x y z ac aa) (funext fun g=>funext fun c=>funext fun i=>funext fun d=>funext fun m=>funext fun l=>funext fun b=>funext fun e=>funext fun f=>(Aj ..).trans (PO N F N g c i d m l b e f)):_)
def dw (a:LA) (h:Am) (k:KF R):O R :=
 match a,h with
 | [(.imm v p 1 ab x),(.imm y z 1 ac aa)],[]=>(W7 N v p ab x y z ac aa (J3 k))
 | _,_=>none
theorem kM:Ao N 195 @dw:=by
 intro R Q a h k j;unfold dw;split;exact Ay (kL ..) (kL ..) ⟨Od N,Atj N,trivial⟩;exact A0
def Amu:=Az (kM N)
def Amv:=Cj (kM N)
def Ki (r0:Nat→Nat→LA→LA→O R) (d:LA) (b:Nat) (e f:Bool) (c:Int) (k0:Int→Int→LA→O R) (l g:Int) (i:LA):O R :=
 (cond (decide (g≥0)) (cond (Ac g b) (An .u32 (d.drop ((g.toNat)*1)) fun m=>(cond ((wrap .u64 c)==0) none (cond (Ac g b) (cond ((Nat.beq 1 1)&&((Nat.ble ((0+((g.toNat)*1))+1) (i.length))&&(!false))) (cond ((wrap .u64 c)==0) none (k0 (Int.tmod (To .u64 (wrap .u64 (l*2 ^ 32)) (wrap .u64 m)) (wrap .u64 c)) (wrap .i64 (g - 1)) (i.set (0+((g.toNat)*1)) (.int .u32 (wrap .u32 (wrap .u64 (Int.tdiv (To .u64 (wrap .u64 (l*2 ^ 32)) (wrap .u64 m)) (wrap .u64 c)))))))) none) none))) none) (W2 N b i (fun o=>(Ce N l (fun p q=>(r0 o p i q))))))
def Et (r0:Nat→Nat→LA→LA→O R) (d:LA) (b:Nat) (e f:Bool) (c:Int):Nat→Int→Int→LA→O R
 | 0,_,_,_=>none
 | n+1,l,g,i=>(Ki N r0 d b e f c (Et r0 d b e f c n) l g i)
def Qa (N:Nat) (r0:Nat→Nat→LA→LA→O R) (q0:Int→Int→LA→O R) (d:LA) (b:Nat) (e f:Bool) (c:Int):O R :=
 (cond ((decide (0≤((b:Nat):Int)))&&((decide (((b:Nat):Int)≤((b:Nat):Int)))&&((decide (((b:Nat):Int)≤140737488355328))&&(decide ((((b:Nat):Int)*((4:Nat):Int))≤140737488355328))))) (q0 0 (wrap .i64 (((b:Nat):Int) - 1)) (List.replicate b (.int .u32 0))) none)
def Gy:=(Af (fun (N:Nat) (d:LA) (b:Nat) (e f:Bool) (c:Int) (r0:Nat→Nat→LA→LA→O R)=>(Qa N r0 (fun l g i=>(Et N r0 d b e f c N l g i)) d b e f c))).1
theorem BF (d b e f c r0):(@Gy R N d b e f c r0)=(Qa N r0 (fun l g i=>(Et N r0 d b e f c N l g i)) d b e f c):=by rw[Gy,(Af _).2]
def GE:Hints:={ H:=(hS hL (hS hL (hS hL (hS (hS hL (hS (hP [0,1,4,6,7] hL) hL)) hL)))),nils:=[(4,1),(5,1)],modes:=[(2,1),(2,1)] }
def KI:Ef:=[(171,t_ N),(149,Hi N)]
def nE (F:KF R):=Ja Tryz.f197 GE (KI N) [] N F
def H5 (F:KF R):Nat→Nat→LA→LA→O R:=(fun r s t u=>F (.tup [(.own 300000 0 r),(.own 300001 0 s)]) (hq [(bQ 1 t),(bQ 1 u)]))
def nF (d:LA) (b:Nat) (e f:Bool) (c l g:Int) (i:LA):St:=⟨[(0,(.imm d b 1 e f)),(1,(.int .u32 c)),(4,(.own 300000 0 b)),(6,(.int .u64 l)),(7,(iv g))],(hq [(bQ 1 i)])⟩
def nG (F:KF R):=nE N F [1,1,1,0,1,0] []
theorem V9 (F:KF R) (d:LA) (b:Nat) (e f:Bool) (c:Int):∀ (n:Nat) (l g:Int) (i:LA),Ap (nG N F) n (nF d b e f c l g i)=(Et N (H5 F) d b e f c n l g i)
 | 0,_,_,_=>by kernel_rfl
 | n+1,l,g,i=>Eq.trans (by kernel_rfl) (Bn (Ki N (H5 F) d b e f c · l g i) (funext fun l=>funext fun g=>funext fun i=>(V9 F d b e f c n l g i)):_)
theorem GF (d:LA) (b:Nat) (e f:Bool) (c:Int) (F:KF R):Cm (KI N) GE N 197 [(.imm d b 1 e f),(.int .u32 c)] [] F=(Gy N d b e f c (H5 F)):=by
 rw[BF]
 exact Eq.trans (by kernel_rfl) (Bn (Qa N (H5 F) · d b e f c) (funext fun l=>funext fun g=>funext fun i=>(Aj ..).trans (V9 N F d b e f c N l g i)):_)
def BG (a:LA) (h:Am) (k:KF R):O R :=
 match a,h with
 | [(.imm d b 1 e f),(.int .u32 c)],[]=>(Gy N d b e f c (H5 k))
 | _,_=>none
theorem GG:Ao N 197 @BG:=by
 intro R Q a h k j;unfold BG;split;exact Ay (GF ..) (GF ..) ⟨ta N,Hj N,trivial⟩;exact A0
def nH:=Az (GG N)
def nI:=Cj (GG N)
def Ux (N:Nat) (r0:Nat→LA→O R) (d:LA) (b:Nat) (e f:Bool) (c:Int) (k0:Nat→Int→Int→Int→LA→O R) (i:Nat) (m o g:Int) (l:LA):O R :=
 (cond (decide (g<o)) (cond (Ac g b) (An .u32 (d.drop ((g.toNat)*1)) fun p=>(cond (decide (c<0)) none (cond (Ac g i) (cond ((Nat.beq 1 1)&&((Nat.ble ((0+((g.toNat)*1))+1) (l.length))&&(!false))) (k0 i (Int.fdiv (To .u64 m (wrap .u64 ((wrap .u64 p)*2 ^ (min (c.toNat) 64)))) (2 ^ 32)) o (wrap .i64 (g+1)) (l.set (0+((g.toNat)*1)) (.int .u32 (wrap .u32 (To .u64 m (wrap .u64 ((wrap .u64 p)*2 ^ (min (c.toNat) 64)))))))) none) none))) none) (cond (Ac ((b:Nat):Int) i) (cond ((Nat.beq 1 1)&&((Nat.ble ((0+(b*1))+1) (l.length))&&(!false))) (r0 i (l.set (0+(b*1)) (.int .u32 (wrap .u32 m)))) none) none))
def J4 (r0:Nat→LA→O R) (d:LA) (b:Nat) (e f:Bool) (c:Int):Nat→Nat→Int→Int→Int→LA→O R
 | 0,_,_,_,_,_=>none
 | n+1,i,m,o,g,l=>(Ux N r0 d b e f c (J4 r0 d b e f c n) i m o g l)
def KJ (N:Nat) (r0:Nat→LA→O R) (q0:Nat→Int→Int→Int→LA→O R) (d:LA) (b:Nat) (e f:Bool) (c:Int):O R :=
 (cond ((decide (0≤(wrap .i64 (((b:Nat):Int)+1))))&&((decide ((wrap .i64 (((b:Nat):Int)+1))≤(wrap .i64 (((b:Nat):Int)+1))))&&((decide ((wrap .i64 (((b:Nat):Int)+1))≤140737488355328))&&(decide (((wrap .i64 (((b:Nat):Int)+1))*((4:Nat):Int))≤140737488355328))))) (q0 ((wrap .i64 (((b:Nat):Int)+1)).toNat) 0 ((b:Nat):Int) 0 (List.replicate ((wrap .i64 (((b:Nat):Int)+1)).toNat) (.int .u32 0))) none)
def Tb:=(Af (fun (N:Nat) (d:LA) (b:Nat) (e f:Bool) (c:Int) (r0:Nat→LA→O R)=>(KJ N r0 (fun i m o g l=>(J4 N r0 d b e f c N i m o g l)) d b e f c))).1
theorem dx (d b e f c r0):(@Tb R N d b e f c r0)=(KJ N r0 (fun i m o g l=>(J4 N r0 d b e f c N i m o g l)) d b e f c):=by rw[Tb,(Af _).2]
def kN:Hints:={ H:=(hS hL (hS hL (hS hL (hS (hS hL (hS (hP [0,1,5,6,13,14,15] hL) hL)) hL)))),nils:=[(4,1)],modes:=[(2,1)] }
def Amw (F:KF R):=Ja Tryz.f202 kN [] [] N F
def Rp (F:KF R):Nat→LA→O R:=(fun q r=>F (.own 300000 0 q) (hq [(bQ 1 r)]))
def Amx (d:LA) (b:Nat) (e f:Bool) (c:Int) (i:Nat) (m o g:Int) (l:LA):St:=⟨[(0,(.imm d b 1 e f)),(1,(iv c)),(5,(.own 300000 0 i)),(6,(.int .u64 m)),(13,(.imm d b 1 e f)),(14,(iv o)),(15,(iv g))],(hq [(bQ 1 l)])⟩
def Amy (F:KF R):=Amw N F [1,1,1,0,1,0] []
theorem PP (F:KF R) (d:LA) (b:Nat) (e f:Bool) (c:Int):∀ (n i:Nat) (m o g:Int) (l:LA),Ap (Amy N F) n (Amx d b e f c i m o g l)=(J4 N (Rp F) d b e f c n i m o g l)
 | 0,_,_,_,_,_=>by kernel_rfl
 | n+1,i,m,o,g,l=>Eq.trans (by kernel_rfl) (Bn (Ux N (Rp F) d b e f c · i m o g l) (funext fun i=>funext fun m=>funext fun o=>funext fun g=>funext fun l=>(PP F d b e f c n i m o g l)):_)
theorem kO (d:LA) (b:Nat) (e f:Bool) (c:Int) (F:KF R):Cm [] kN N 202 [(.imm d b 1 e f),(iv c)] [] F=(Tb N d b e f c (Rp F)):=by
 rw[dx]
 exact Eq.trans (by kernel_rfl) (Bn (KJ N (Rp F) · d b e f c) (funext fun i=>funext fun m=>funext fun o=>funext fun g=>funext fun l=>(Aj ..).trans (PP N F d b e f c N i m o g l)):_)
def dy (a:LA) (h:Am) (k:KF R):O R :=
 match a,h with
 | [(.imm d b 1 e f),(.int .i64 c)],[]=>(Tb N d b e f c (Rp k))
 | _,_=>none
theorem kP:Ao N 202 @dy:=by
 intro R Q a h k j;unfold dy;split;exact Ay (kO ..) (kO ..) trivial;exact A0
def Amz:=Az (kP N)
def Am0:=Cj (kP N)
def Qb (N:Nat) (r0:Int→LA→O R) (c d:Nat) (e m:Int) (f:LA) (b:Nat) (g i:Bool) (k4:Int→Int→Int→LA→O R) (v w q:Int) (t:LA):O R :=
 (cond (decide (q<w)) (cond (Ac q b) (An .u32 (f.drop ((q.toNat)*1)) fun aa=>(cond (Ac q d) (An .u32 (t.drop (c+((q.toNat)*1))) fun ab=>(cond (Ac q d) (cond ((Nat.beq 1 1)&&((Nat.ble ((c+((q.toNat)*1))+1) (t.length))&&(!false))) (k4 (Int.fdiv (wrap .u64 (v+(wrap .u64 ((wrap .u64 ab)+(wrap .u64 aa))))) (2 ^ 32)) w (wrap .i64 (q+1)) (t.set (c+((q.toNat)*1)) (.int .u32 (wrap .u32 (wrap .u64 (v+(wrap .u64 ((wrap .u64 ab)+(wrap .u64 aa))))))))) none) none)) none)) none) (cond (Ac e d) (An .u32 (t.drop (c+((e.toNat)*1))) fun ai=>(cond (Ac e d) (cond ((Nat.beq 1 1)&&((Nat.ble ((c+((e.toNat)*1))+1) (t.length))&&(!false))) (r0 (wrap .u32 (wrap .u64 (m - 1))) (t.set (c+((e.toNat)*1)) (.int .u32 (wrap .u32 (ai+(wrap .u32 v)))))) none) none)) none))
def I4 (r0:Int→LA→O R) (c d:Nat) (e m:Int) (f:LA) (b:Nat) (g i:Bool):Nat→Int→Int→Int→LA→O R
 | 0,_,_,_,_=>none
 | n+1,v,w,q,t=>(Qb N r0 c d e m f b g i (I4 r0 c d e m f b g i n) v w q t)
def Kv (N:Nat) (r0:Int→LA→O R) (c d:Nat) (f:LA) (b:Nat) (g i:Bool) (e m:Int) (k3:Int→Int→Int→LA→O R) (q4:Int→Int→Int→LA→O R) (u x r:Int) (s:LA):O R :=
 (cond (decide (r<x)) (cond (Ac r b) (An .u32 (f.drop ((r.toNat)*1)) fun y=>(cond (Ac r d) (An .u32 (s.drop (c+((r.toNat)*1))) fun ac=>(cond (Ac r d) (cond ((Nat.beq 1 1)&&((Nat.ble ((c+((r.toNat)*1))+1) (s.length))&&(!false))) (k3 (wrap .u64 ((Int.fdiv (wrap .u64 ((wrap .u64 (m*(wrap .u64 y)))+u)) (2 ^ 32))+(Int.fdiv (wrap .u64 ((wrap .u64 ac) - (wrap .u64 (wrap .u32 (wrap .u64 ((wrap .u64 (m*(wrap .u64 y)))+u)))))) (2 ^ 63)))) x (wrap .i64 (r+1)) (s.set (c+((r.toNat)*1)) (.int .u32 (wrap .u32 (wrap .u64 ((wrap .u64 ac) - (wrap .u64 (wrap .u32 (wrap .u64 ((wrap .u64 (m*(wrap .u64 y)))+u)))))))))) none) none)) none)) none) (cond (Ac e d) (An .u32 (s.drop (c+((e.toNat)*1))) fun z=>(cond (Ac e d) (cond ((Nat.beq 1 1)&&((Nat.ble ((c+((e.toNat)*1))+1) (s.length))&&(!false))) (cond ((Int.fdiv (wrap .u64 ((wrap .u64 z) - u)) (2 ^ 63))==0) (r0 (wrap .u32 m) (s.set (c+((e.toNat)*1)) (.int .u32 (wrap .u32 (wrap .u64 ((wrap .u64 z) - u)))))) (q4 0 ((b:Nat):Int) 0 (s.set (c+((e.toNat)*1)) (.int .u32 (wrap .u32 (wrap .u64 ((wrap .u64 z) - u))))))) none) none)) none))
def Gz (r0:Int→LA→O R) (c d:Nat) (f:LA) (b:Nat) (g i:Bool) (e m:Int):Nat→Int→Int→Int→LA→O R
 | 0,_,_,_,_=>none
 | n+1,u,x,r,s=>(Kv N r0 c d f b g i e m (Gz r0 c d f b g i e m n) (fun v w q t=>(I4 N r0 c d e m f b g i N v w q t)) u x r s)
def W8 (N:Nat) (r0:Int→LA→O R) (c d:Nat) (f:LA) (b:Nat) (g i:Bool) (e:Int) (l:LA) (q3:Int→Int→Int→LA→O R) (m:Int):O R :=
 (q3 0 ((b:Nat):Int) 0 l)
def Fl (r0:Int→LA→O R) (c d:Nat) (f:LA) (b:Nat) (g i:Bool) (e:Int) (l:LA) (m:Int):O R:=(W8 N r0 c d f b g i e l (fun u x r s=>(Gz N r0 c d f b g i e m N u x r s)) m)
def W9 (N:Nat) (k0:Int→Int→Int→O R) (r0:Int→LA→O R) (c d:Nat) (f:LA) (b:Nat) (g i:Bool) (e o p:Int) (l:LA) (q2:Int→O R):O R :=
 (cond (Ac (wrap .i64 (e - 1)) b) (An .u32 (f.drop (((wrap .i64 (e - 1)).toNat)*1)) fun ad=>(cond ((Int.fdiv (wrap .u64 (p+(wrap .u64 ad))) (2 ^ 32)) != 0) (q2 (wrap .u64 (o - 1))) (k0 e (wrap .u64 (o - 1)) (wrap .u64 (p+(wrap .u64 ad)))))) none)
def Ne (k0:Int→Int→Int→O R) (r0:Int→LA→O R) (c d:Nat) (f:LA) (b:Nat) (g i:Bool) (e o p:Int) (l:LA):O R:=(W9 N k0 r0 c d f b g i e o p l (fun m=>(Fl N r0 c d f b g i e l m)))
def Xa (N:Nat) (r0:Int→LA→O R) (c d:Nat) (f:LA) (b:Nat) (g i:Bool) (l:LA) (k0:Int→Int→Int→O R) (q1:O R) (q2:Int→O R) (e o p:Int):O R :=
 (cond (((Int.fdiv o (2 ^ 32)) != 0)==false) (cond (Ac (wrap .i64 (e - 2)) b) (An .u32 (f.drop (((wrap .i64 (e - 2)).toNat)*1)) fun aj=>(cond (Ac (wrap .i64 (e - 2)) d) (An .u32 (l.drop (c+(((wrap .i64 (e - 2)).toNat)*1))) fun ak=>(cond (cond false true (decide ((wrap .u64 (o*(wrap .u64 aj)))>(To .u64 (wrap .u64 (p*2 ^ 32)) (wrap .u64 ak))))) q1 (q2 o))) none)) none) q1)
def Fm (r0:Int→LA→O R) (c d:Nat) (f:LA) (b:Nat) (g i:Bool) (l:LA):Nat→Int→Int→Int→O R
 | 0,_,_,_=>none
 | n+1,e,o,p=>(Xa N r0 c d f b g i l (Fm r0 c d f b g i l n) (Ne N (Fm r0 c d f b g i l n) r0 c d f b g i e o p l) (fun m=>(Fl N r0 c d f b g i e l m)) e o p)
def X3 (N:Nat) (r0:Int→LA→O R) (q0:Int→Int→Int→O R) (c d:Nat) (f:LA) (b:Nat) (g i:Bool) (l:LA):O R :=
 (cond (Ac ((b:Nat):Int) d) (An .u32 (l.drop (c+(b*1))) fun ae=>(cond (Ac (wrap .i64 (((b:Nat):Int) - 1)) d) (An .u32 (l.drop (c+(((wrap .i64 (((b:Nat):Int) - 1)).toNat)*1))) fun af=>(cond (Ac (wrap .i64 (((b:Nat):Int) - 1)) b) (An .u32 (f.drop (((wrap .i64 (((b:Nat):Int) - 1)).toNat)*1)) fun ag=>(cond ((wrap .u64 ag)==0) none (cond (Ac (wrap .i64 (((b:Nat):Int) - 1)) b) (An .u32 (f.drop (((wrap .i64 (((b:Nat):Int) - 1)).toNat)*1)) fun ah=>(cond ((wrap .u64 ah)==0) none (q0 ((b:Nat):Int) (wrap .u64 (Int.tdiv (To .u64 (wrap .u64 ((wrap .u64 ae)*2 ^ 32)) (wrap .u64 af)) (wrap .u64 ag))) (Int.tmod (To .u64 (wrap .u64 ((wrap .u64 ae)*2 ^ 32)) (wrap .u64 af)) (wrap .u64 ah))))) none))) none)) none)) none)
def L0:=(Af (fun (N:Nat) (c d:Nat) (f:LA) (b:Nat) (g i:Bool) (l:LA) (r0:Int→LA→O R)=>(X3 N r0 (fun e o p=>(Fm N r0 c d f b g i l N e o p)) c d f b g i l))).1
theorem PQ (c d f b g i l r0):(@L0 R N c d f b g i l r0)=(X3 N r0 (fun e o p=>(Fm N r0 c d f b g i l N e o p)) c d f b g i l):=by rw[L0,(Af _).2]
def YE:Hints:={ H:=(hS hL (hS hL (hS hL (hS hL (hJ [0,1,5,7] (hS (hP [0,1,5,7,8] (hJ [0,1,5,7,8] hL hL)) hL) (hS hL (hS (hS hL (hS (hP [0,1,5,7,9,84,85,86] hL) hL)) (hS hL (hS hL (hS hL (hS hL (hS (hS hL (hS (hP [0,5,7,9,134,135,136] hL) hL)) hL)))))))))))) }
def Nf (F:KF R):=Ja Tryz.f203 YE [] [100000] N F
def B0 (F:KF R):Int→LA→O R:=(fun al am=>F (.int .u32 al) [(100000,(bQ 1 am))])
def Aac (c d:Nat) (e m:Int) (f:LA) (b:Nat) (g i:Bool) (v w q:Int) (t:LA):St:=⟨[(0,(.own 100000 c d)),(5,(iv e)),(7,(.int .u64 m)),(9,(.int .u64 v)),(134,(.imm f b 1 g i)),(135,(iv w)),(136,(iv q))],[(100000,(bQ 1 t))]⟩
def Aad (F:KF R):=Nf N F [1,1,1,1,1,1,1,1,1,1,1,0,1,0] []
def Aae (c d:Nat) (f:LA) (b:Nat) (g i:Bool) (e m u x r:Int) (s:LA):St:=⟨[(0,(.own 100000 c d)),(1,(.imm f b 1 g i)),(5,(iv e)),(7,(.int .u64 m)),(9,(.int .u64 u)),(84,(.imm f b 1 g i)),(85,(iv x)),(86,(iv r))],[(100000,(bQ 1 s))]⟩
def Aaf (F:KF R):=Nf N F [1,1,1,1,1,1,0,1,0] []
def Aag (c d:Nat) (f:LA) (b:Nat) (g i:Bool) (e:Int) (l:LA) (m:Int):St:=⟨[(0,(.own 100000 c d)),(1,(.imm f b 1 g i)),(5,(iv e)),(7,(.int .u64 m))],[(100000,(bQ 1 l))]⟩
def Aah (F:KF R):=Nf N F [1,1,1,1,1] []
def Aai (c d:Nat) (f:LA) (b:Nat) (g i:Bool) (e o p:Int) (l:LA):St:=⟨[(0,(.own 100000 c d)),(1,(.imm f b 1 g i)),(5,(iv e)),(7,(.int .u64 o)),(8,(.int .u64 p))],[(100000,(bQ 1 l))]⟩
def Aaj (F:KF R) (Q0:St→O R):=Nf N F [1,1,1,1,0,0,0,1] [Q0]
def AH (c d:Nat) (f:LA) (b:Nat) (g i:Bool) (l:LA) (e o p:Int):St:=⟨[(0,(.own 100000 c d)),(1,(.imm f b 1 g i)),(5,(iv e)),(7,(.int .u64 o)),(8,(.int .u64 p))],[(100000,(bQ 1 l))]⟩
def YF (F:KF R):=Nf N F [1,1,1,1,0,0] []
theorem GH (F:KF R) (c d:Nat) (e m:Int) (f:LA) (b:Nat) (g i:Bool):∀ (n:Nat) (v w q:Int) (t:LA),Ap (Aad N F) n (Aac c d e m f b g i v w q t)=(I4 N (B0 F) c d e m f b g i n v w q t)
 | 0,_,_,_,_=>by kernel_rfl
 | n+1,v,w,q,t=>Eq.trans (by kernel_rfl) (Bn (Qb N (B0 F) c d e m f b g i · v w q t) (funext fun v=>funext fun w=>funext fun q=>funext fun t=>(GH F c d e m f b g i n v w q t)):_)
theorem GI (F:KF R) (c d:Nat) (f:LA) (b:Nat) (g i:Bool) (e m:Int):∀ (n:Nat) (u x r:Int) (s:LA),Ap (Aaf N F) n (Aae c d f b g i e m u x r s)=(Gz N (B0 F) c d f b g i e m n u x r s)
 | 0,_,_,_,_=>by kernel_rfl
 | n+1,u,x,r,s=>Eq.trans (by kernel_rfl) (cR (Kv N (B0 F) c d f b g i e m · · u x r s) (funext fun u=>funext fun x=>funext fun r=>funext fun s=>(GI F c d f b g i e m n u x r s)) (funext fun v=>funext fun w=>funext fun q=>funext fun t=>(Aj ..).trans (GH N F c d e m f b g i N v w q t)):_)
theorem GJ (F:KF R) (c d:Nat) (f:LA) (b:Nat) (g i:Bool) (e:Int) (l:LA):∀ (m:Int),A8 (Aah N F) (Aag c d f b g i e l m)=(Fl N (B0 F) c d f b g i e l m):=by
 intro m
 exact Eq.trans (by kernel_rfl) (Bn (W8 N (B0 F) c d f b g i e l · m) (funext fun u=>funext fun x=>funext fun r=>funext fun s=>(Aj ..).trans (GI N F c d f b g i e m N u x r s)):_)
theorem nK (Q0:St→O R) (F:KF R) (c d:Nat) (f:LA) (b:Nat) (g i:Bool) (e o p:Int) (l:LA):A8 (Aaj N F Q0) (Aai c d f b g i e o p l)=(Ne N (fun e o p=>Q0 (AH c d f b g i l e o p)) (B0 F) c d f b g i e o p l):=by
 exact Eq.trans (by kernel_rfl) (Bn (W9 N (fun e o p=>Q0 (AH c d f b g i l e o p)) (B0 F) c d f b g i e o p l ·) (funext fun m=>(Ar ..).trans (GJ N F c d f b g i e l m)):_)
theorem GK (F:KF R) (c d:Nat) (f:LA) (b:Nat) (g i:Bool) (l:LA):∀ (n:Nat) (e o p:Int),Ap (YF N F) n (AH c d f b g i l e o p)=(Fm N (B0 F) c d f b g i l n e o p)
 | 0,_,_,_=>by kernel_rfl
 | n+1,e,o,p=>have e0:=(funext fun e=>funext fun o=>funext fun p=>(GK F c d f b g i l n e o p))
  Eq.trans (by kernel_rfl) (Bf8 (Xa N (B0 F) c d f b g i l · · · e o p) e0 ((Ar ..).trans ((nK N (Ap (YF N F) n) F c d f b g i e o p l).trans (Bn (Ne N · (B0 F) c d f b g i e o p l) e0))) (funext fun m=>(Ar ..).trans (GJ N F c d f b g i e l m)):_)
theorem YG (c d:Nat) (f:LA) (b:Nat) (g i:Bool) (l:LA) (F:KF R):Cm [] YE N 203 [(.own 100000 c d),(.imm f b 1 g i)] [(100000,(bQ 1 l))] F=(L0 N c d f b g i l (B0 F)):=by
 rw[PQ]
 exact Eq.trans (by kernel_rfl) (Bn (X3 N (B0 F) · c d f b g i l) (funext fun e=>funext fun o=>funext fun p=>(Aj ..).trans (GK N F c d f b g i l N e o p)):_)
def PR (a:LA) (h:Am) (k:KF R):O R :=
 match a,h with
 | [(.own 100000 c d),(.imm f b 1 g i)],[(100000,⟨false,false,true,false,1,l,false⟩)]=>(L0 N c d f b g i l (B0 k))
 | _,_=>none
theorem YH:Ao N 203 @PR:=by
 intro R Q a h k j;unfold PR;split;exact Ay (YG ..) (YG ..) trivial;exact A0
def Aak:=Az (YH N)
def Aal:=Cj (YH N)
def Je (r0:Nat→Bool→LA→O R) (d:Bool) (k0:LA→Nat→Int→Nat→LA→Nat→Int→Int→LA→O R) (l:LA) (i:Nat) (e:Int) (g:Nat) (m:LA) (o:Nat) (p b:Int) (f:LA):O R :=
 (cond (decide (b<p)) (cond (Ac b o) (An .u32 (m.drop ((b.toNat)*1)) fun u=>(cond (decide ((wrap .i64 (b+1))<((i:Nat):Int))) (cond (Ac (wrap .i64 (b+1)) i) (An .u32 (l.drop (((wrap .i64 (b+1)).toNat)*1)) fun w=>(cond (decide (e<0)) none (cond (Ac b g) (cond ((Nat.beq 1 1)&&((Nat.ble ((0+((b.toNat)*1))+1) (f.length))&&(!false))) (k0 l i e g m o p (wrap .i64 (b+1)) (f.set (0+((b.toNat)*1)) (.int .u32 (wrap .u32 (Int.fdiv (To .u64 (wrap .u64 u) (wrap .u64 ((wrap .u64 w)*2 ^ 32))) (2 ^ (min (e.toNat) 64))))))) none) none))) none) (cond (decide (e<0)) none (cond (Ac b g) (cond ((Nat.beq 1 1)&&((Nat.ble ((0+((b.toNat)*1))+1) (f.length))&&(!false))) (k0 l i e g m o p (wrap .i64 (b+1)) (f.set (0+((b.toNat)*1)) (.int .u32 (wrap .u32 (Int.fdiv (wrap .u64 u) (2 ^ (min (e.toNat) 64))))))) none) none)))) none) (W2 N g f (fun x=>(r0 x true f))))
def D3 (r0:Nat→Bool→LA→O R) (d:Bool):Nat→LA→Nat→Int→Nat→LA→Nat→Int→Int→LA→O R
 | 0,_,_,_,_,_,_,_,_,_=>none
 | n+1,l,i,e,g,m,o,p,b,f=>(Je N r0 d (D3 r0 d n) l i e g m o p b f)
def Oz (r0:Nat→Bool→LA→O R) (q0:LA→Nat→Int→Nat→LA→Nat→Int→Int→LA→O R) (r:LA) (s:Nat) (t d:Bool) (c:Int):O R :=
 (cond (decide (c<0)) (r0 0 false []) (Cq N r s t d (fun v q=>(cond (decide ((wrap .i64 (Int.tdiv c 32))≥((q:Nat):Int))) (r0 0 true []) (cond ((decide (0≤(wrap .i64 (Int.tdiv c 32))))&&((decide ((wrap .i64 (Int.tdiv c 32))≤((q:Nat):Int)))&&((decide (((q:Nat):Int)≤((q:Nat):Int)))&&(decide (((q:Nat):Int)≤((q:Nat):Int)))))) (cond ((decide (0≤(((q - ((wrap .i64 (Int.tdiv c 32)).toNat)):Nat):Int)))&&((decide ((((q - ((wrap .i64 (Int.tdiv c 32)).toNat)):Nat):Int)≤(((q - ((wrap .i64 (Int.tdiv c 32)).toNat)):Nat):Int)))&&((decide ((((q - ((wrap .i64 (Int.tdiv c 32)).toNat)):Nat):Int)≤140737488355328))&&(decide (((((q - ((wrap .i64 (Int.tdiv c 32)).toNat)):Nat):Int)*((4:Nat):Int))≤140737488355328))))) (q0 ((v.drop (((wrap .i64 (Int.tdiv c 32)).toNat)*1)).take ((q - ((wrap .i64 (Int.tdiv c 32)).toNat))*1)) (q - ((wrap .i64 (Int.tdiv c 32)).toNat)) (Int.tmod c 32) (q - ((wrap .i64 (Int.tdiv c 32)).toNat)) ((v.drop (((wrap .i64 (Int.tdiv c 32)).toNat)*1)).take ((q - ((wrap .i64 (Int.tdiv c 32)).toNat))*1)) (q - ((wrap .i64 (Int.tdiv c 32)).toNat)) (((q - ((wrap .i64 (Int.tdiv c 32)).toNat)):Nat):Int) 0 (List.replicate (q - ((wrap .i64 (Int.tdiv c 32)).toNat)) (.int .u32 0))) none) none)))))
def Nq:=(Af (fun (N:Nat) (r:LA) (s:Nat) (t d:Bool) (c:Int) (r0:Nat→Bool→LA→O R)=>(Oz N r0 (fun l i e g m o p b f=>(D3 N r0 d N l i e g m o p b f)) r s t d c))).1
theorem Uy (r s t d c r0):(@Nq R N r s t d c r0)=(Oz N r0 (fun l i e g m o p b f=>(D3 N r0 d N l i e g m o p b f)) r s t d c):=by rw[Nq,(Af _).2]
def PS:Hints:={ H:=(hS hL (hS hL (hS hL (hS hL (hS hL (hS hL (hS hL (hS (hS hL (hS (hP [0,6,7,29,30,31] hL) hL)) hL)))))))),nils:=[(4,1)],modes:=[(2,1),(0,0)] }
def YI:Ef:=[(171,Gn N)]
def uD (F:KF R):=Ja Tryz.f204 PS (YI N) [] N F
def Kw (F:KF R):Nat→Bool→LA→O R:=(fun y z aa=>F (.tup [(.own 300000 0 y),(.bool z)]) (hq [(bQ 1 aa)]))
def uE (d:Bool) (l:LA) (i:Nat) (e:Int) (g:Nat) (m:LA) (o:Nat) (p b:Int) (f:LA):St:=⟨[(0,(.imm l i 1 false d)),(6,(iv e)),(7,(.own 300000 0 g)),(29,(.imm m o 1 false d)),(30,(iv p)),(31,(iv b))],(hq [(bQ 1 f)])⟩
def uF (F:KF R):=uD N F [1,1,1,1,1,1,1,0,1,0] []
theorem BH (F:KF R) (d:Bool):∀ (n:Nat) (l:LA) (i:Nat) (e:Int) (g:Nat) (m:LA) (o:Nat) (p b:Int) (f:LA),Ap (uF N F) n (uE d l i e g m o p b f)=(D3 N (Kw F) d n l i e g m o p b f)
 | 0,_,_,_,_,_,_,_,_,_=>by kernel_rfl
 | n+1,l,i,e,g,m,o,p,b,f=>Eq.trans (by kernel_rfl) (Bn (Je N (Kw F) d · l i e g m o p b f) (funext fun l=>funext fun i=>funext fun e=>funext fun g=>funext fun m=>funext fun o=>funext fun p=>funext fun b=>funext fun f=>(BH F d n l i e g m o p b f)):_)
theorem PT (r:LA) (s:Nat) (t d:Bool) (c:Int) (F:KF R):Cm (YI N) PS N 204 [(.imm r s 1 t d),(iv c)] [] F=(Nq N r s t d c (Kw F)):=by
 rw[Uy]
 exact Eq.trans (by kernel_rfl) (Bn (Oz N (Kw F) · r s t d c) (funext fun l=>funext fun i=>funext fun e=>funext fun g=>funext fun m=>funext fun o=>funext fun p=>funext fun b=>funext fun f=>(Aj ..).trans (BH N F d N l i e g m o p b f)):_)
def KK (a:LA) (h:Am) (k:KF R):O R :=
 match a,h with
 | [(.imm r s 1 t d),(.int .i64 c)],[]=>(Nq N r s t d c (Kw k))
 | _,_=>none
theorem PU:Ao N 204 @KK:=by
 intro R Q a h k j;unfold KK;split;exact Ay (PT ..) (PT ..) ⟨Gp N,trivial⟩;exact A0
def uG:=Az (PU N)
def uH:=Cj (PU N)
def Oe (r0:Nat→Nat→LA→LA→O R) (g:Int) (b c:Nat) (m:LA) (k0:Nat→Int→Int→Int→Int→LA→LA→O R) (l:Nat) (f e o d:Int) (i p:LA):O R :=
 (cond (decide (d<o)) (cond ((decide (0≤(wrap .i64 ((wrap .i64 (e - 1)) - d))))&&((decide ((wrap .i64 ((wrap .i64 (e - 1)) - d))≤(wrap .i64 ((wrap .i64 ((wrap .i64 ((wrap .i64 (e - 1)) - d))+f))+1))))&&((decide ((wrap .i64 ((wrap .i64 ((wrap .i64 ((wrap .i64 (e - 1)) - d))+f))+1))≤((c:Nat):Int)))&&(decide (((c:Nat):Int)≤((c:Nat):Int)))))) (L0 N (0+(((wrap .i64 ((wrap .i64 (e - 1)) - d)).toNat)*1)) (((wrap .i64 ((wrap .i64 ((wrap .i64 ((wrap .i64 (e - 1)) - d))+f))+1)).toNat) - ((wrap .i64 ((wrap .i64 (e - 1)) - d)).toNat)) (m.take (b*1)) b false true p (fun y z=>(cond (Ac (wrap .i64 ((wrap .i64 (e - 1)) - d)) l) (cond ((Nat.beq 1 1)&&((Nat.ble ((0+(((wrap .i64 ((wrap .i64 (e - 1)) - d)).toNat)*1))+1) (i.length))&&(!false))) (k0 l f e o (wrap .i64 (d+1)) (i.set (0+(((wrap .i64 ((wrap .i64 (e - 1)) - d)).toNat)*1)) (.int .u32 y)) z) none) none))) none) (cond ((decide ((0:Int)≤(0:Int)))&&((decide (0≤f))&&((decide (f≤((c:Nat):Int)))&&(decide (((c:Nat):Int)≤((c:Nat):Int)))))) (Nq N (p.take ((f.toNat)*1)) (f.toNat) false true g (fun aa aj ab=>(W2 N l i (fun ac=>(r0 ac aa i ab))))) none))
def Ev (r0:Nat→Nat→LA→LA→O R) (g:Int) (b c:Nat) (m:LA):Nat→Nat→Int→Int→Int→Int→LA→LA→O R
 | 0,_,_,_,_,_,_,_=>none
 | n+1,l,f,e,o,d,i,p=>(Oe N r0 g b c m (Ev r0 g b c m n) l f e o d i p)
def Uz (r0:Nat→Nat→LA→LA→O R) (q0:Int→Nat→LA→Nat→Int→Int→Int→Int→LA→LA→O R) (r:LA) (s:Nat) (v t:Bool) (q:LA) (b:Nat) (w u:Bool):O R :=
 (cond (Ac (wrap .i64 (((b:Nat):Int) - 1)) b) (An .u32 (q.drop (((wrap .i64 (((b:Nat):Int) - 1)).toNat)*1)) fun ad=>(Ck N ad (fun g=>(Tb N q b false u g (fun x m=>(cond ((decide ((0:Int)≤(0:Int)))&&((decide (0≤((b:Nat):Int)))&&((decide (((b:Nat):Int)≤((x:Nat):Int)))&&(decide (((x:Nat):Int)≤((x:Nat):Int)))))) (Tb N r s false t g (fun c ae=>(cond ((decide (0≤(wrap .i64 (((c:Nat):Int) - ((b:Nat):Int)))))&&((decide ((wrap .i64 (((c:Nat):Int) - ((b:Nat):Int)))≤(wrap .i64 (((c:Nat):Int) - ((b:Nat):Int)))))&&((decide ((wrap .i64 (((c:Nat):Int) - ((b:Nat):Int)))≤140737488355328))&&(decide (((wrap .i64 (((c:Nat):Int) - ((b:Nat):Int)))*((4:Nat):Int))≤140737488355328))))) (q0 g c m ((wrap .i64 (((c:Nat):Int) - ((b:Nat):Int))).toNat) ((b:Nat):Int) (wrap .i64 (((c:Nat):Int) - ((b:Nat):Int))) (wrap .i64 (((c:Nat):Int) - ((b:Nat):Int))) 0 (List.replicate ((wrap .i64 (((c:Nat):Int) - ((b:Nat):Int))).toNat) (.int .u32 0)) ae) none))) none)))))) none)
def J5:=(Af (fun (N:Nat) (r:LA) (s:Nat) (v t:Bool) (q:LA) (b:Nat) (w u:Bool) (r0:Nat→Nat→LA→LA→O R)=>(Uz N r0 (fun g c m l f e o d i p=>(Ev N r0 g b c m N l f e o d i p)) r s v t q b w u))).1
theorem KL (r s v t q b w u r0):(@J5 R N r s v t q b w u r0)=(Uz N r0 (fun g c m l f e o d i p=>(Ev N r0 g b c m N l f e o d i p)) r s v t q b w u):=by rw[J5,(Af _).2]
def PV:Hints:={ H:=(hS hL (hS hL (hS hL (hS hL (hS hL (hS hL (hS hL (hS (hS hL (hS (hP [4,6,7,8,9,10,35,36] hL) hL)) hL)))))))),nils:=[(4,1),(5,1)],modes:=[(2,1),(2,1)] }
def YJ:Ef:=[(200,Oc N),(202,Amz N),(203,Aak N),(204,uG N),(171,t_ N)]
def uI (F:KF R):=Ja Tryz.f198 PV (YJ N) [] N F
def Kx (F:KF R):Nat→Nat→LA→LA→O R:=(fun af ag ah ai=>F (.tup [(.own 300000 0 af),(.own 300001 0 ag)]) (hq [(bQ 1 ah),(bQ 1 ai)]))
def uJ (g:Int) (b c:Nat) (m:LA) (l:Nat) (f e o d:Int) (i p:LA):St:=⟨[(4,(.own 300000 0 l)),(6,(iv f)),(7,(iv g)),(8,(.own 300001 0 b)),(9,(.own 300002 0 c)),(10,(iv e)),(35,(iv o)),(36,(iv d))],(hq [(bQ 1 i),(bQ 1 m),(bQ 1 p)])⟩
def uK (F:KF R):=uI N F [1,1,1,1,1,1,1,0,1,0] []
theorem BI (F:KF R) (g:Int) (b c:Nat) (m:LA):∀ (n l:Nat) (f e o d:Int) (i p:LA),Ap (uK N F) n (uJ g b c m l f e o d i p)=(Ev N (Kx F) g b c m n l f e o d i p)
 | 0,_,_,_,_,_,_,_=>by kernel_rfl
 | n+1,l,f,e,o,d,i,p=>Eq.trans (by kernel_rfl) (Bn (Oe N (Kx F) g b c m · l f e o d i p) (funext fun l=>funext fun f=>funext fun e=>funext fun o=>funext fun d=>funext fun i=>funext fun p=>(BI F g b c m n l f e o d i p)):_)
theorem PW (r:LA) (s:Nat) (v t:Bool) (q:LA) (b:Nat) (w u:Bool) (F:KF R):Cm (YJ N) PV N 198 [(.imm r s 1 v t),(.imm q b 1 w u)] [] F=(J5 N r s v t q b w u (Kx F)):=by
 rw[KL]
 exact Eq.trans (by kernel_rfl) (Bn (Uz N (Kx F) · r s v t q b w u) (funext fun g=>funext fun c=>funext fun m=>funext fun l=>funext fun f=>funext fun e=>funext fun o=>funext fun d=>funext fun i=>funext fun p=>(Aj ..).trans (BI N F g b c m N l f e o d i p)):_)
def KM (a:LA) (h:Am) (k:KF R):O R :=
 match a,h with
 | [(.imm r s 1 v t),(.imm q b 1 w u)],[]=>(J5 N r s v t q b w u (Kx k))
 | _,_=>none
theorem PX:Ao N 198 @KM:=by
 intro R Q a h k j;unfold KM;split;exact Ay (PW ..) (PW ..) ⟨Od N,Am0 N,Aal N,uH N,ta N,trivial⟩;exact A0
def uL:=Az (PX N)
def uM:=Cj (PX N)
def nL (d:LA) (e:Nat) (f b:Bool) (g:LA) (i:Nat) (l c:Bool) (r0:Nat→Nat→Bool→LA→LA→O R):O R :=
 (Cq N d e f b (fun o m=>(Cq N g i l c (fun p n=>(cond (((n:Nat):Int)==0) (r0 0 0 false [] []) (El N o m false b p n false c (fun s=>(cond (decide (s<0)) (C_ N o m false b (fun t u=>(r0 0 t true [] u))) (cond (decide (((m:Nat):Int)≤2)) (Sb N o m false b (fun r=>(Sb N p n false c (fun q=>(cond (q==0) none (Ce N (wrap .u64 (Int.tdiv r q)) (fun v w=>(cond (q==0) none (Ce N (Int.tmod r q) (fun x y=>(r0 v x true w y))))))))))) (cond (((n:Nat):Int)==1) (cond (Ac 0 n) (An .u32 p fun z=>(Gy N o m false b z (fun aa ab ac ad=>(r0 aa ab true ac ad)))) none) (J5 N o m false b p n false c (fun ae af ag ah=>(r0 ae af true ag ah)))))))))))))
def Fx:=(Af (@nL R)).1
theorem kQ:@Fx R=@nL R:=(Af _).2
def Atk:Hints:={ H:=hL,nils:=[(4,1),(5,1)],modes:=[(2,1),(2,1),(0,0)] }
def Ayj:Ef:=[(171,Uo N),(132,Ks N),(173,UM N),(181,mg N),(149,Hi N),(197,nH N),(198,uL N)]
def pq (F:KF R):Nat→Nat→Bool→LA→LA→O R:=(fun ai aj ak al am=>F (.tup [(.own 300000 0 ai),(.own 300001 0 aj),(.bool ak)]) (hq [(bQ 1 al),(bQ 1 am)]))
theorem pt (d:LA) (e:Nat) (f b:Bool) (g:LA) (i:Nat) (l c:Bool) (F:KF R):Cm (Ayj N) Atk N 175 [(.imm d e 1 f b),(.imm g i 1 l c)] [] F=(Fx N d e f b g i l c (pq F)):=by
 rw[kQ]
 kernel_rfl
def kR (a:LA) (h:Am) (k:KF R):O R :=
 match a,h with
 | [(.imm d e 1 f b),(.imm g i 1 l c)],[]=>(Fx N d e f b g i l c (pq k))
 | _,_=>none
theorem pu:Ao N 175 @kR:=by
 intro R Q a h k j;unfold kR;split;exact Ay (pt ..) (pt ..) ⟨Up N,Kt N,UN N,mh N,Hj N,nI N,uM N,trivial⟩;exact A0
def pw:=Az (pu N)
def pz:=Cj (pu N)
def GL (r0:Nat→Bool→LA→O R) (l:LA) (g:Nat) (d:Bool) (b:Nat) (m:LA) (e:Bool) (k0:Int→Int→Int→LA→O R) (i o c:Int) (f:LA):O R :=
 (cond (decide (c<o)) (cond (Ac c b) (An .u32 (m.drop ((c.toNat)*1)) fun v=>(cond (decide (c<((g:Nat):Int))) (cond (Ac c g) (An .u32 (l.drop ((c.toNat)*1)) fun w=>(cond (Ac c b) (cond ((Nat.beq 1 1)&&((Nat.ble ((0+((c.toNat)*1))+1) (f.length))&&(!false))) (k0 (Int.fdiv (wrap .u64 ((wrap .u64 ((wrap .u64 v) - i)) - (wrap .u64 w))) (2 ^ 63)) o (wrap .i64 (c+1)) (f.set (0+((c.toNat)*1)) (.int .u32 (wrap .u32 (wrap .u64 ((wrap .u64 ((wrap .u64 v) - i)) - (wrap .u64 w))))))) none) none)) none) (cond (Ac c b) (cond ((Nat.beq 1 1)&&((Nat.ble ((0+((c.toNat)*1))+1) (f.length))&&(!false))) (k0 (Int.fdiv (wrap .u64 ((wrap .u64 v) - i)) (2 ^ 63)) o (wrap .i64 (c+1)) (f.set (0+((c.toNat)*1)) (.int .u32 (wrap .u32 (wrap .u64 ((wrap .u64 v) - i)))))) none) none))) none) (W2 N b f (fun x=>(r0 x true f))))
def Tv (r0:Nat→Bool→LA→O R) (l:LA) (g:Nat) (d:Bool) (b:Nat) (m:LA) (e:Bool):Nat→Int→Int→Int→LA→O R
 | 0,_,_,_,_=>none
 | n+1,i,o,c,f=>(GL N r0 l g d b m e (Tv r0 l g d b m e n) i o c f)
def qA (r0:Nat→Bool→LA→O R) (q0:LA→Nat→Nat→LA→Int→Int→Int→LA→O R) (p:LA) (q:Nat) (r e:Bool) (s:LA) (t:Nat) (u d:Bool):O R :=
 (Cq N p q r e (fun m b=>(Cq N s t u d (fun l g=>(El N m b false e l g false d (fun y=>(cond (decide (y<0)) (r0 0 false []) (cond ((decide (0≤((b:Nat):Int)))&&((decide (((b:Nat):Int)≤((b:Nat):Int)))&&((decide (((b:Nat):Int)≤140737488355328))&&(decide ((((b:Nat):Int)*((4:Nat):Int))≤140737488355328))))) (q0 l g b m 0 ((b:Nat):Int) 0 (List.replicate b (.int .u32 0))) none))))))))
def UO:=(Af (fun (N:Nat) (p:LA) (q:Nat) (r e:Bool) (s:LA) (t:Nat) (u d:Bool) (r0:Nat→Bool→LA→O R)=>(qA N r0 (fun l g b m i o c f=>(Tv N r0 l g d b m e N i o c f)) p q r e s t u d))).1
theorem nM (p q r e s t u d r0):(@UO R N p q r e s t u d r0)=(qA N r0 (fun l g b m i o c f=>(Tv N r0 l g d b m e N i o c f)) p q r e s t u d):=by rw[UO,(Af _).2]
def Aph:Hints:={ H:=(hS hL (hS hL (hS hL (hS hL (hS hL (hS (hS hL (hS (hP [1,6,7,22,23,24] hL) hL)) hL)))))),nils:=[(4,1)],modes:=[(2,1),(0,0)] }
def Ayk:Ef:=[(171,Gn N),(132,Ks N)]
def A7u (F:KF R):=Ja Tryz.f177 Aph (Ayk N) [] N F
def PY (F:KF R):Nat→Bool→LA→O R:=(fun z aa ab=>F (.tup [(.own 300000 0 z),(.bool aa)]) (hq [(bQ 1 ab)]))
def A7v (l:LA) (g:Nat) (d:Bool) (b:Nat) (m:LA) (e:Bool) (i o c:Int) (f:LA):St:=⟨[(1,(.imm l g 1 false d)),(6,(.own 300000 0 b)),(7,(.int .u64 i)),(22,(.imm m b 1 false e)),(23,(iv o)),(24,(iv c))],(hq [(bQ 1 f)])⟩
def A7w (F:KF R):=A7u N F [1,1,1,1,1,0,1,0] []
theorem qB (F:KF R) (l:LA) (g:Nat) (d:Bool) (b:Nat) (m:LA) (e:Bool):∀ (n:Nat) (i o c:Int) (f:LA),Ap (A7w N F) n (A7v l g d b m e i o c f)=(Tv N (PY F) l g d b m e n i o c f)
 | 0,_,_,_,_=>by kernel_rfl
 | n+1,i,o,c,f=>Eq.trans (by kernel_rfl) (Bn (GL N (PY F) l g d b m e · i o c f) (funext fun i=>funext fun o=>funext fun c=>funext fun f=>(qB F l g d b m e n i o c f)):_)
theorem Api (p:LA) (q:Nat) (r e:Bool) (s:LA) (t:Nat) (u d:Bool) (F:KF R):Cm (Ayk N) Aph N 177 [(.imm p q 1 r e),(.imm s t 1 u d)] [] F=(UO N p q r e s t u d (PY F)):=by
 rw[nM]
 exact Eq.trans (by kernel_rfl) (Bn (qA N (PY F) · p q r e s t u d) (funext fun l=>funext fun g=>funext fun b=>funext fun m=>funext fun i=>funext fun o=>funext fun c=>funext fun f=>(Aj ..).trans (qB N F l g d b m e N i o c f)):_)
def Af3 (a:LA) (h:Am) (k:KF R):O R :=
 match a,h with
 | [(.imm p q 1 r e),(.imm s t 1 u d)],[]=>(UO N p q r e s t u d (PY k))
 | _,_=>none
theorem Apj:Ao N 177 @Af3:=by
 intro R Q a h k j;unfold Af3;split;exact Ay (Api ..) (Api ..) ⟨Gp N,Kt N,trivial⟩;exact A0
def Apk:=Az (Apj N)
def Apl:=Cj (Apj N)
def dz (b:LA) (c:Nat) (m d:Bool) (e:Int) (f:LA) (g:Nat) (n i:Bool) (l:Int) (r0:Nat→LA→O R):O R :=
 (Ce N e (fun o s=>(NE N b c false d (s.take (o*1)) o false true (fun p t=>(Ce N l (fun q u=>(NE N f g false i (u.take (q*1)) q false true (fun r v=>(UO N (t.take (p*1)) p false true (v.take (r*1)) r false true (fun w aa x=>(r0 w x)))))))))))
def G0:=(Af (@dz R)).1
theorem eA:@G0 R=@dz R:=(Af _).2
def Am1:Hints:={ H:=hL,nils:=[(8,1)],modes:=[(2,1)] }
def Atl:Ef:=[(149,Hi N),(135,h_ N),(177,Apk N)]
def kS (F:KF R):Nat→LA→O R:=(fun y z=>F (.own 300000 0 y) (hq [(bQ 1 z)]))
theorem kT (b:LA) (c:Nat) (m d:Bool) (e:Int) (f:LA) (g:Nat) (n i:Bool) (l:Int) (F:KF R):Cm (Atl N) Am1 N 196 [(.imm b c 1 m d),(.int .u64 e),(.imm f g 1 n i),(.int .u64 l)] [] F=(G0 N b c m d e f g n i l (kS F)):=by
 rw[eA]
 kernel_rfl
def eB (a:LA) (h:Am) (k:KF R):O R :=
 match a,h with
 | [(.imm b c 1 m d),(.int .u64 e),(.imm f g 1 n i),(.int .u64 l)],[]=>(G0 N b c m d e f g n i l (kS k))
 | _,_=>none
theorem kU:Ao N 196 @eB:=by
 intro R Q a h k j;unfold eB;split;exact Ay (kT ..) (kT ..) ⟨Hj N,iA N,Apl N,trivial⟩;exact A0
def Am2:=Az (kU N)
def Am3:=Cj (kU N)
end
end Gx
