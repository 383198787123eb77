/- A part of the proof: what it holds is said by each theorem. -/
import Derived.Test.YtlkhmflligkbkaaGreatP4
set_option linter.unusedVariables false
set_option linter.defProp false
set_option linter.unusedSimpArgs false
namespace Gx.Cf
open Go Go.Proofs
section
variable {R:Type}
def zJ (h:Int):List LineD→Nat→List Int
 | [],_=>[]
 | x::r,j=>cond (x.away.l.contains h) (zJ h r (j+1)) ((j:Int)::zJ h r (j+1))
theorem kE (h:Int):∀ (l:List LineD) (j:Nat),(zJ h l j).length≤l.length
 | [],_=>by simp[zJ]
 | x::r,j=>by rw[zJ];have:=kE h r (j+1);cases x.away.l.contains h<;>simp<;>omega
theorem A7p (h:Int):∀ (l:List LineD) (j:Nat) (a:Int),a ∈ zJ h l j→(j:Int)≤a∧a<j+l.length
 | [],_,_,k=>by simp[zJ] at k
 | x::r,j,a,k=>by
  rw[zJ] at k
  have C:=A7p h r (j+1) a
  cases D:x.away.l.contains h<;>rw[D] at k<;>simp at k
  ·rcases k with rfl | k
   ·simp;omega
   ·have:=C k;simp at this ⊢;omega
  ·have:=C k;simp at this ⊢;omega
def Bf (c:CaseD) (h:Int):List Int:=zJ h c.lines.l 0
theorem A2y {A B:List Int} {n:Nat} (h:n=A.length):(List.take (n*1) (Av A))++Av B=Av (A++B):=by
 rw[Nat.mul_one,List.take_of_length_le (by simp[Db,h]),Aes]
theorem kF {N:Nat} {c:CaseD} {h:Int} {o:Bool} {K:Nat→LA→O R} (hs:Small c N):∀ (m j fuel:Nat) (A:List Int),j+m=c.lines.l.length→m<fuel→A.length≤j →
  F5 N K h o c.av fuel A.length (j:Int) (Av A)=K (A++zJ h (c.lines.l.drop j) j).length (Av (A++zJ h (c.lines.l.drop j) j))
 | 0,j,fuel+1,A,G,_,_=>by
  rw[F5];unfold O7
  rw[Te,Kn (by omega),cf,Dz (l:=c.lines.l) (by omega),zJ,List.append_nil]
 | m+1,j,fuel+1,A,G,T,hA=>by
  rw[F5];unfold O7
  have k:j<c.lines.l.length:=by omega
  have F:=hs.top.2.1
  have I:c.lines.l[j] ∈ c.lines.l:=List.getElem_mem k
  have L:=hs.law _ I
  simp only[Te]
  rw[Iz k,ct,Aa k,ct,Int.toNat_natCast,Bo H4 _ _ k,Bs (l:=c.lines.l) k,zJ]
  have C:=kF (N:=N) (c:=c) (h:=h) (o:=o) (K:=K) hs m (j+1) fuel (A++[(j:Int)]) (by omega) (by omega) (by simp;omega)
  have D:=kF (N:=N) (c:=c) (h:=h) (o:=o) (K:=K) hs m (j+1) fuel A (by omega) (by omega) (by omega)
  generalize c.lines.l[j]=b at *
  have b3:(Nat.ble (A.length+1) 140737488355328&&Nat.ble ((A.length+1)*8) 140737488355328)=true:=by rw[Fm,Fm];simp;omega
  have M:∀ (r:LA) (f:LA→Nat→O R),B9 1 (List.drop 11 (b.av++r)) f=f (Av b.away.l) b.away.l.length:=fun r f=>by simp[LineD.av,Ii,F2]
  have S:List.take (A.length*1) (Av A)++[.int .i64 (j:Int)]=Av (A++[(j:Int)]):=A2y (B:=[(j:Int)]) rfl
  rw[M,Z' rfl L,b3,ct,S,Fu (by omega)]
  cases b.away.l.contains h with
  | true=>simp only[Bool.not_true,cond_false,cond_true];exact D
  | false =>
   simp only[Bool.not_false,cond_true,cond_false]
   rw[List.length_append] at C
   simpa using C
theorem A7q {N:Nat} {c:CaseD} {h:Int} {o:Bool} {K:Nat→LA→O R} (hs:Small c N):Of N c.av o h K=K (Bf c h).length (Av (Bf c h)):=by
 rw[OT];unfold Wm
 have:=kF (R:=R) (N:=N) (c:=c) (h:=h) (o:=o) (K:=K) hs c.lines.l.length 0 N [] (by omega) hs.lin.1 (by simp)
 simpa[Bf,Av] using this
def Cc (e:Nat×Nat):LA:=[.int .i64 (e.1:Int),.int .i64 (e.2:Int)]
theorem W4 (e:Nat×Nat):(Cc e).length=2:=rfl
theorem lQ (es:List (Nat×Nat)):(es.flatMap Cc).length=es.length*2:=by
 induction es with
 | nil=>rfl
 | cons e r k=>rw[List.flatMap_cons,List.length_append,k,W4];simp;omega
theorem Arb {N:Nat} {c:CaseD} {o:Bool} {ls:List Int} {K:Nat→Nat→LA→LA→O R} (D:ls.length≤1000000) (C:∀ l ∈ ls,∃ x,LnV c l x):∀ (m j fuel:Nat),j+m=ls.length→m<fuel →
  M5 N K ls.length o c.av (Av ls) fuel j (ls.length:Int) (j:Int) (((ls.take j).map (I9 c)).flatMap Cc)=K ls.length ls.length ((ls.map (I9 c)).flatMap Cc) (Av ls)
 | 0,j,fuel+1,F,_=>by
  rw[M5];unfold Zs
  have:j=ls.length:=by omega
  rw[Kn (by omega),cf,List.take_of_length_le (by omega),this]
 | m+1,j,fuel+1,F,I=>by
  rw[M5];unfold Zs
  have h:j<ls.length:=by omega
  obtain⟨x,k⟩:=C ls[j] (List.getElem_mem h)
  have b3:(Nat.ble (j+1) 140737488355328&&Nat.ble ((j+1)*16) 140737488355328)=true:=by rw[Fm,Fm];simp;omega
  have G:List.take (j*2) (((ls.take j).map (I9 c)).flatMap Cc)++[.int .i64 x.fr,.int .i64 x.to]=((ls.take (j+1)).map (I9 c)).flatMap Cc:=by
   rw[List.take_of_length_le (by rw[lQ];simp;omega),List.take_succ_eq_append_getElem h,List.map_append,List.flatMap_append]
   simp only[List.map_cons,List.map_nil,Bc3 k,List.flatMap_cons,List.flatMap_nil,List.append_nil,Cc]
   have:=k.f0;have:=k.t0
   rw[Int.toNat_of_nonneg k.f0,Int.toNat_of_nonneg k.t0]
  rw[Iz h,ct,Aa h,ct,Biu (by simpa using h),Int.toNat_natCast,aF h]
  simp only[Te,Bnf k,Bng k]
  rw[Aya k.l0 k.lt,ct,ct,b3,ct,G,Fu (by omega),Arb D C m (j+1) fuel (by omega) (by omega)]
theorem Bbm {N:Nat} {c:CaseD} {h:Int} {o:Bool} {K:Nat→Nat→LA→LA→O R} (hs:Small c N) (D:∀ l ∈ Bf c h,∃ x,LnV c l x) :
  GS N c.av o h K=K (Bf c h).length (Bf c h).length (((Bf c h).map (I9 c)).flatMap Cc) (Av (Bf c h)):=by
 rw[oq];unfold ZH
 have F:=kE h c.lines.l 0
 have k:=hs.top.2.1
 have C:=hs.lin.1
 have:=Arb (R:=R) (N:=N) (c:=c) (o:=o) (ls:=Bf c h) (K:=K) (by unfold Bf;omega) D (Bf c h).length 0 N (by omega) (by unfold Bf;omega)
 rw[Qj,ct,Gg,A7q hs]
 simpa using this
def F7 (st:Bool×List Int) (e:Nat×Nat):Bool×List Int :=
 let m:=By (st.2.getD e.1 0) (st.2.getD e.2 0)
 ((st.1||(st.2.getD e.1 0 != m))||(st.2.getD e.2 0 != m),(st.2.set e.1 m).set e.2 m)
theorem Aey {N:Nat} {es:List (Nat×Nat)} {n:Nat} {t o:Bool} {K1:Bool→LA→O R} {K:Nat→LA→O R} (hs:es.length<4611686018427387904) (F:∀ e ∈ es,e.1<n∧e.2<n):∀ (m j fuel:Nat) (st:Bool×List Int),j+m=es.length→m<fuel→st.2.length=n →
  Io N K1 K (es.flatMap Cc) es.length t o n fuel st.1 (es.length:Int) (j:Int) (Av st.2)=K1 ((es.drop j).foldl F7 st).1 (Av ((es.drop j).foldl F7 st).2)
 | 0,j,fuel+1,st,G,_,_=>by
  rw[Io];unfold Tp
  rw[Kn (by omega),cf,Dz (l:=es) (by omega)];rfl
 | m+1,j,fuel+1,st,G,hf,k=>by
  rw[Io];unfold Tp
  have h:j<es.length:=by omega
  obtain⟨C,D⟩:=F es[j] (List.getElem_mem h)
  have I:=Aey (N:=N) (es:=es) (n:=n) (t:=t) (o:=o) (K1:=K1) (K:=K) hs F m (j+1) fuel (F7 st es[j]) (by omega) (by omega) (by simp[F7,k])
  rw[Iz h,ct,Aa h,ct,Int.toNat_natCast,Bo W4 _ _ h,Bs (l:=es) h,List.foldl_cons,←I]
  generalize es[j]=e at *
  have L:Nat.ble 2 (List.length (Cc e++List.flatMap Cc (List.drop (j+1) es)))=true:=by rw[Fm,List.length_append,W4];simp
  have M:List.take 2 (Cc e++List.flatMap Cc (List.drop (j+1) es))=Cc e:=List.take_left' (W4 e)
  rw[L,ct,M,W4]
  have iu:Ac (e.1:Int) n=true:=Aa C
  have iv:Ac (e.2:Int) n=true:=Aa D
  have ru:∀ f:Int→O R,Ao .i64 (List.drop (0+((Int.toNat (e.1:Int))*1)) (Av st.2)) f=f (st.2.getD e.1 0):=fun f=>by rw[Biu (by rw[k];simpa using C)];rfl
  have rv:∀ f:Int→O R,Ao .i64 (List.drop (0+((Int.toNat (e.2:Int))*1)) (Av st.2)) f=f (st.2.getD e.2 0):=fun f=>by rw[Biu (by rw[k];simpa using D)];rfl
  have s1:=A2x (l:=st.2) (x:=(Int.toNat (e.1:Int))) (by rw[k];simpa using C)
  have s2:∀ m:Int,((Nat.beq 1 1)&&((Nat.ble ((0+((Int.toNat (e.2:Int))*1))+1) (List.length (List.set (Av st.2) (0+((Int.toNat (e.1:Int))*1)) (.int .i64 m))))&&(!false)))=true:=fun m=>by
   rw[wx];exact A2x (by simpa[k] using D)
  have S:∀ m:Int,List.set (List.set (Av st.2) (0+((Int.toNat (e.1:Int))*1)) (.int .i64 m)) (0+((Int.toNat (e.2:Int))*1)) (.int .i64 m)=Av ((st.2.set e.1 m).set e.2 m):=fun m=>by
   rw[wx,wx];simp
  have p1:(!o||A8 (Cc e))=true:=by simp[Cc,A8]
  have p2:(Nat.beq 2 2&&(Nat.ble 2 2&&!false))=true:=rfl
  have T:setCells [(.int .i64 (0:Int)),(.int .i64 (0:Int))] 0 (Cc e)=Cc e:=rfl
  have U:∀ f:Int→O R,Ao .i64 (Cc e) f=f e.1:=fun f=>by simp[Cc,A1]
  have V:∀ f:Int→O R,Ao .i64 (List.drop 1 (Cc e)) f=f e.2:=fun f=>by simp[Cc,A1]
  simp only[p1,p2,T,U,V,ct,iu,iv,ru,rv,s1,s2,S,Fu (show j<4611686018427387904 by omega)]
  unfold F7
  cases st.1
  ·cases Y:(st.2.getD e.1 0 != By (st.2.getD e.1 0) (st.2.getD e.2 0))<;>simp only[Y,Bool.false_or,Bool.true_or,cond_true,cond_false,beq_self_eq_true,show(true==false)=false from rfl]
  ·simp only[Bool.true_or,cond_false,show(true==false)=false from rfl]
def r7 (L:List Int):Nat:=(L.map Int.toNat).sum
theorem Bc4 {L:List Int} {x:Nat} {v:Int} (h:x<L.length):r7 (L.set x v)+(L.getD x 0).toNat=r7 L+v.toNat:=by
 unfold r7
 rw[aF h]
 induction L generalizing x with
 | nil=>simp at h
 | cons a r k =>
  cases x with
  | zero=>simp;omega
  | succ x=>have:=k (x:=x) (by simpa using h);simp at this ⊢;omega
theorem Arc {L:List Int} {x y:Nat} {v:Int} (h:x<L.length):(L.set x v).getD y 0=if x=y then v else L.getD y 0:=by
 rw[List.getD_eq_getElem?_getD,List.getD_eq_getElem?_getD,List.getElem?_set]
 by_cases e:x=y
 ·subst e;simp[h]
 ·simp[e]
theorem Bkg (a b:Int):By a b≤a∧By a b≤b∧(By a b=a∨By a b=b):=by
 unfold By
 by_cases h:b<a
 ·simp[h];omega
 ·simp[h];omega
theorem Bgd {n:Nat} {es:List (Nat×Nat)} {e:Nat×Nat} (T:e ∈ es) (G:e.1<n) (I:e.2<n) {b:Bool} {L:List Int} (h:LeastOk n es L) :
    LeastOk n es (F7 (b,L) e).2∧(((F7 (b,L) e).1=true∧r7 (F7 (b,L) e).2<r7 L)∨((F7 (b,L) e)=(b,L)∧L.getD e.1 0=L.getD e.2 0)):=by
  obtain⟨u,v⟩:=e
  simp only at G I
  obtain⟨m1,m2,m3⟩:=Bkg (L.getD u 0) (L.getD v 0)
  have k:u<L.length:=by rw[h.len];exact G
  have D:v<L.length:=by rw[h.len];exact I
  have C:Conn es u v:=.fwd T (.refl _)
  have Au:∀ y,((L.set u (By (L.getD u 0) (L.getD v 0))).set v (By (L.getD u 0) (L.getD v 0))).getD y 0=if v=y then By (L.getD u 0) (L.getD v 0) else if u=y then By (L.getD u 0) (L.getD v 0) else L.getD y 0:=fun y=>by
    rw[Arc (by simpa using D),Arc k]
  have lu:=h.low u G
  have lv:=h.low v I
  refine⟨⟨by simp[F7,h.len],fun y S=>?_,fun y S=>?_⟩,?_⟩
  · simp only[F7,Au]
    split
    · rename_i e;subst e;omega
    · split
      · rename_i e;subst e;omega
      · exact h.low y S
  · simp only[F7,Au]
    have cm:Conn es (By (L.getD u 0) (L.getD v 0)).toNat u:=by
      rcases m3 with e | e<;>rw[e]
      · exact h.con u G
      · exact(h.con v I).trans C.symm
    split
    · rename_i e;subst e;exact cm.trans C
    · split
      · rename_i e;subst e;exact cm
      · exact h.con y S
  · by_cases e1:L.getD u 0=By (L.getD u 0) (L.getD v 0)<;>by_cases M:L.getD v 0=By (L.getD u 0) (L.getD v 0)
    · right
      have q:(L.set u (By (L.getD u 0) (L.getD v 0))).set v (By (L.getD u 0) (L.getD v 0))=L:=by
        have key:∀ m:Int,L.getD u 0=m→L.getD v 0=m→(L.set u m).set v m=L:=by
          intro m U V
          have a1:L.set u m=L:=by rw[←U,aF k,List.set_getElem_self]
          have a2:L.set v m=L:=by rw[←V,aF D,List.set_getElem_self]
          rw[a1,a2]
        exact key _ e1 M
      have x1:(L.getD u 0 != By (L.getD u 0) (L.getD v 0))=false:=by simpa using e1
      have x2:(L.getD v 0 != By (L.getD u 0) (L.getD v 0))=false:=by simpa using M
      refine⟨by simp only[F7,q,x1,x2,Bool.or_false],by rw[e1];exact M.symm⟩
    all_goals
      left
      have Y:=Bc4 (v:=By (L.getD u 0) (L.getD v 0)) k
      have F:=Bc4 (L:=L.set u (By (L.getD u 0) (L.getD v 0))) (x:=v) (v:=By (L.getD u 0) (L.getD v 0)) (by simpa using D)
      rw[Arc k] at F
      refine⟨?_,?_⟩
      · first
          | (have x2 : (L.getD v 0 != By (L.getD u 0) (L.getD v 0)) = true := by simpa using M
             simp only[F7,x2,Bool.or_true])
          | (have x1 : (L.getD u 0 != By (L.getD u 0) (L.getD v 0)) = true := by simpa using e1
             simp only[F7,x1,Bool.or_true,Bool.true_or])
      · simp only[F7]
        split at F
        · rename_i e;subst e;omega
        · omega
theorem A2z {n:Nat} {es:List (Nat×Nat)} (C:∀ e ∈ es,e.1<n∧e.2<n):∀ (fs:List (Nat×Nat)) (b:Bool) (L:List Int),(∀ e ∈ fs,e ∈ es)→LeastOk n es L →
  LeastOk n es (fs.foldl F7 (b,L)).2∧(((fs.foldl F7 (b,L)).1=true∧(r7 (fs.foldl F7 (b,L)).2<r7 L∨(b=true∧r7 (fs.foldl F7 (b,L)).2≤r7 L)))∨((fs.foldl F7 (b,L))=(b,L)∧Bc2 fs L))
 | [],b,L,_,h=>⟨h,.inr ⟨rfl,fun e C=>by simp at C⟩⟩
 | e::r,b,L,I,h=>by
  have M:=I e (by simp)
  obtain⟨V,Y⟩:=Bgd M (C e M).1 (C e M).2 (b:=b) h
  rw[List.foldl_cons]
  rcases Y with⟨S,T⟩ | ⟨S,T⟩
  ·have e':F7 (b,L) e=(true,(F7 (b,L) e).2):=by rw[←S]
   rw[e']
   obtain⟨U,D⟩:=A2z C r true (F7 (b,L) e).2 (fun x k=>I x (List.mem_cons_of_mem _ k)) V
   refine⟨U,.inl ?_⟩
   rcases D with⟨F,G⟩ | ⟨F,_⟩
   ·exact⟨F,.inl (by rcases G with G | ⟨_,G⟩<;>omega)⟩
   ·rw[F];exact⟨rfl,.inl T⟩
  ·rw[S]
   obtain⟨U,D⟩:=A2z C r b L (fun x k=>I x (List.mem_cons_of_mem _ k)) h
   refine⟨U,?_⟩
   rcases D with D | ⟨F,G⟩
   ·exact .inl D
   ·refine .inr ⟨F,fun x k=>?_⟩
    rcases List.mem_cons.1 k with rfl | k
    ·exact T
    ·exact G x k
theorem Aez {N:Nat} {es:List (Nat×Nat)} {n:Nat} {t o:Bool} (hs:Uk es.length N) (C:∀ e ∈ es,e.1<n∧e.2<n):∀ (s fuel:Nat) (L:List Int),LeastOk n es L→r7 L≤s→s+2<fuel →
  ∃ L',LeastOk n es L'∧Bc2 es L'∧∀ K:Nat→LA→O R,D3 N K (es.flatMap Cc) es.length t o n fuel true (Av L)=K n (Av L')
 | s,fuel+1,L,h,hL,S=>by
  obtain⟨F,G⟩:=A2z C es false L (fun _ I=>I) h
  have step:∀ K:Nat→LA→O R,D3 N K (es.flatMap Cc) es.length t o n (fuel+1) true (Av L)=D3 N K (es.flatMap Cc) es.length t o n fuel (es.foldl F7 (false,L)).1 (Av (es.foldl F7 (false,L)).2):=fun K=>by
   rw[D3];unfold Tq
   have:=Aey (R:=R) (N:=N) (es:=es) (n:=n) (t:=t) (o:=o) (K1:=D3 N K (es.flatMap Cc) es.length t o n fuel) (K:=K) hs.2 C es.length 0 N (false,L) (by omega) hs.1 h.len
   simpa using this
  rcases G with⟨D,k⟩ | ⟨D,k⟩
  ·have M:r7 (es.foldl F7 (false,L)).2<r7 L:=by
    rcases k with k | ⟨k,_⟩
    ·exact k
    ·cases k
   obtain⟨L',a1,a2,a3⟩:=Aez hs C (s - 1) fuel _ F (by omega) (by omega)
   exact⟨L',a1,a2,fun K=>by rw[step,D];exact a3 K⟩
  ·refine⟨L,h,k,fun K=>?_⟩
   rw[step,D]
   rcases fuel with _ | fuel
   ·omega
   ·rw[D3];unfold Tq;rfl
 termination_by s=>s
 decreasing_by omega
theorem Ae0 {N:Nat} {es:List (Nat×Nat)} {n:Nat} {t o:Bool} {K:Nat→LA→O R} (hn:n<4611686018427387904) (L:List Int) (hL:L.length=n):∀ (m j fuel:Nat),j+m=n→m<fuel →
  Ip N K (n:Int) (es.flatMap Cc) es.length t o fuel n (j:Int) (Av ((Tf n).take j++L.drop j))=D3 N K (es.flatMap Cc) es.length t o n N true (Av (Tf n))
 | 0,j,fuel+1,C,_=>by
  rw[Ip];unfold Tr
  rw[Kn (by omega),cf,Dz (by omega),List.append_nil,List.take_of_length_le (by simp[Tf];omega)]
 | m+1,j,fuel+1,C,D=>by
  rw[Ip];unfold Tr
  have h:j<n:=by omega
  have k:((Tf n).take j++L.drop j).length=n:=by simp[Tf];omega
  rw[Iz h,ct,Aa h,ct,A2x (by rw[k];simpa using h),ct,Int.toNat_natCast,Nat.zero_add,Nat.mul_one,wx,Bbl hL h,Fu (by omega),Ae0 hn L hL m (j+1) fuel (by omega) (by omega)]
theorem Bbn (n:Nat) (es:List (Nat×Nat)):LeastOk n es (Tf n):=by
 refine⟨by simp[Tf],fun b k=>?_,fun b k=>?_⟩
 ·rw[Ax9 k];omega
 ·rw[Ax9 k];exact .refl _
theorem Bmg {L:List Int} {b:Nat}:(∀ x ∈ L,x.toNat≤b)→r7 L≤L.length*b:=by
 unfold r7
 induction L with
 | nil=>intro _;simp
 | cons a r k =>
  intro h
  have D:=h a (by simp)
  have F:=k (fun x C=>h x (List.mem_cons_of_mem _ C))
  simp[Nat.add_mul];omega
theorem wy {N:Nat} {es:List (Nat×Nat)} {n:Nat} {t o:Bool} (hs:Uk es.length N) (hn:n≤1000) (hN:n*n+1000<N) (D:∀ e ∈ es,e.1<n∧e.2<n) :
  ∃ L,LeastOk n es L∧Bc2 es L∧∀ (m:Nat) (K:Nat→LA→O R),m=es.length→P9 N (n:Int) (es.flatMap Cc) m t o K=K n (Av L):=by
 have k:r7 (Tf n)≤n*n:=by
  have:=Bmg (L:=Tf n) (b:=n) (by
   intro x C;simp[Tf] at C;obtain⟨a,S,rfl⟩:=C;simp;omega)
  simpa[Tf] using this
 obtain⟨L,F,G,I⟩:=Aez (R:=R) (N:=N) (es:=es) (n:=n) (t:=t) (o:=o) hs D (n*n) N (Tf n) (Bbn n es) k (by omega)
 refine⟨L,F,G,fun m K M=>?_⟩
 subst M
 rw[dH];unfold FR
 have ok:(decide ((0:Int)≤(n:Int))&&(decide ((n:Int)≤(n:Int))&&(decide ((n:Int)≤(140737488355328:Int))&&decide (((n:Int)*((8:Nat):Int))≤(140737488355328:Int)))))=true:=by simp;omega
 have e:List.replicate n (AV.int .i64 (0:Int))=Av (List.replicate n 0):=by simp[Av]
 have:=Ae0 (R:=R) (N:=N) (es:=es) (n:=n) (t:=t) (o:=o) (K:=K) (by omega) (List.replicate n 0) (by simp) n 0 N (by omega) (by omega)
 rw[ok,ct,Int.toNat_natCast,e,←I K]
 simpa using this
theorem r8 {N:Nat} {L:List Int} {t o:Bool} {K:Int→O R} (hs:L.length<1000000):∀ (m j fuel:Nat) (a:Nat),j+m=L.length→m<fuel→a≤j →
  M6 N K (Av L) L.length t o fuel (a:Int) (j:Int)=K ((a+((List.range' j m).filter fun b=>L.getD b 0==(b:Int)).length:Nat):Int)
 | 0,j,fuel+1,a,k,_,_=>by
  rw[M6];unfold Zt
  rw[Kn (by omega),cf];simp
 | m+1,j,fuel+1,a,k,C,D=>by
  rw[M6];unfold Zt
  have h:j<L.length:=by omega
  rw[Iz h,ct,Aa h,ct,Aq3 h,Fu (by omega),Fu (by omega),List.range'_succ,List.filter_cons,aF h]
  cases F:L[j]==(j:Int) with
  | true =>
   rw[ct,r8 hs m (j+1) fuel (a+1) (by omega) (by omega) (by omega)]
   simp;congr 1;omega
  | false =>
   rw[cf,r8 hs m (j+1) fuel a (by omega) (by omega) (by omega)]
   simp
theorem Ard {N:Nat} {L:List Int} {n:Nat} {t o:Bool} {K:Int→O R} (hn:n=L.length) (hs:L.length<1000000) (hN:L.length<N):Yr N (Av L) n t o K=K (Bkf L:Int):=by
 subst hn
 rw[ou];unfold ZI
 have:=r8 (R:=R) (N:=N) (L:=L) (t:=t) (o:=o) (K:=K) hs L.length 0 N 0 (by omega) hN (by omega)
 simp only[Int.natCast_zero,Nat.zero_add] at this
 rw[Bkf,List.range_eq_range']
 exact this
def wz (gone:List Int):List (Nat×Nat)→Nat→List (Nat×Nat)
 | [],_=>[]
 | e::r,j=>cond (gone.contains (j:Int)) (wz gone r (j+1)) (e::wz gone r (j+1))
theorem Are {N:Nat} {es:List (Nat×Nat)} {gone:List Int} {n:Nat} {t o t2 o2:Bool} {K:Bool→O R} (T:es.length≤1000) (hlN:es.length<N) (hn:n≤1000) (hN:n*n+1000<N) (k:∀ e ∈ es,e.1<n∧e.2<n) (G:Uk gone.length N):∀ (m j fuel:Nat) (A:List (Nat×Nat)),j+m=es.length→m<fuel→A.length≤j→(∀ e ∈ A,e.1<n∧e.2<n) →
  F6 N K (n:Int) (es.flatMap Cc) es.length t o (Av gone) gone.length t2 o2 fuel A.length (j:Int) (A.flatMap Cc)=K (decide ((CC n (A++wz gone (es.drop j) j):Int)>(CC n es:Int)))
 | 0,j,fuel+1,A,U,_,hA,hAe=>by
  rw[F6];unfold O8
  obtain⟨L,a1,a2,a3⟩:=wy (R:=R) (N:=N) (es:=A) (n:=n) (t:=false) (o:=true) ⟨by omega,by omega⟩ hn hN hAe
  obtain⟨L',D,I,b3⟩:=wy (R:=R) (N:=N) (es:=es) (n:=n) (t:=false) (o:=o) ⟨by omega,by omega⟩ hn hN k
  have l1:=a1.len;have l2:=D.len
  rw[Kn (by omega),cf,Dz (l:=es) (by omega),wz,List.append_nil,List.take_of_length_le (by rw[lQ];exact Nat.le_refl _),a3 _ _ rfl,Nat.mul_one,List.take_of_length_le (by rw[Db];omega),Ard (by omega) (by omega) (by omega),b3 _ _ rfl,List.take_of_length_le (by rw[Db];omega),Ard (by omega) (by omega) (by omega),Aex a1 a2 hAe,Aex D I k]
 | m+1,j,fuel+1,A,U,hf,hA,hAe=>by
  rw[F6];unfold O8
  have h:j<es.length:=by omega
  have C:=Are (N:=N) (es:=es) (gone:=gone) (n:=n) (t:=t) (o:=o) (t2:=t2) (o2:=o2) (K:=K) T hlN hn hN k G m (j+1) fuel (A++[es[j]]) (by omega) (by omega) (by simp;omega) (by
   intro e M
   rcases List.mem_append.1 M with F | F
   ·exact hAe e F
   ·simp at F;subst F;exact k _ (List.getElem_mem h))
  have S:=Are (N:=N) (es:=es) (gone:=gone) (n:=n) (t:=t) (o:=o) (t2:=t2) (o2:=o2) (K:=K) T hlN hn hN k G m (j+1) fuel A (by omega) (by omega) (by omega) hAe
  rw[Iz h,ct,Z' rfl G,Aa h,ct,Int.toNat_natCast,Bo W4 _ _ h,Bs (l:=es) h,wz]
  generalize es[j]=e at *
  have D:Nat.ble 2 (List.length (Cc e++List.flatMap Cc (List.drop (j+1) es)))=true:=by rw[Fm,List.length_append,W4];simp
  have I:List.take 2 (Cc e++List.flatMap Cc (List.drop (j+1) es))=Cc e:=List.take_left' (W4 e)
  have b3:(Nat.ble (A.length+1) 140737488355328&&Nat.ble ((A.length+1)*16) 140737488355328)=true:=by rw[Fm,Fm];simp;omega
  have p1:(!o||A8 (Cc e))=true:=by simp[Cc,A8]
  have V:List.take 2 (setCells [(.int .i64 (0:Int)),(.int .i64 (0:Int))] 0 (Cc e))=Cc e:=rfl
  have Y:List.take (A.length*2) (A.flatMap Cc)++Cc e=(A++[e]).flatMap Cc:=by
   rw[List.take_of_length_le (by rw[lQ];exact Nat.le_refl _)];simp
  rw[D,ct,I,p1,ct,W4,show(Nat.beq 2 2&&Nat.ble 2 2)=true from rfl,ct,b3,ct,V,Y,Fu (by omega)]
  cases gone.contains (j:Int) with
  | true=>simp only[Bool.not_true,cond_false,cond_true];exact S
  | false =>
   simp only[Bool.not_false,cond_true,cond_false]
   rw[List.length_append] at C
   simpa using C
theorem Arf {N:Nat} {es:List (Nat×Nat)} {gone:List Int} {n m m2:Nat} {t o t2 o2:Bool} {K:Bool→O R} (C:m=es.length) (k:m2=gone.length) (D:es.length≤1000) (hlN:es.length<N) (hn:n≤1000) (hN:n*n+1000<N) (F:∀ e ∈ es,e.1<n∧e.2<n) (G:Uk gone.length N) :
  Og N (n:Int) (es.flatMap Cc) m t o (Av gone) m2 t2 o2 K=K (decide ((CC n (wz gone es 0):Int)>(CC n es:Int))):=by
 subst C k
 rw[OY];unfold Wp
 have:=Are (R:=R) (N:=N) (es:=es) (gone:=gone) (n:=n) (t:=t) (o:=o) (t2:=t2) (o2:=o2) (K:=K) D hlN hn hN F G es.length 0 N [] (by omega) hlN (by simp) (by simp)
 simpa using this
end
end Gx.Cf

namespace Gx.Cf
open Go Go.Proofs
section
variable {R:Type}
theorem D9 {p:Kk} {ok:Bool} {w:Int×Int×Int} {e:{ e:Int // e≠0 }} (h:nd p ok w e=none):p=none∧ok=true:=by
 rcases p with _ | x
 ·cases ok
  ·simp[nd] at h
  ·exact⟨rfl,rfl⟩
 ·simp[nd] at h
theorem Um {α:Type} {f:Nat→α→Kk→Kk} (C:∀ j a x,f j a (some x)=some x):∀ (l:List α) (j:Nat) (p:Kk),Gz f l j p=none→p=none∧∀ i (h:i<l.length),f (j+i) l[i] none=none
 | [],j,p,h=>by rw[Gz] at h;exact⟨h,fun i hi=>by simp at hi⟩
 | a::r,j,p,h=>by
  rw[Gz] at h
  obtain⟨k,D⟩:=Um C r (j+1) _ h
  have F:p=none:=by
   rcases p with _ | x
   ·rfl
   ·rw[C] at k;cases k
  subst F
  refine⟨rfl,fun i hi=>?_⟩
  cases i with
  | zero=>simpa using k
  | succ i=>have:=D i (by simpa using hi);rw[show j+1+i=j+(i+1) by omega] at this;simpa using this
theorem zK {c:CaseD} (j:Nat) (x:BusD) (y:(Int×Int×Int)×{ e:Int // e≠0 }):Bka c j x (some y)=some y:=rfl
theorem r9 {c:CaseD} (j:Nat) (x:LineD) (y:(Int×Int×Int)×{ e:Int // e≠0 }):Ax7 c j x (some y)=some y:=rfl
theorem kG {c:CaseD} (j:Nat) (x:StoreD) (y:(Int×Int×Int)×{ e:Int // e≠0 }):Aq6 c j x (some y)=some y:=rfl
theorem zL {c:CaseD} (j:Nat) (x:TieD) (y:(Int×Int×Int)×{ e:Int // e≠0 }):Bkb c j x (some y)=some y:=rfl
theorem r_ {c:CaseD} (j:Nat) (x:UnitD) (y:(Int×Int×Int)×{ e:Int // e≠0 }):A7n c j x (some y)=some y:=by
 show cond (x.state==2) _ _=_
 cases x.state==2<;>rfl
def Biv (c:CaseD):Kk :=
 let p:=Bbi c none
 let p:=Gz (Bka c) c.buses.l 0 p
 let p:=Gz (Ax7 c) c.lines.l 0 p
 let p:=Gz (A7n c) c.units.l 0 p
 let p:=Gz (Aq6 c) c.stores.l 0 p
 let p:=Gz (Bkb c) c.ties.l 0 p
 Gz (Bgc c) c.outs.l 0 p
noncomputable def Biw (c:CaseD) (h:Int) (o:OutD):Bool :=
 (CC c.buses.l.length (((Bf c h).filter fun l=>!o.lines.l.contains l).map (I9 c)):Int)==(CC c.buses.l.length ((Bf c h).map (I9 c)):Int)
noncomputable def Bix (c:CaseD) (h:Int) (j:Nat) (o:OutD) (p:Kk):Kk:=nd p (Biw c h o) (6,j,h) Boh
noncomputable def ra (c:CaseD):Nat→Nat→Kk→Kk
 | 0,_,p=>p
 | m+1,j,p=>ra c m (j+1) (Gz (Bix c j) c.outs.l 0 p)
theorem Bge {c:CaseD} {h:Int} (j:Nat) (x:OutD) (y:(Int×Int×Int)×{ e:Int // e≠0 }):Bix c h j x (some y)=some y:=rfl
theorem Ae1 {c:CaseD} {y:(Int×Int×Int)×{ e:Int // e≠0 }}:∀ (m j:Nat),ra c m j (some y)=some y
 | 0,_=>rfl
 | m+1,j=>by rw[ra,Qi (fun j a=>Bge j a y)];exact Ae1 m (j+1)
noncomputable def kH (c:CaseD):Kk:=match Biv c with
 | some x=>some x
 | none=>ra c c.hours.toNat 0 none
structure PreV (c:CaseD):Prop where
 hours:1≤c.hours∧c.hours≤24
 nb:c.buses.l.length≤32
 nl:c.lines.l.length≤64
 no:c.outs.l.length≤64
 line:∀ x ∈ c.lines.l,0≤x.fr∧x.fr.toNat<c.buses.l.length∧0≤x.to∧x.to.toNat<c.buses.l.length
 out:∀ x ∈ c.outs.l,x.lines.l.length≤2
theorem Bgf {c:CaseD} (h:Biv c=none):PreV c:=by
 unfold Biv at h
 obtain⟨M,o6⟩:=Um (fun _ _ _=>zI) _ _ _ h
 obtain⟨S,o5⟩:=Um (fun j a x=>zL j a x) _ _ _ M
 obtain⟨T,o4⟩:=Um (fun j a x=>kG j a x) _ _ _ S
 obtain⟨U,o3⟩:=Um (fun j a x=>r_ j a x) _ _ _ T
 obtain⟨V,o2⟩:=Um (fun j a x=>r9 j a x) _ _ _ U
 obtain⟨I,o1⟩:=Um (fun j a x=>zK j a x) _ _ _ V
 unfold Bbi at I
 obtain⟨Y,e7⟩:=D9 I
 obtain⟨w6,_⟩:=D9 Y
 obtain⟨w5,_⟩:=D9 w6
 obtain⟨w4,_⟩:=D9 w5
 obtain⟨w3,D⟩:=D9 w4
 obtain⟨w2,k⟩:=D9 w3
 obtain⟨w1,_⟩:=D9 w2
 obtain⟨w0,_⟩:=D9 w1
 obtain⟨_,F⟩:=D9 w0
 unfold Fv at F k
 simp at F k D e7
 refine⟨F,by omega,by omega,by omega,fun x G=>?_,fun x G=>?_⟩
 ·obtain⟨i,hi,rfl⟩:=List.getElem_of_mem G
  have:=o2 i hi
  unfold Ax7 Aq5 at this
  obtain⟨a,_⟩:=D9 this
  obtain⟨a,_⟩:=D9 a
  obtain⟨a,_⟩:=D9 a
  obtain⟨a,_⟩:=D9 a
  obtain⟨a,_⟩:=D9 a
  obtain⟨a,_⟩:=D9 a
  obtain⟨a,_⟩:=D9 a
  obtain⟨a,_⟩:=D9 a
  obtain⟨a,L⟩:=D9 a
  obtain⟨_,C⟩:=D9 a
  unfold Aet at L C
  simp at L C
  omega
 ·obtain⟨i,hi,rfl⟩:=List.getElem_of_mem G
  have:=o6 i hi
  unfold Bgc Bbj at this
  obtain⟨a,_⟩:=D9 this
  obtain⟨a,_⟩:=D9 a
  obtain⟨a,_⟩:=D9 a
  obtain⟨a,_⟩:=D9 a
  obtain⟨a,_⟩:=D9 a
  obtain⟨a,_⟩:=D9 a
  obtain⟨a,_⟩:=D9 a
  obtain⟨_,C⟩:=D9 a
  simp at C
  omega
theorem PreV.lnV {c:CaseD} (v:PreV c) {h:Int} {l:Int} (C:l ∈ Bf c h):∃ x,LnV c l x:=by
 have:=A7p h c.lines.l 0 l C
 have D:0≤l:=by omega
 have k:l.toNat<c.lines.l.length:=by omega
 obtain⟨a,b,d,e⟩:=v.line _ (List.getElem_mem k)
 exact⟨c.lines.l[l.toNat],D,k,List.getElem?_eq_getElem k,a,b,d,e⟩
def w3 (p:Kk):LA:=match p with
 | none=>[.int .i64 0,.int .i64 0,.int .i64 0]
 | some ((a,b,f),_)=>[.int .i64 a,.int .i64 b,.int .i64 f]
end
end Gx.Cf

namespace Gx.Cf
open Go Go.Proofs
section
variable {R:Type}
theorem Biy {N:Nat} {c:CaseD} {p:Kk} {o:Bool} {j:Nat} {K:Int→LA→O R} {K2:LA→Int→O R} (hs:Small c N) (h:j<c.buses.l.length) :
  Wq N K K2 o c.av (j:Int) (Dt p)=K ((j+1:Nat):Int) (Dt (Bka c j c.buses.l[j] p)):=by
 have hN:=hs.n64
 have hN8:8≤N:=by omega
 have C:=hs.bus
 have G:c.buses.l[j] ∈ c.buses.l:=List.getElem_mem h
 have I:=hs.dem _ G
 have D:=@En R N c (c.buses.l.map (·.name)) o (k:=1) (n:=j) (hN:=hN) (hL:=fun K=>A7o hs) (hn:=by simpa using h) (hs:=⟨by have:=C.1;omega,by have:=C.2;omega⟩)
 have F:(c.buses.l.map (·.name))[j]'(by simpa using h)=c.buses.l[j].name:=by simp
 rw[F] at D
 unfold Wq
 simp only[Qj,Gg,ct,D,W3]
 rw[Aa h,ct,Int.toNat_natCast,Bo V' _ _ h]
 generalize c.buses.l[j]=b at *
 have L:∀ (r:LA) (f:LA→Nat→O R),B9 1 (List.drop 1 (b.av++r)) f=f (Av b.demand.l) b.demand.l.length:=fun r f=>by simp[BusD.av,Ii,F2]
 have M:∀ (r:LA) (f:Int→O R),Ao .i64 (List.drop 2 (b.av++r)) f=f b.shed:=fun r f=>by simp[BusD.av,A1]
 rw[L,E1 rfl I,ct,M,Ew hN8,Ah (by decide),Fu (by have:=C.2;omega)]
 rfl
theorem A20 {p:Kk} {K:LA→Int→O R}:(cond (Nat.ble 3 (List.length (Dt p))) (Ao .i64 (List.drop 3 (Dt p)) fun x38=>(cond ((Nat.beq (List.length (List.take 3 (Dt p))) 3)&&((Nat.ble 3 3)&&(!false))) (cond (Nat.ble 3 (List.length (setCells [(.int .i64 (0:Int)),(.int .i64 (0:Int)),(.int .i64 (0:Int))] 0 (List.take 3 (Dt p))))) (K (List.take 3 (setCells [(.int .i64 (0:Int)),(.int .i64 (0:Int)),(.int .i64 (0:Int))] 0 (List.take 3 (Dt p)))) x38) none) none)) none)=K (w3 p) (I0 p):=by
 rcases p with _ | ⟨⟨a,b,f⟩,e,k⟩<;>simp[Dt,Bir,w3,I0,Fm,setCells,C3,A1]
theorem Ae2 {N:Nat} {c:CaseD} {o:Bool} {K:LA→Int→O R} (hs:Small c N):∀ (m j fuel:Nat) (p:Kk),j+m=c.buses.l.length→m<fuel →
  Ju N K o c.av fuel (j:Int) (Dt p)=Nb N K o c.av N 0 (Dt (Gz (Bka c) (c.buses.l.drop j) j p))
 | 0,j,fuel+1,p,C,_=>by
  rw[Ju];unfold Z0
  rw[W3,Kn (by omega),Dz (l:=c.buses.l) (by omega),Gz];rfl
 | m+1,j,fuel+1,p,C,G=>by
  rw[Ju];unfold Z0
  have h:j<c.buses.l.length:=by omega
  have k:=hs.bus
  rw[W3,Iz h,RF,Bs (l:=c.buses.l) h,Gz]
  rcases p with _ | ⟨x,e,D⟩
  ·simp only[I0,beq_self_eq_true,cond_true]
   rw[Biy hs h,Ae2 hs m (j+1) fuel _ (by omega) (by omega)]
  ·have F:(e==0)=false:=by simpa using D
   simp only[I0,F,beq_self_eq_true,cond_true,cond_false]
   rw[zK,Qi (fun _ _=>zK _ _ _)]
theorem Ae3 {N:Nat} {c:CaseD} {o:Bool} {K:LA→Int→O R} (hs:Small c N):∀ (m j fuel:Nat) (p:Kk),j+m=c.lines.l.length→m<fuel →
  Nb N K o c.av fuel (j:Int) (Dt p)=Na N K o c.av N 0 (Dt (Gz (Ax7 c) (c.lines.l.drop j) j p))
 | 0,j,fuel+1,p,C,_=>by
  rw[Nb];unfold Zz
  rw[Te,Kn (by omega),Dz (l:=c.lines.l) (by omega),Gz];rfl
 | m+1,j,fuel+1,p,C,G=>by
  rw[Nb];unfold Zz
  have h:j<c.lines.l.length:=by omega
  have k:=hs.lin
  rw[Te,Iz h,RF,Bs (l:=c.lines.l) h,Gz]
  rcases p with _ | ⟨x,e,D⟩
  ·simp only[I0,beq_self_eq_true,cond_true]
   rw[Qj,ct,Gg,ef hs h,Fu (by have:=k.2;omega),Ae3 hs m (j+1) fuel _ (by omega) (by omega)]
  ·have F:(e==0)=false:=by simpa using D
   simp only[I0,F,beq_self_eq_true,cond_true,cond_false]
   rw[r9,Qi (fun _ _=>r9 _ _ _)]
theorem Ae4 {N:Nat} {c:CaseD} {o:Bool} {K:LA→Int→O R} (hs:Small c N):∀ (m j fuel:Nat) (p:Kk),j+m=c.units.l.length→m<fuel →
  Na N K o c.av fuel (j:Int) (Dt p)=M9 N K o c.av N 0 (Dt (Gz (A7n c) (c.units.l.drop j) j p))
 | 0,j,fuel+1,p,C,_=>by
  rw[Na];unfold Zy
  rw[LI,Kn (by omega),Dz (l:=c.units.l) (by omega),Gz];rfl
 | m+1,j,fuel+1,p,C,G=>by
  rw[Na];unfold Zy
  have h:j<c.units.l.length:=by omega
  have k:=hs.uni
  rw[LI,Iz h,RF,Bs (l:=c.units.l) h,Gz]
  rcases p with _ | ⟨x,e,D⟩
  ·simp only[I0,beq_self_eq_true,cond_true]
   rw[Qj,ct,Gg,eg hs h,Fu (by have:=k.2;omega),Ae4 hs m (j+1) fuel _ (by omega) (by omega)]
  ·have F:(e==0)=false:=by simpa using D
   simp only[I0,F,beq_self_eq_true,cond_true,cond_false]
   rw[r_,Qi (fun _ _=>r_ _ _ _)]
theorem Ae5 {N:Nat} {c:CaseD} {o:Bool} {K:LA→Int→O R} (hs:Small c N):∀ (m j fuel:Nat) (p:Kk),j+m=c.stores.l.length→m<fuel →
  M9 N K o c.av fuel (j:Int) (Dt p)=M8 N K o c.av N 0 (Dt (Gz (Aq6 c) (c.stores.l.drop j) j p))
 | 0,j,fuel+1,p,C,_=>by
  rw[M9];unfold Zx
  rw[GV,Kn (by omega),Dz (l:=c.stores.l) (by omega),Gz];rfl
 | m+1,j,fuel+1,p,C,G=>by
  rw[M9];unfold Zx
  have h:j<c.stores.l.length:=by omega
  have k:=hs.sto
  rw[GV,Iz h,RF,Bs (l:=c.stores.l) h,Gz]
  rcases p with _ | ⟨x,e,D⟩
  ·simp only[I0,beq_self_eq_true,cond_true]
   rw[Qj,ct,Gg,aE hs h,Fu (by have:=k.2;omega),Ae5 hs m (j+1) fuel _ (by omega) (by omega)]
  ·have F:(e==0)=false:=by simpa using D
   simp only[I0,F,beq_self_eq_true,cond_true,cond_false]
   rw[kG,Qi (fun _ _=>kG _ _ _)]
theorem Ae6 {N:Nat} {c:CaseD} {o:Bool} {K:LA→Int→O R} (hs:Small c N):∀ (m j fuel:Nat) (p:Kk),j+m=c.ties.l.length→m<fuel →
  M8 N K o c.av fuel (j:Int) (Dt p)=M7 N K o c.av N 0 (Dt (Gz (Bkb c) (c.ties.l.drop j) j p))
 | 0,j,fuel+1,p,C,_=>by
  rw[M8];unfold Zw
  rw[lP,Kn (by omega),Dz (l:=c.ties.l) (by omega),Gz];rfl
 | m+1,j,fuel+1,p,C,G=>by
  rw[M8];unfold Zw
  have h:j<c.ties.l.length:=by omega
  have k:=hs.tie
  rw[lP,Iz h,RF,Bs (l:=c.ties.l) h,Gz]
  rcases p with _ | ⟨x,e,D⟩
  ·simp only[I0,beq_self_eq_true,cond_true]
   rw[Qj,ct,Gg,kD hs h,Fu (by have:=k.2;omega),Ae6 hs m (j+1) fuel _ (by omega) (by omega)]
  ·have F:(e==0)=false:=by simpa using D
   simp only[I0,F,beq_self_eq_true,cond_true,cond_false]
   rw[zL,Qi (fun _ _=>zL _ _ _)]
theorem Ae7 {N:Nat} {c:CaseD} {o:Bool} {K:LA→Int→O R} (hs:Small c N):∀ (m j fuel:Nat) (p:Kk),j+m=c.outs.l.length→m<fuel →
  M7 N K o c.av fuel (j:Int) (Dt p)=Ev N K o c.av N 0 (Dt (Gz (Bgc c) (c.outs.l.drop j) j p))
 | 0,j,fuel+1,p,C,_=>by
  rw[M7];unfold Zv
  rw[F',Kn (by omega),Dz (l:=c.outs.l) (by omega),Gz];rfl
 | m+1,j,fuel+1,p,C,I=>by
  rw[M7];unfold Zv
  have h:j<c.outs.l.length:=by omega
  have k:=hs.out
  rw[F',Iz h,RF,Bs (l:=c.outs.l) h,Gz]
  rcases p with _ | ⟨x,e,D⟩
  ·simp only[I0,beq_self_eq_true,cond_true]
   rw[Qj,ct,Gg,WD hs h,Fu (by have:=k.2;omega),Ae7 hs m (j+1) fuel _ (by omega) (by omega)]
  ·have G:(e==0)=false:=by simpa using D
   simp only[I0,G,beq_self_eq_true,cond_true,cond_false]
   rw[zI,Qi (fun _ _=>zI)]
def LK (ol:List Int):List Int→Nat→List Int
 | [],_=>[]
 | a::r,j=>cond (ol.contains a) ((j:Int)::LK ol r (j+1)) (LK ol r (j+1))
theorem A7r (ol:List Int):∀ (l:List Int) (j:Nat) (x:Int),x ∈ LK ol l j→(j:Int)≤x
 | [],_,_,h=>by simp[LK] at h
 | a::r,j,x,h=>by
  rw[LK] at h
  have k:=A7r ol r (j+1) x
  cases C:ol.contains a<;>rw[C] at h<;>simp at h
  ·have:=k h;omega
  ·rcases h with rfl | h
   ·omega
   ·have:=k h;omega
theorem zM {f:Int→Nat×Nat} (ol:List Int):∀ (l:List Int) (j:Nat) (pre:List Int),(∀ x ∈ pre,x<(j:Int))→wz (pre++LK ol l j) (l.map f) j=((l.filter fun a=>!ol.contains a).map f)
 | [],_,_,_=>rfl
 | a::r,j,pre,F=>by
  rw[List.map_cons,wz,LK,List.filter_cons]
  have C:¬ (j:Int) ∈ pre:=fun h=>by have:=F _ h;omega
  cases I:ol.contains a with
  | true =>
   have G:(pre++cond true ((j:Int)::LK ol r (j+1)) (LK ol r (j+1))).contains (j:Int)=true:=by simp
   rw[G]
   have:=zM (f:=f) ol r (j+1) (pre++[(j:Int)]) (by
    intro x k
    rcases List.mem_append.1 k with D | D
    ·have:=F x D;omega
    ·simp at D;omega)
   simp only[cond_true,Bool.not_true,Bool.false_eq_true,if_false]
   rw[←this];simp
  | false =>
   have G:(pre++cond false ((j:Int)::LK ol r (j+1)) (LK ol r (j+1))).contains (j:Int)=false:=by
    simp only[cond_false]
    rw[List.contains_eq_mem]
    simp only[decide_eq_false_iff_not,List.mem_append,not_or]
    exact⟨C,fun D=>by have:=A7r ol r (j+1) _ D;omega⟩
   rw[G]
   have:=zM (f:=f) ol r (j+1) pre (by intro x k;have:=F x k;omega)
   simp only[cond_false,Bool.not_false,if_true,List.map_cons]
   rw[this]
theorem aG {N:Nat} {c:CaseD} {o:Bool} {hr:Int} {j:Nat} {p:Kk} {K7:Int→LA→O R} {K9:Int→Int→LA→O R} {K:LA→Int→O R} (hs:Small c N) (hN:4096≤N) (v:PreV c) (h:j<c.outs.l.length):∀ (m q fuel:Nat) (A:List Int),q+m=(Bf c hr).length→m<fuel→A.length≤q →
  A++LK c.outs.l[j].lines.l ((Bf c hr).drop q) q=LK c.outs.l[j].lines.l (Bf c hr) 0 →
  Kh N K7 K9 K (Bf c hr).length (Bf c hr).length o c.av (((Bf c hr).map (I9 c)).flatMap Cc) (Av (Bf c hr)) fuel hr (j:Int) A.length (q:Int) (Dt p) (Av A)=K9 hr ((j+1:Nat):Int) (Dt (Bix c hr j c.outs.l[j] p))
 | 0,q,fuel+1,A,hq,_,hA,k=>by
  rw[Kh];unfold Wr
  have U:=kE hr c.lines.l 0
  have V:=v.nl
  have D:=v.nb
  have G:=hs.out
  have hnn:c.buses.l.length*c.buses.l.length≤32*32:=Nat.mul_le_mul D D
  have I:(Bf c hr).length≤64:=by unfold Bf;omega
  rw[Dz (l:=Bf c hr) (by omega),LK,List.append_nil] at k
  have S:∀ e ∈ (Bf c hr).map (I9 c),e.1<c.buses.l.length∧e.2<c.buses.l.length:=by
   intro e S
   simp only[List.mem_map] at S
   obtain⟨l,Y,rfl⟩:=S
   obtain⟨x,C⟩:=v.lnV Y
   rw[Bc3 C];exact⟨C.f1,C.t1⟩
  rw[Kn (by omega),cf,W3,List.take_of_length_le (by rw[lQ];simp),Nat.mul_one,List.take_of_length_le (by rw[Db];exact Nat.le_refl _),
   Arf (by simp) rfl (by simp;omega) (by simp;omega) (by omega) (by omega) S ⟨by omega,by omega⟩,Ah (by decide),Fu (by have:=G.2;omega)]
  have e1:wz A ((Bf c hr).map (I9 c)) 0=(((Bf c hr).filter fun a=>!c.outs.l[j].lines.l.contains a).map (I9 c)):=by
   rw[k]
   have:=zM (f:=I9 c) c.outs.l[j].lines.l (Bf c hr) 0 [] (by simp)
   simpa using this
  rw[e1]
  have hmono:CC c.buses.l.length ((Bf c hr).map (I9 c))≤CC c.buses.l.length (((Bf c hr).filter fun a=>!c.outs.l[j].lines.l.contains a).map (I9 c)):=Bbk (by
   intro e L
   simp only[List.mem_map,List.mem_filter] at L ⊢
   obtain⟨l,⟨Y,_⟩,rfl⟩:=L
   exact⟨l,Y,rfl⟩)
  have e2:(!decide ((CC c.buses.l.length (((Bf c hr).filter fun a=>!c.outs.l[j].lines.l.contains a).map (I9 c)):Int)>(CC c.buses.l.length ((Bf c hr).map (I9 c)):Int)))=Biw c hr c.outs.l[j]:=by
   unfold Biw
   generalize CC c.buses.l.length ((Bf c hr).map (I9 c))=x at *
   generalize CC c.buses.l.length (((Bf c hr).filter fun a=>!c.outs.l[j].lines.l.contains a).map (I9 c))=y at *
   by_cases hxy:x=y
   ·subst hxy;simp
   ·have a1:((y:Int)==(x:Int))=false:=by simp;omega
    rw[a1];simp;omega
  rw[e2];rfl
 | m+1,q,fuel+1,A,hq,hf,hA,k=>by
  rw[Kh];unfold Wr
  have M:q<(Bf c hr).length:=by omega
  have U:=kE hr c.lines.l 0
  have V:=v.nl
  have I:(Bf c hr).length≤64:=by unfold Bf;omega
  have hm:c.outs.l[j] ∈ c.outs.l:=List.getElem_mem h
  have hd:=hs.oli _ hm
  have b4:∀ (f:LA→Nat→O R),B9 1 (List.drop 1 (List.drop (j*4) (List.flatMap OutD.av c.outs.l))) f=f (Av c.outs.l[j].lines.l) c.outs.l[j].lines.l.length:=fun f=>by rw[Bo Qh _ _ h];simp[OutD.av,Ii,F2]
  have b3:(Nat.ble (A.length+1) 140737488355328&&Nat.ble ((A.length+1)*8) 140737488355328)=true:=by rw[Fm,Fm];simp;omega
  have b5:List.take (A.length*1) (Av A)++[.int .i64 (q:Int)]=Av (A++[(q:Int)]):=A2y (B:=[(q:Int)]) rfl
  rw[Iz M,ct,F',Aa h,ct,Int.toNat_natCast,b4,Aa M,ct,Biu (by simpa using M),Int.toNat_natCast,aF M,Z' rfl hd,b3,ct,b5,Fu (by omega)]
  rw[Bs M,LK] at k
  cases C:c.outs.l[j].lines.l.contains (Bf c hr)[q] with
  | true =>
   rw[C] at k
   have T:=aG (o:=o) (hr:=hr) (j:=j) (p:=p) (K7:=K7) (K9:=K9) (K:=K) hs hN v h m (q+1) fuel (A++[(q:Int)]) (by omega) (by omega) (by simp;omega) (by simpa using k)
   rw[List.length_append] at T
   simpa using T
  | false =>
   rw[C] at k
   have T:=aG (o:=o) (hr:=hr) (j:=j) (p:=p) (K7:=K7) (K9:=K9) (K:=K) hs hN v h m (q+1) fuel A (by omega) (by omega) (by omega) (by simpa using k)
   simpa using T
theorem Ae8 {N:Nat} {c:CaseD} {o:Bool} {hr:Int} {K7:Int→LA→O R} {K:LA→Int→O R} (hs:Small c N) (hN:4096≤N) (v:PreV c):∀ (m j fuel:Nat) (p:Kk),j+m=c.outs.l.length→m<fuel →
  Jt N K7 K (Bf c hr).length (Bf c hr).length o c.av (((Bf c hr).map (I9 c)).flatMap Cc) (Av (Bf c hr)) fuel hr (j:Int) (Dt p)=K7 (IntKind.wrap .i64 (hr+1)) (Dt (Gz (Bix c hr) (c.outs.l.drop j) j p))
 | 0,j,fuel+1,p,k,_=>by
  rw[Jt];unfold Zu
  rw[F',Kn (by omega),cf,Dz (l:=c.outs.l) (by omega),Gz]
 | m+1,j,fuel+1,p,k,I=>by
  rw[Jt];unfold Zu
  have h:j<c.outs.l.length:=by omega
  have C:=kE hr c.lines.l 0
  have D:=v.nl
  have G:=Ae8 (o:=o) (hr:=hr) (K7:=K7) (K:=K) hs hN v m (j+1) fuel (Bix c hr j c.outs.l[j] p) (by omega) (by omega)
  have l10:=aG (R:=R) (N:=N) (c:=c) (o:=o) (hr:=hr) (j:=j) (p:=p) (K7:=K7) (K9:=Jt N K7 K (Bf c hr).length (Bf c hr).length o c.av (((Bf c hr).map (I9 c)).flatMap Cc) (Av (Bf c hr)) fuel) (K:=K) hs hN v h (Bf c hr).length 0 N [] (by omega) (by unfold Bf;omega) (by simp) (by simp)
  rw[F',Iz h,ct,Bs (l:=c.outs.l) h,Gz,←G,←l10]
  rfl
theorem Ae9 {N H:Nat} {c:CaseD} {o:Bool} {K:LA→Int→O R} (hs:Small c N) (hN:4096≤N) (v:PreV c) (hH:c.hours=(H:Int)):∀ (m j fuel:Nat) (p:Kk),j+m=H→m<fuel →
  Ev N K o c.av fuel (j:Int) (Dt p)=K (w3 (ra c m j p)) (I0 (ra c m j p))
 | 0,j,fuel+1,p,k,_=>by
  rw[Ev];unfold S9
  rw[V_,hH,Kn (by omega),A20,ra];rfl
 | m+1,j,fuel+1,p,k,G=>by
  rw[Ev];unfold S9 FS QV
  have I:=v.hours
  rw[V_,hH,Iz (by omega),RF,A20]
  rcases p with _ | ⟨x,e,C⟩
  ·simp only[I0,beq_self_eq_true,cond_true]
   have l9:=Ae8 (R:=R) (N:=N) (c:=c) (o:=o) (hr:=(j:Int)) (K7:=Ev N K o c.av fuel) (K:=K) hs hN v c.outs.l.length 0 N none (by omega) hs.out.1
   rw[Qj,ct,Gg,Bbm hs (fun l D=>v.lnV D)]
   simp only[List.drop_zero,Int.natCast_zero] at l9
   rw[l9,Fu (by omega),Ae9 hs hN v hH m (j+1) fuel _ (by omega) (by omega)];rfl
  ·have F:(e==0)=false:=by simpa using C
   simp only[I0,F,beq_self_eq_true,cond_true,cond_false]
   rw[Ae1]
theorem A7s {N:Nat} {c:CaseD} {o:Bool} {y:(Int×Int×Int)×{ e:Int // e≠0 }} {K:LA→Int→O R} {fuel:Nat}:Ev N K o c.av (fuel+1) 0 (Dt (some y))=K (w3 (some y)) (I0 (some y)):=by
 rw[Ev];unfold S9
 rw[V_,RF,A20]
 have k:(y.2.1==0)=false:=by simpa using y.2.2
 cases decide ((0:Int)<c.hours)<;>simp[I0,k]
theorem Arg {N:Nat} {c:CaseD} {o:Bool} {K:LA→Int→O R} (hs:Small c N) (hN:4096≤N):GT N c.av o K=K (w3 (kH c)) (I0 (kH c)):=by
 rw[ow];unfold ZJ
 have k:[(.int .i64 (0:Int)),(.int .i64 (0:Int)),(.int .i64 (0:Int)),(.int .i64 (0:Int))]=Dt none:=rfl
 rw[Qj,ct,Gg,k,aD hs]
 have l0:=fun p=>Ae2 (R:=R) (N:=N) (c:=c) (o:=o) (K:=K) hs c.buses.l.length 0 N p (by omega) hs.bus.1
 have l2:=fun p=>Ae3 (R:=R) (N:=N) (c:=c) (o:=o) (K:=K) hs c.lines.l.length 0 N p (by omega) hs.lin.1
 have l3:=fun p=>Ae4 (R:=R) (N:=N) (c:=c) (o:=o) (K:=K) hs c.units.l.length 0 N p (by omega) hs.uni.1
 have l4:=fun p=>Ae5 (R:=R) (N:=N) (c:=c) (o:=o) (K:=K) hs c.stores.l.length 0 N p (by omega) hs.sto.1
 have l5:=fun p=>Ae6 (R:=R) (N:=N) (c:=c) (o:=o) (K:=K) hs c.ties.l.length 0 N p (by omega) hs.tie.1
 have l6:=fun p=>Ae7 (R:=R) (N:=N) (c:=c) (o:=o) (K:=K) hs c.outs.l.length 0 N p (by omega) hs.out.1
 simp only[List.drop_zero,Int.natCast_zero] at l0 l2 l3 l4 l5 l6
 try dsimp only
 rw[l0,l2,l3,l4,l5,l6]
 show Ev N K o c.av N 0 (Dt (Biv c))=_
 unfold kH
 cases C:Biv c with
 | some y =>
  rcases N with _ | N
  ·omega
  ·exact A7s
 | none =>
  have v:=Bgf C
  have D:=v.hours
  have:=Ae9 (R:=R) (N:=N) (H:=c.hours.toNat) (c:=c) (o:=o) (K:=K) hs hN v (by omega) c.hours.toNat 0 N none (by omega) (by omega)
  simpa using this
end
end Gx.Cf

namespace Gx.Cf
open Go Go.Proofs
section
variable {R:Type}
theorem Bmh (p:Kk):(w3 p).length=3:=by rcases p with _ | ⟨⟨a,b,f⟩,e⟩<;>rfl
end
end Gx.Cf

namespace Gx.Cf
open Go Go.Proofs
section
variable {R:Type}
theorem Biz (v n:Int) (F:1≤n) (G:n≤4611686018427387904):(IntKind.wrap .u64 n==0)=false∧0≤IntKind.wrap .i64 (Int.tmod (IntKind.wrap .u64 v) (IntKind.wrap .u64 n))∧IntKind.wrap .i64 (Int.tmod (IntKind.wrap .u64 v) (IntKind.wrap .u64 n))<n:=by
 have hn:IntKind.wrap .u64 n=n:=IntWalk.u64_in _ (by omega)
 have k:0≤IntKind.wrap .u64 v:=by rw[IntKind.wrap_u64];omega
 rw[hn]
 have C:0≤Int.tmod (IntKind.wrap .u64 v) n:=Int.tmod_nonneg _ k
 have D:Int.tmod (IntKind.wrap .u64 v) n<n:=Int.tmod_lt_of_pos _ (by omega)
 rw[AF _ (by omega)]
 exact⟨by simp;omega,C,D⟩
theorem nx {N:Nat} {l:List Int} {t o:Bool} (M:l.length≤9223372036854775807) (n:Int) (F:1≤n) (G:n≤4611686018427387904) (k:Nat) (I:k≤l.length) :
  ∃ (v:Int) (C:Nat),0≤v∧v<n∧C≤l.length∧∀ K:Int→Int→O R,Ag N n (Av l) l.length t o (k:Int) K=K v (C:Int):=by
 by_cases h:k<l.length
 ·obtain⟨a1,a2,a3⟩:=Biz l[k] n F G
  refine⟨_,k+1,a2,a3,by omega,fun K=>?_⟩
  rw[Ym];unfold Zi
  have D:IntKind.wrap .i64 ((k:Int)+1)=((k+1:Nat):Int):=by rw[AF _ (by omega)];omega
  have L:IntKind.wrap .i64 (IntKind.wrap .i64 ((k:Int)+1) - 1)=(k:Int):=by rw[D,AF _ (by omega)];omega
  rw[L,D,Aa h,ct,Aq3 h,Ao4];unfold A00
  rw[a1,cf,show decide ((k:Int)≥(l.length:Int))=false by simp;omega,cf]
 ·refine⟨0,k,by omega,by omega,I,fun K=>?_⟩
  rw[Ym];unfold Zi
  rw[show decide ((k:Int)≥(l.length:Int))=true by simp;omega,ct]
theorem Arh {N m:Nat} {l:List Int} {t o:Bool} (G:l.length≤9223372036854775807) (n:Int) (I:1≤n) (L:n≤4611686018427387904) (S:m≤1000):∀ (r j fuel:Nat) (k:Nat) (A:List Int),j+r=m→r<fuel→k≤l.length→A.length=j →
  ∃ (B:List Int) (M:Nat),B.length=r∧(∀ x ∈ B,0≤x∧x<n)∧M≤l.length∧∀ K:Nat→Int→LA→O R,F3 N K (m:Int) n (Av l) l.length t o fuel j (j:Int) (k:Int) (Av A)=K m (M:Int) (Av (A++B))
 | 0,j,fuel+1,k,A,T,_,C,hA=>by
  refine⟨[],k,rfl,by simp,C,fun K=>?_⟩
  rw[F3];unfold O2
  have:j=m:=by omega
  subst this
  rw[Kn (Nat.le_refl _),cf,List.append_nil]
 | r+1,j,fuel+1,k,A,T,hf,C,hA=>by
  obtain⟨v,U,v0,v1,D,V⟩:=nx (R:=R) (N:=N) (t:=t) (o:=o) G n I L k C
  obtain⟨B,Y,b1,b2,b3,b4⟩:=Arh G n I L S r (j+1) fuel U (A++[v]) (by omega) (by omega) D (by simp[hA])
  refine⟨v::B,Y,by simp[b1],?_,b3,fun K=>?_⟩
  ·intro x F
   rcases List.mem_cons.1 F with rfl | F
   ·exact⟨v0,v1⟩
   ·exact b2 x F
  ·rw[F3];unfold O2
   have c3:(Nat.ble (j+1) 140737488355328&&Nat.ble ((j+1)*8) 140737488355328)=true:=by rw[Fm,Fm];simp;omega
   have c5:List.take (j*1) (Av A)++[.int .i64 v]=Av (A++[v]):=A2y (B:=[v]) hA.symm
   rw[Iz (by omega),ct,V,c3,ct,c5,Fu (by omega),b4]
   simp
theorem LL {N m:Nat} {l:List Int} {t o:Bool} (hN:1001≤N) (D:l.length≤9223372036854775807) (n:Int) (F:1≤n) (G:n≤4611686018427387904) (I:m≤1000) (k:Nat) (L:k≤l.length) :
  ∃ (B:List Int) (C:Nat),B.length=m∧(∀ x ∈ B,0≤x∧x<n)∧C≤l.length∧∀ K:Nat→Int→LA→O R,E5 N (m:Int) n (Av l) l.length t o (k:Int) K=K m (C:Int) (Av B):=by
 obtain⟨B,C,M,S,b3,T⟩:=Arh (R:=R) (N:=N) (t:=t) (o:=o) D n F G I m 0 N k [] (by omega) (by omega) L rfl
 refine⟨B,C,M,S,b3,fun K=>?_⟩
 rw[OG];unfold We
 simpa[Av] using T K
theorem zN {N:Nat} {l:List Int} {t o:Bool} (F:l.length≤9223372036854775807) (H:Int) (T:1≤H) (h2:H≤1000) (k:Nat) (U:k≤l.length) :
  ∃ (B:List Int) (G:Nat),B.length≤1∧(∀ x ∈ B,0≤x∧x<H)∧G≤l.length∧∀ K:Nat→Int→LA→O R,Mn N H (Av l) l.length t o (k:Int) K=K B.length (G:Int) (Av B):=by
 obtain⟨v,I,v0,v1,C,L⟩:=nx (R:=R) (N:=N) (t:=t) (o:=o) F 6 (by omega) (by omega) k U
 by_cases M:v=5
 ·obtain⟨u,V,u0,u1,D,Y⟩:=nx (R:=R) (N:=N) (t:=t) (o:=o) F H T (by omega) I C
  refine⟨[u],V,by simp,by intro x S;simp at S;subst S;exact⟨u0,u1⟩,D,fun K=>?_⟩
  rw[Yn];unfold Zj
  rw[L,Y,M];rfl
 ·refine⟨[],I,by simp,by simp,C,fun K=>?_⟩
  rw[Yn];unfold Zj
  have:(v==5)=false:=by simpa using M
  rw[L,this];rfl
def Bn2:List UInt8:=[48,49,50,51,52,53,54,55,56,57,97,98,99,100,101,102]
theorem Vi {N:Nat} {c:UInt8} {i:Nat} (hi:i<16) {K:List UInt8→O R}:OI N [c] (i:Int) K=K [c,Bn2.getD i 0]:=by
 rw[Acx];unfold Ao7
 have e1:Int.tmod (i:Int) 16=(i:Int):=Int.tmod_eq_of_lt (by omega) (by omega)
 rw[e1,Fu (by omega)]
 have c1:(decide ((0:Int)≤(i:Int))&&(decide ((i:Int)≤((i+1:Nat):Int))&&(decide (((i+1:Nat):Int)≤(16:Int))&&decide ((16:Int)≤(16:Int)))))=true:=by simp;omega
 rw[c1,ct]
 simp only[Int.toNat_natCast,Nat.add_sub_cancel_left]
 have:List.take 1 (List.drop i ([48,49,50,51,52,53,54,55,56,57,97,98,99,100,101,102]:List UInt8))=[Bn2.getD i 0]:=by
  rw[Bs (by simpa using hi)]
  simp[Bn2,hi]
 rw[this];rfl
end
end Gx.Cf

namespace Gx.Cf
open Go Go.Proofs
section
variable {R:Type}
theorem Rv {a:Int} (h:-9223372036854775808≤a∧a≤9223372036854775807):IntKind.wrap .i64 a=a:=AF a h
theorem Ja {lo hi n:Int} (h:lo≤n∧n≤hi):Fv lo hi n=true:=by unfold Fv;simp;omega
structure LineG (i:Nat) (fr to H:Int) (x:LineD):Prop where
 name:x.name=[108,Bn2.getD i 0]
 fr:x.fr=fr
 to:x.to=to
 re:(Ul x.re&&decide (x.re.num>0))=true
 smin:(Ul x.smin&&decide (x.smin.num≤0))=true
 smax:(Ul x.smax&&decide (x.smax.num≥0))=true
 lim:Fv 0 1048576 x.limit=true
 em:Fv x.limit 1048576 x.emer=true
 aw:x.away.l.length≤1
 awr:∀ y ∈ x.away.l,0≤y∧y<H
theorem Ayb {f:FracD} (h:1≤f.den∧f.den≤1048576∧-1048576≤f.num∧f.num≤1048576):Ul f=true:=by unfold Ul;rw[Ja (by omega),Ja (by omega)];rfl
theorem Y1 {B:List Int}:List.take (B.length*1) (Av B)=B.flatMap JM:=by rw[Nat.mul_one,List.take_of_length_le (by rw[Db];exact Nat.le_refl _),F2]
theorem Ayc {N:Nat} {l:List Int} {t o:Bool} (D:l.length≤9223372036854775807) {i:Nat} (hi:i<16) (fr to:Int) {H:Int} (hH:1≤H∧H≤24) (k:Nat) (hk:k≤l.length) :
  ∃ (x:LineD) (k':Nat),LineG i fr to H x∧k'≤l.length∧∀ K:LA→Int→O R,Rd N (i:Int) fr to H (Av l) l.length t o (k:Int) K=K x.av (k':Int):=by
 obtain⟨y2,ky2,y20,y21,M,S⟩:=nx (R:=R) (N:=N) (t:=t) (o:=o) D 4 (by omega) (by omega) k hk
 obtain⟨y4,ky4,y40,y41,T,U⟩:=nx (R:=R) (N:=N) (t:=t) (o:=o) D 2 (by omega) (by omega) ky2 M
 obtain⟨y6,ky6,y60,y61,V,Y⟩:=nx (R:=R) (N:=N) (t:=t) (o:=o) D 40 (by omega) (by omega) ky4 T
 obtain⟨y8,ky8,y80,y81,hky8,hy8⟩:=nx (R:=R) (N:=N) (t:=t) (o:=o) D 20 (by omega) (by omega) ky6 V
 obtain⟨y10,ky10,y100,y101,C,F⟩:=nx (R:=R) (N:=N) (t:=t) (o:=o) D 5 (by omega) (by omega) ky8 hky8
 by_cases h4:y10=4
 ·have e4:(y10==4)=true:=by simpa using h4
  obtain⟨y12,ky12,y120,y121,G,hy12⟩:=nx (R:=R) (N:=N) (t:=t) (o:=o) D 4 (by omega) (by omega) ky10 C
  obtain⟨y14,ky14,y140,y141,I,hy14⟩:=nx (R:=R) (N:=N) (t:=t) (o:=o) D 2 (by omega) (by omega) ky12 G
  obtain⟨y16,ky16,y160,y161,L,hy16⟩:=nx (R:=R) (N:=N) (t:=t) (o:=o) D 4 (by omega) (by omega) ky14 I
  obtain⟨B,kB,b1,b2,hkB,hB⟩:=zN (R:=R) (N:=N) (t:=t) (o:=o) D H hH.1 (by omega) ky16 L
  refine⟨⟨[108,Bn2.getD i 0],fr,to,⟨1+y2,1+y4⟩,⟨0 - y12,1+y14⟩,⟨y16,1⟩,4+y6,4+y6+y8,.of B false false⟩,kB,⟨rfl,rfl,rfl,?_,?_,?_,Ja (by simp only;omega),Ja (by simp only;omega),b1,b2⟩,hkB,fun K=>?_⟩
  ·rw[Ayb (by simp only;omega)];simp;omega
  ·rw[Ayb (by simp only;omega)];simp;omega
  ·rw[Ayb (by simp only;omega)];simp;omega
  ·rw[Yo];unfold Zk
   rw[Vi hi,S,U,Y,hy8,F,e4,ct,hy12,hy14,hy16,hB,Y1,Rv (a:=1+y2) (by omega),Rv (a:=1+y4) (by omega),Rv (a:=0 - y12) (by omega),Rv (a:=1+y14) (by omega),Rv (a:=4+y6) (by omega),Rv (a:=4+y6+y8) (by omega)]
   rfl
 ·have e4:(y10==4)=false:=by simpa using h4
  obtain⟨B,kB,b1,b2,hkB,hB⟩:=zN (R:=R) (N:=N) (t:=t) (o:=o) D H hH.1 (by omega) ky10 C
  refine⟨⟨[108,Bn2.getD i 0],fr,to,⟨1+y2,1+y4⟩,⟨0,1⟩,⟨0,1⟩,4+y6,4+y6+y8,.of B false false⟩,kB,⟨rfl,rfl,rfl,?_,?_,?_,Ja (by simp only;omega),Ja (by simp only;omega),b1,b2⟩,hkB,fun K=>?_⟩
  ·rw[Ayb (by simp only;omega)];simp;omega
  ·rw[Ayb (by simp only;omega)];simp
  ·rw[Ayb (by simp only;omega)];simp
  ·rw[Yo];unfold Zk
   rw[Vi hi,S,U,Y,hy8,F,e4,cf,hB,Y1,Rv (a:=1+y2) (by omega),Rv (a:=1+y4) (by omega),Rv (a:=4+y6) (by omega),Rv (a:=4+y6+y8) (by omega)]
   rfl
structure UnitG (i:Nat) (nb H:Int) (u:UnitD):Prop where
 name:u.name=[117,Bn2.getD i 0]
 bus:0≤u.bus∧u.bus<nb
 min:Fv 0 1048576 u.min=true
 max:Fv u.min 1048576 u.max=true
 sl:1≤u.segs.l.length∧u.segs.l.length≤8
 sok:u.segs.l.all Gt=true
 sord:kC u.segs.l=true
 ssum:(aA 0 u.segs.l==IntKind.wrap .i64 (u.max - u.min))=true
 noLoad:Fv 0 1048576 u.noLoad=true
 rampUp:Fv 0 1048576 u.rampUp=true
 rampDown:Fv 0 1048576 u.rampDown=true
 startRamp:Fv u.min u.max u.startRamp=true
 stopRamp:Fv u.min u.max u.stopRamp=true
 upTime:Fv 0 24 u.upTime=true
 downTime:Fv 0 24 u.downTime=true
 startTime:Fv 0 24 u.startTime=true
 hotCost:Fv 0 1048576 u.hotCost=true
 coldCost:Fv 0 1048576 u.coldCost=true
 hotHours:Fv 0 24 u.hotHours=true
 reserve:Fv 0 1048576 u.reserve=true
 reservePrice:Fv 0 1048576 u.reservePrice=true
 aw:u.away.l.length≤1
 awr:∀ y ∈ u.away.l,0≤y∧y<H
 state:Fv 0 2 u.state=true
 starting:(u.state != 1||u.startTime != 0)=true
 hours:Fv 1 48 u.hours=true
 started:(u.state != 1||decide (u.hours≤u.startTime))=true
 output:cond (u.state==2) (Fv u.min u.max u.output) (Fv 0 0 u.output)=true
theorem Ayd {s:SegD}:∀ {S:List SegD},kC S=true→(∀ x ∈ S,x.price≤s.price)→kC (S++[s])=true
 | [],_,_=>Aq7 s
 | [a],_,h=>by
  rw[List.cons_append,List.nil_append,aB,Aq7]
  have:=h a (by simp);simp;omega
 | a::b::r,k,h=>by
  rw[aB] at k
  simp only[Bool.and_eq_true] at k
  rw[List.cons_append,List.cons_append,aB,k.1]
  have:=Ayd (S:=b::r) k.2 (fun x D=>h x (by rcases List.mem_cons.1 D with C | C<;>simp[C]))
  simpa using this
theorem Aye {s:SegD}:∀ {S:List SegD} {a:Int},aA a (S++[s])=IntKind.wrap .i64 (aA a S+s.width)
 | [],a=>rfl
 | x::r,a=>by rw[List.cons_append,aA,aA];exact Aye
theorem Bkh (S:List SegD):(S.flatMap SegD.av).length=S.length*2:=by
 induction S with
 | nil=>rfl
 | cons e r k=>rw[List.flatMap_cons,List.length_append,k,LJ];simp;omega
theorem zO {S:List SegD} {n:Nat} (h:n=S.length):List.take (n*2) (S.flatMap SegD.av)=S.flatMap SegD.av:=List.take_of_length_le (by rw[Bkh,h];exact Nat.le_refl _)
theorem Ayf {N:Nat} {l:List Int} {t o:Bool} (C:l.length≤9223372036854775807) {i:Nat} {nb H bus mn noLoad:Int} (hb:0≤bus∧bus<nb) (hmn:0≤mn∧mn<8) (hno:0≤noLoad∧noLoad<20) (hH:1≤H∧H≤24):∀ (n fuel:Nat) (p:Int) (k:Nat) (M:Int) (S:List SegD),n<fuel→k≤l.length→S.length+n≤2→1≤S.length+n→(∀ x ∈ S,x.price≤p∧Gt x=true)→kC S=true→aA 0 S=M - mn→0≤M - mn→M - mn≤15*S.length→-10≤p→p≤20+10*S.length →
  ∃ (u:UnitD) (k':Nat),UnitG i nb H u∧k'≤l.length∧∀ K:LA→Int→O R,Fq N K H (Av l) l.length t o [117,Bn2.getD i 0] bus mn noLoad fuel p (n:Int) (k:Int) M S.length (S.flatMap SegD.av)=K u.av (k':Int)
 | 0,fuel+1,p,k,M,S,_,hk,hS,hS1,hp,ho,hw,hM0,hM1,_,_=>by
  obtain⟨y16,ky16,y160,y161,G,hy16⟩:=nx (R:=R) (N:=N) (t:=t) (o:=o) C 20 (by omega) (by omega) k hk
  obtain⟨y18,ky18,y180,y181,I,hy18⟩:=nx (R:=R) (N:=N) (t:=t) (o:=o) C 20 (by omega) (by omega) ky16 G
  obtain⟨y20,ky20,y200,y201,L,hy20⟩:=nx (R:=R) (N:=N) (t:=t) (o:=o) C (M - mn+1) (by omega) (by omega) ky18 I
  obtain⟨y22,ky22,y220,y221,T,hy22⟩:=nx (R:=R) (N:=N) (t:=t) (o:=o) C (M - mn+1) (by omega) (by omega) ky20 L
  obtain⟨y24,ky24,y240,y241,U,hy24⟩:=nx (R:=R) (N:=N) (t:=t) (o:=o) C 3 (by omega) (by omega) ky22 T
  obtain⟨y26,ky26,y260,y261,V,hy26⟩:=nx (R:=R) (N:=N) (t:=t) (o:=o) C 3 (by omega) (by omega) ky24 U
  obtain⟨y28,ky28,y280,y281,Y,hy28⟩:=nx (R:=R) (N:=N) (t:=t) (o:=o) C 2 (by omega) (by omega) ky26 V
  obtain⟨y30,ky30,y300,y301,hky30,hy30⟩:=nx (R:=R) (N:=N) (t:=t) (o:=o) C 30 (by omega) (by omega) ky28 Y
  obtain⟨y32,ky32,y320,y321,hky32,hy32⟩:=nx (R:=R) (N:=N) (t:=t) (o:=o) C 30 (by omega) (by omega) ky30 hky30
  obtain⟨y34,ky34,y340,y341,hky34,hy34⟩:=nx (R:=R) (N:=N) (t:=t) (o:=o) C 4 (by omega) (by omega) ky32 hky32
  obtain⟨y36,ky36,y360,y361,hky36,hy36⟩:=nx (R:=R) (N:=N) (t:=t) (o:=o) C 8 (by omega) (by omega) ky34 hky34
  obtain⟨y38,ky38,y380,y381,hky38,hy38⟩:=nx (R:=R) (N:=N) (t:=t) (o:=o) C 4 (by omega) (by omega) ky36 hky36
  obtain⟨B,kB,b1,b2,hkB,hB⟩:=zN (R:=R) (N:=N) (t:=t) (o:=o) C H hH.1 (by omega) ky38 hky38
  obtain⟨y43,ky43,y430,y431,hky43,hy43⟩:=nx (R:=R) (N:=N) (t:=t) (o:=o) C (2+y28) (by omega) (by omega) kB hkB
  obtain⟨y46,ky46,y460,y461,D,hy46⟩:=nx (R:=R) (N:=N) (t:=t) (o:=o) C 4 (by omega) (by omega) ky43 hky43
  have i43:Ac y43 3=true:=Aya y430 (by omega)
  obtain⟨x45,hx45,hst⟩:∃ x45:Int,(∀ f:Int→O R,Ao .i64 (List.drop (0+((Int.toNat y43)*1)) [(.int .i64 (0:Int)),(.int .i64 (2:Int)),(.int .i64 (1:Int))]) f=f x45)∧(x45=0∨x45=2∨(x45=1∧y28=1)):=by
   have e:[(.int .i64 (0:Int)),(.int .i64 (2:Int)),(.int .i64 (1:Int))]=Av [0,2,1]:=rfl
   refine⟨([0,2,1]:List Int).getD y43.toNat 0,fun f=>by rw[e,Biu (by simp;omega)],?_⟩
   have:y43=0∨y43=1∨y43=2:=by omega
   rcases this with rfl | rfl | rfl
   ·left;rfl
   ·right;left;rfl
   ·right;right;exact⟨rfl,by omega⟩
  have wM:IntKind.wrap .i64 (IntKind.wrap .i64 (M - mn)+1)=M - mn+1:=by rw[Rv (a:=M - mn) (by omega),Rv (by omega)]
  have head:∀ K:LA→Int→O R,Fq N K H (Av l) l.length t o [117,Bn2.getD i 0] bus mn noLoad (fuel+1) p ((0:Nat):Int) (k:Int) M S.length (S.flatMap SegD.av) =
    N0 N K (Av l) l.length t o (ky46:Int) [117,Bn2.getD i 0] bus mn M S.length noLoad y16 y18 y24 y26 y28 y30 y34 y36 y38 B.length x45 (S.flatMap SegD.av) (Av B) (mn+y20) (mn+y22) (y30+y32) (cond (x45==1) 1 (1+y46)):=fun K=>by
   rw[Fq];unfold Re
   rw[show decide (((0:Nat):Int)>0)=false from rfl,cf,wM,hy16,hy18,hy20,hy22,hy24,hy26,hy28,hy30,hy32,hy34,hy36,hy38,hB,Rv (a:=2+y28) (by omega),hy43,i43,ct,hx45,hy46,Rv (a:=mn+y20) (by omega),Rv (a:=mn+y22) (by omega),Rv (a:=y30+y32) (by omega),Rv (a:=1+y46) (by omega)]
   cases x45==1<;>rfl
  have hhr:1≤(cond (x45==1) (1:Int) (1+y46))∧(cond (x45==1) (1:Int) (1+y46))≤4:=by cases x45==1<;>simp<;>omega
  have hst1:x45=1→cond (x45==1) (1:Int) (1+y46)=1:=by intro e;subst e;rfl
  have sall:S.all Gt=true:=by rw[List.all_eq_true];exact fun x hx=>(hp x hx).2
  have ssum:(aA 0 S==IntKind.wrap .i64 (M - mn))=true:=by rw[Rv (a:=M - mn) (by omega),hw];simp
  have starting:(x45 != 1||y28 != 0)=true:=by
   rcases hst with h | h | ⟨h,h'⟩
   ·rw[h];rfl
   ·rw[h];rfl
   ·rw[h,h'];rfl
  have started:(x45 != 1||decide ((cond (x45==1) (1:Int) (1+y46))≤y28))=true:=by
   rcases hst with h | h | ⟨h,h'⟩
   ·rw[h];rfl
   ·rw[h];rfl
   ·rw[h,h'];rfl
  have stR:Fv 0 2 x45=true:=Ja (by omega)
  by_cases F:x45=2
  ·obtain⟨y48,ky48,y480,y481,hky48,hy48⟩:=nx (R:=R) (N:=N) (t:=t) (o:=o) C (M - mn+1) (by omega) (by omega) ky46 D
   refine⟨⟨[117,Bn2.getD i 0],bus,mn,M,.of S false false,noLoad,y16,y18,mn+y20,mn+y22,y24,y26,y28,y30,y30+y32,y34,y36,y38,.of B false false,x45,cond (x45==1) 1 (1+y46),mn+y48⟩,ky48,
    ⟨rfl,hb,Ja (by simp only;omega),Ja (by simp only;omega),by simp only[Sl.l];omega,sall,ho,ssum,Ja (by simp only;omega),Ja (by simp only;omega),Ja (by simp only;omega),Ja (by simp only;omega),Ja (by simp only;omega),Ja (by simp only;omega),Ja (by simp only;omega),Ja (by simp only;omega),Ja (by simp only;omega),Ja (by simp only;omega),Ja (by simp only;omega),Ja (by simp only;omega),Ja (by simp only;omega),b1,b2,stR,starting,Ja (by simp only;omega),started,?_⟩,hky48,fun K=>?_⟩
   ·have:(x45==2)=true:=by simpa using F
    simp only[this,cond_true];exact Ja (by omega)
   ·rw[head];unfold N0
    have:(x45==2)=true:=by simpa using F
    rw[this,ct,wM,hy48,Rv (a:=mn+y48) (by omega),zO rfl,Y1]
    rfl
  ·refine⟨⟨[117,Bn2.getD i 0],bus,mn,M,.of S false false,noLoad,y16,y18,mn+y20,mn+y22,y24,y26,y28,y30,y30+y32,y34,y36,y38,.of B false false,x45,cond (x45==1) 1 (1+y46),0⟩,ky46,
    ⟨rfl,hb,Ja (by simp only;omega),Ja (by simp only;omega),by simp only[Sl.l];omega,sall,ho,ssum,Ja (by simp only;omega),Ja (by simp only;omega),Ja (by simp only;omega),Ja (by simp only;omega),Ja (by simp only;omega),Ja (by simp only;omega),Ja (by simp only;omega),Ja (by simp only;omega),Ja (by simp only;omega),Ja (by simp only;omega),Ja (by simp only;omega),Ja (by simp only;omega),Ja (by simp only;omega),b1,b2,stR,starting,Ja (by simp only;omega),started,?_⟩,D,fun K=>?_⟩
   ·have:(x45==2)=false:=by simpa using F
    simp only[this,cond_false];exact Ja (by omega)
   ·rw[head];unfold N0
    have:(x45==2)=false:=by simpa using F
    rw[this,cf,zO rfl,Y1]
    rfl
 | n+1,fuel+1,p,k,M,S,hf,hk,hS,hS1,hp,ho,hw,hM0,hM1,hp0,hp1=>by
  obtain⟨y12,ky12,y120,y121,hky12,hy12⟩:=nx (R:=R) (N:=N) (t:=t) (o:=o) C 15 (by omega) (by omega) k hk
  obtain⟨y14,ky14,y140,y141,hky14,hy14⟩:=nx (R:=R) (N:=N) (t:=t) (o:=o) C 10 (by omega) (by omega) ky12 hky12
  obtain⟨u,k',g1,g2,g3⟩:=Ayf (N:=N) (t:=t) (o:=o) (i:=i) (nb:=nb) (H:=H) (bus:=bus) (mn:=mn) (noLoad:=noLoad) C hb hmn hno hH n fuel (p+y14) ky14 (M+(1+y12)) (S++[(⟨1+y12,p⟩:SegD)]) (by omega) hky14 (by simp;omega) (by simp;omega) (by
   intro x hx
   rcases List.mem_append.1 hx with h | h
   ·have:=hp x h;exact⟨by omega,this.2⟩
   ·simp at h;subst h
    refine⟨by simp only;omega,?_⟩
    unfold Gt;rw[Ja (by simp only;omega),Ja (by simp only;omega)];rfl) (Ayd ho (fun x hx=>(hp x hx).1)) (by rw[Aye,hw,Rv (by simp only;omega)];simp only;omega) (by omega) (by simp;omega) (by omega) (by simp;omega)
  refine⟨u,k',g1,g2,fun K=>?_⟩
  rw[Fq];unfold Re
  have c3:(Nat.ble (S.length+1) 140737488355328&&Nat.ble ((S.length+1)*16) 140737488355328)=true:=by rw[Fm,Fm];simp;omega
  have c5:List.take (S.length*2) (S.flatMap SegD.av)++[.int .i64 (1+y12),.int .i64 p]=(S++[(⟨1+y12,p⟩:SegD)]).flatMap SegD.av:=by rw[zO rfl];simp[SegD.av]
  have wn:IntKind.wrap .i64 (((n+1:Nat):Int) - 1)=(n:Int):=Aq4 (by omega)
  rw[show decide (((n+1:Nat):Int)>0)=true from decide_eq_true (by omega),ct,hy12,c3,ct,hy14,Rv (a:=1+y12) (by omega),Rv (a:=p+y14) (by omega),wn,Rv (a:=M+(1+y12)) (by omega),c5]
  have:=g3 K
  rw[List.length_append] at this
  exact this
theorem Bgg {N:Nat} {l:List Int} {t o:Bool} (hN:8≤N) (D:l.length≤9223372036854775807) {i:Nat} (hi:i<16) {nb H:Int} (hnb:1≤nb∧nb≤1000) (hH:1≤H∧H≤24) (k:Nat) (hk:k≤l.length) :
  ∃ (u:UnitD) (S:Nat),UnitG i nb H u∧S≤l.length∧∀ K:LA→Int→O R,Rf N (i:Int) nb H (Av l) l.length t o (k:Int) K=K u.av (S:Int):=by
 obtain⟨y2,ky2,y20,y21,F,T⟩:=nx (R:=R) (N:=N) (t:=t) (o:=o) D nb (by omega) (by omega) k hk
 obtain⟨y4,ky4,y40,y41,G,U⟩:=nx (R:=R) (N:=N) (t:=t) (o:=o) D 8 (by omega) (by omega) ky2 F
 obtain⟨y6,ky6,y60,y61,I,V⟩:=nx (R:=R) (N:=N) (t:=t) (o:=o) D 20 (by omega) (by omega) ky4 G
 obtain⟨y8,ky8,y80,y81,L,Y⟩:=nx (R:=R) (N:=N) (t:=t) (o:=o) D 20 (by omega) (by omega) ky6 I
 obtain⟨y10,ky10,y100,y101,C,M⟩:=nx (R:=R) (N:=N) (t:=t) (o:=o) D 2 (by omega) (by omega) ky8 L
 obtain⟨n,hn⟩:∃ n:Nat,1+y10=(n:Int):=⟨(1+y10).toNat,by omega⟩
 obtain⟨u,S,g1,g2,g3⟩:=Ayf (R:=R) (N:=N) (l:=l) (t:=t) (o:=o) D (i:=i) (nb:=nb) (H:=H) (bus:=y2) (mn:=y4) (noLoad:=y6) ⟨y20,y21⟩ ⟨y40,y41⟩ ⟨y60,y61⟩ hH n N (y8 - 2) ky10 y4 [] (by omega) C (by simp;omega) (by simp;omega) (by simp) A7m (by simp[aA]) (by omega) (by simp) (by omega) (by simp;omega)
 refine⟨u,S,g1,g2,fun K=>?_⟩
 rw[UA];unfold Zl
 rw[Vi hi,T,U,V,Y,M,Rv (a:=y8 - 2) (by omega),Rv (a:=1+y10) (by omega),hn]
 simpa using g3 K
structure OutG (i:Nat) (nl nu:Nat) (x:OutD):Prop where
 name:x.name=[111,Bn2.getD i 0]
 ll:x.lines.l.length=1∨x.lines.l.length=2
 lr:∀ y ∈ x.lines.l,0≤y∧y<(nl:Int)
 la:Arl x.lines.l=true
 ml:x.moves.l.length≤nu
 mc:((x.moves.l.length:Int)==0||x.corr)=true
 mr:∀ m ∈ x.moves.l,0≤m.unit∧m.unit<(nu:Int)
 ma:Arl (x.moves.l.map (·.unit))=true
 mi:x.moves.l.all Bgb=true
theorem A7t {s:Int}:∀ {S:List Int},Arl S=true→(∀ x ∈ S,x<s)→Arl (S++[s])=true
 | [],_,_=>wt s
 | [a],_,h=>by
  rw[List.cons_append,List.nil_append,VZ,wt]
  have:=h a (by simp);simp;omega
 | a::b::r,k,h=>by
  rw[VZ] at k
  simp only[Bool.and_eq_true] at k
  rw[List.cons_append,List.cons_append,VZ,k.1]
  have:=A7t (S:=b::r) k.2 (fun x D=>h x (by rcases List.mem_cons.1 D with C | C<;>simp[C]))
  simpa using this
theorem Bi0 (S:List MoveD):(S.flatMap MoveD.av).length=S.length*3:=by
 induction S with
 | nil=>rfl
 | cons e r k=>rw[List.flatMap_cons,List.length_append,k,Ru];simp;omega
theorem zP {N:Nat} {l:List Int} {t o:Bool} (M:l.length≤9223372036854775807) {i nl nu:Nat} (T:nu≤16) {B:List Int} (hB1:B.length=1∨B.length=2) (hB2:∀ y ∈ B,0≤y∧y<(nl:Int)) (hB3:Arl B=true):∀ (m j fuel:Nat) (k:Nat) (S:List MoveD),j+m=nu→m<fuel→k≤l.length→S.length≤j→(∀ x ∈ S,0≤x.unit∧x.unit<(j:Int))→Arl (S.map (·.unit))=true→S.all Bgb=true →
  ∃ (x:OutD) (I:Nat),OutG i nl nu x∧I≤l.length∧∀ K:LA→Int→O R,Fc N K (nu:Int) (Av l) l.length t o [111,Bn2.getD i 0] B.length (Av B) fuel (j:Int) (k:Int) S.length (S.flatMap MoveD.av)=K x.av (I:Int)
 | 0,j,fuel+1,k,S,hj,_,hk,hS,hr,Y,hi=>by
  have hju:j=nu:=by omega
  subst hju
  refine⟨⟨[111,Bn2.getD i 0],.of B false false,true,.of S false false⟩,k,⟨rfl,hB1,hB2,hB3,hS,by simp,hr,Y,hi⟩,hk,fun K=>?_⟩
  rw[Fc];unfold Im
  rw[Kn (Nat.le_refl _),cf,Y1,List.take_of_length_le (by rw[Bi0];exact Nat.le_refl _)]
  rfl
 | m+1,j,fuel+1,k,S,hj,hf,hk,hS,hr,Y,hi=>by
  obtain⟨y10,ky10,y100,y101,C,D⟩:=nx (R:=R) (N:=N) (t:=t) (o:=o) M 2 (by omega) (by omega) k hk
  by_cases h1:y10=1
  ·obtain⟨y12,ky12,y120,y121,F,U⟩:=nx (R:=R) (N:=N) (t:=t) (o:=o) M 8 (by omega) (by omega) ky10 C
   obtain⟨y14,ky14,y140,y141,G,V⟩:=nx (R:=R) (N:=N) (t:=t) (o:=o) M 8 (by omega) (by omega) ky12 F
   obtain⟨x,I,g1,g2,g3⟩:=zP (N:=N) (t:=t) (o:=o) (i:=i) (nl:=nl) (nu:=nu) M T hB1 hB2 hB3 m (j+1) fuel ky14 (S++[(⟨j,y12,y14⟩:MoveD)]) (by omega) (by omega) G (by simp;omega) (by
    intro x L
    rcases List.mem_append.1 L with h | h
    ·have:=hr x h;omega
    ·simp at h;subst h;simp only;omega) (by
    rw[List.map_append];exact A7t Y (by
     intro x L
     simp only[List.mem_map] at L
     obtain⟨y,hy,rfl⟩:=L
     exact(hr y hy).2)) (by
    rw[List.all_append,hi]
    simp only[List.all_cons,List.all_nil,Bool.and_true,Bool.true_and]
    unfold Bgb;rw[Ja (by simp only;omega),Ja (by simp only;omega)];rfl)
   refine⟨x,I,g1,g2,fun K=>?_⟩
   rw[Fc];unfold Im
   have e1:(y10==1)=true:=by simpa using h1
   have c3:(Nat.ble (S.length+1) 140737488355328&&Nat.ble ((S.length+1)*24) 140737488355328)=true:=by rw[Fm,Fm];simp;omega
   have c5:List.take (S.length*3) (S.flatMap MoveD.av)++[.int .i64 (j:Int),.int .i64 y12,.int .i64 y14]=(S++[(⟨j,y12,y14⟩:MoveD)]).flatMap MoveD.av:=by
    rw[List.take_of_length_le (by rw[Bi0];exact Nat.le_refl _)];simp[MoveD.av]
   rw[Iz (by omega),ct,D,e1,ct,U,V,c3,ct,c5,Fu (by omega)]
   have:=g3 K
   rw[List.length_append] at this
   exact this
  ·obtain⟨x,I,g1,g2,g3⟩:=zP (N:=N) (t:=t) (o:=o) (i:=i) (nl:=nl) (nu:=nu) M T hB1 hB2 hB3 m (j+1) fuel ky10 S (by omega) (by omega) C (by omega) (by intro x L;have:=hr x L;omega) Y hi
   refine⟨x,I,g1,g2,fun K=>?_⟩
   rw[Fc];unfold Im
   have e1:(y10==1)=false:=by simpa using h1
   rw[Iz (by omega),ct,D,e1,cf,Fu (by omega),g3]
theorem Ayg {N:Nat} {l:List Int} {t o:Bool} (hN:64≤N) (I:l.length≤9223372036854775807) {i nl nu:Nat} (G:nu≤16) {B:List Int} (hB1:B.length=1∨B.length=2) (hB2:∀ y ∈ B,0≤y∧y<(nl:Int)) (hB3:Arl B=true) (k:Nat) (M:k≤l.length) :
  ∃ (x:OutD) (F:Nat),OutG i nl nu x∧F≤l.length∧∀ K:LA→Int→O R,Fd N K (nu:Int) (Av l) l.length t o [111,Bn2.getD i 0] (k:Int) B.length (Av B)=K x.av (F:Int):=by
 obtain⟨y8,ky8,y80,y81,C,D⟩:=nx (R:=R) (N:=N) (t:=t) (o:=o) I 2 (by omega) (by omega) k M
 by_cases L:y8=1
 ·obtain⟨x,F,S,T,U⟩:=zP (R:=R) (N:=N) (t:=t) (o:=o) (i:=i) (nl:=nl) (nu:=nu) I G hB1 hB2 hB3 nu 0 N ky8 [] (by omega) (by omega) C (by simp) (by simp) A2u rfl
  refine⟨x,F,S,T,fun K=>?_⟩
  unfold Fd Mo
  have e1:(y8==1)=true:=by simpa using L
  rw[D,e1,ct]
  simpa using U K
 ·refine⟨⟨[111,Bn2.getD i 0],.of B false false,false,.of [] false false⟩,ky8,⟨rfl,hB1,hB2,hB3,by simp[Sl.l],by simp[Sl.l],by simp[Sl.l],A2u,rfl⟩,C,fun K=>?_⟩
  unfold Fd Mo
  have e1:(y8==1)=false:=by simpa using L
  rw[D,e1,cf,Y1]
  rfl
theorem A7u {N:Nat} {l:List Int} {t o:Bool} (hN:64≤N) (L:l.length≤9223372036854775807) {i nl nu:Nat} (hi:i<16) (hnl:1≤nl∧nl≤1000) (M:nu≤16) (k:Nat) (hk:k≤l.length) :
  ∃ (x:OutD) (C:Nat),OutG i nl nu x∧C≤l.length∧∀ K:LA→Int→O R,Lk N (i:Int) (nl:Int) (nu:Int) (Av l) l.length t o (k:Int) K=K x.av (C:Int):=by
 obtain⟨y2,ky2,y20,y21,S,G⟩:=nx (R:=R) (N:=N) (t:=t) (o:=o) L (nl:Int) (by omega) (by omega) k hk
 obtain⟨y4,ky4,y40,y41,D,I⟩:=nx (R:=R) (N:=N) (t:=t) (o:=o) L (nl:Int) (by omega) (by omega) ky2 S
 have one:∀ k0,k0≤l.length→∃ (x:OutD) (C:Nat),OutG i nl nu x∧C≤l.length∧∀ K:LA→Int→O R,Fd N K (nu:Int) (Av l) l.length t o [111,Bn2.getD i 0] (k0:Int) 1 [.int .i64 y2]=K x.av (C:Int):=fun k0 hk0 =>
  Ayg (i:=i) (nl:=nl) hN L M (B:=[y2]) (.inl rfl) (by intro y T;simp at T;subst T;exact⟨y20,y21⟩) (wt _) k0 hk0
 by_cases h1:y4>y2
 ·obtain⟨y6,ky6,y60,y61,F,U⟩:=nx (R:=R) (N:=N) (t:=t) (o:=o) L 3 (by omega) (by omega) ky4 D
  by_cases h2:y6=2
  ·obtain⟨x,C,V,Y,g3⟩:=Ayg (R:=R) (N:=N) (t:=t) (o:=o) (i:=i) (nl:=nl) (nu:=nu) hN L M (B:=[y2,y4]) (.inr rfl) (by intro y T;simp at T;rcases T with rfl | rfl<;>omega) (by rw[VZ,wt];simp;omega) ky6 F
   refine⟨x,C,V,Y,fun K=>?_⟩
   rw[Mp];unfold Jg
   have e1:decide (y4>y2)=true:=by simpa using h1
   have e2:(y6==2)=true:=by simpa using h2
   rw[Vi hi,G,I,e1,U,e2]
   simpa[Av] using g3 K
  ·obtain⟨x,C,V,Y,g3⟩:=one ky6 F
   refine⟨x,C,V,Y,fun K=>?_⟩
   rw[Mp];unfold Jg
   have e1:decide (y4>y2)=true:=by simpa using h1
   have e2:(y6==2)=false:=by simpa using h2
   rw[Vi hi,G,I,e1,U,e2]
   exact g3 K
 ·obtain⟨x,C,V,Y,g3⟩:=one ky4 D
  refine⟨x,C,V,Y,fun K=>?_⟩
  rw[Mp];unfold Jg
  have e1:decide (y4>y2)=false:=by simpa using h1
  rw[Vi hi,G,I,e1]
  exact g3 K
end
end Gx.Cf

namespace Gx.Cf
open Go Go.Proofs
section
variable {R:Type}
def Auw (f:Bool) (H:Nat) (res:List Int) (bs:List BusD) (ls:List LineD) (us:List UnitD) (ss:List StoreD) (ts:List TieD) (os:List OutD):CaseD :=
 ⟨(H:Int),.of res false f,.of bs false f,.of ls false f,.of us false f,.of ss false f,.of ts false f,.of os false f⟩
structure BusG (i H:Nat) (b:BusD):Prop where
 name:b.name=[98,Bn2.getD i 0]
 dl:b.demand.l.length=H
 dr:∀ x ∈ b.demand.l,0≤x∧x<14
 shed:0≤b.shed∧b.shed<300
structure StoreG (nb:Nat) (x:StoreD):Prop where
 name:x.name=[115,48]
 bus:0≤x.bus∧x.bus<(nb:Int)
 cap:0≤x.capacity∧x.capacity<20
 ini:0≤x.initial∧x.initial≤x.capacity
 fin:0≤x.final∧x.final≤x.capacity
 ch:0≤x.charge∧x.charge<8
 dis:0≤x.discharge∧x.discharge<8
 eff:1≤x.eff.num∧x.eff.num≤4∧x.eff.den=4
structure TieG (nb H:Nat) (x:TieD):Prop where
 name:x.name=[116,48]
 bus:0≤x.bus∧x.bus<(nb:Int)
 il:x.imp.l.length=H
 ir:∀ y ∈ x.imp.l,0≤y∧y<12
 el:x.exp.l.length=H
 er:∀ y ∈ x.exp.l,0≤y∧y<12
 pl:x.price.l.length=H
 pr:∀ y ∈ x.price.l,0≤y∧y<40
structure LineH (nb:Nat) (i:Nat) (H:Int) (x:LineD):Prop where
 g:LineG i x.fr x.to H x
 fr:0≤x.fr∧x.fr<(nb:Int)
 to:0≤x.to∧x.to<(nb:Int)
 ne:x.fr≠x.to
structure BaseG (H:Nat) (res:List Int) (bs:List BusD) (ls:List LineD) (us:List UnitD) (ss:List StoreD) (ts:List TieD):Prop where
 h:1≤H∧H≤3
 rl:res.length=H
 rr:∀ x ∈ res,0≤x∧x<5
 bl:1≤bs.length∧bs.length≤4
 bg:∀ i (h:i<bs.length),BusG i H bs[i]
 ll:ls.length≤7
 lg:∀ i (h:i<ls.length),LineH bs.length i H ls[i]
 ul:1≤us.length∧us.length≤3
 ug:∀ i (h:i<us.length),UnitG i bs.length H us[i]
 sl:ss.length≤1
 sg:∀ x ∈ ss,StoreG bs.length x
 tl:ts.length≤1
 tg:∀ x ∈ ts,TieG bs.length H x
structure OutsG (nl nu:Nat) (os:List OutD):Prop where
 l:os.length≤3
 g:∀ i (h:i<os.length),OutG i nl nu os[i]
theorem Bgh {N:Nat} (hN:4096≤N) {f:Bool} {H:Nat} {C:List Int} {bs:List BusD} {ls:List LineD} {us:List UnitD} {ss:List StoreD} {ts:List TieD} {os:List OutD} (b:BaseG H C bs ls us ss ts) (g:OutsG ls.length us.length os):Small (Auw f H C bs ls us ss ts os) N:=by
 have h:=b.h;have rl:=b.rl;have bl:=b.bl;have ll:=b.ll;have ul:=b.ul;have sl:=b.sl;have tl:=b.tl;have ol:=g.l
 have fit:∀ n:Nat,n≤100→Uk n N:=fun n hn=>⟨by omega,by omega⟩
 refine⟨by omega,fit _ (by simp only[Auw,Sl.l];omega),fit _ (by simp only[Auw,Sl.l];omega),fit _ (by simp only[Auw,Sl.l];omega),fit _ (by simp only[Auw,Sl.l];omega),fit _ (by simp only[Auw,Sl.l];omega),fit _ (by simp only[Auw,Sl.l];omega),fit _ (by simp only[Auw,Sl.l];omega),
  fun x k=>?_,fun x k=>?_,fun x k=>?_,fun x k=>?_,fun x k=>?_,fun x k=>?_,fun x k=>?_,fun x k=>?_,fun x k=>?_,fun x k=>?_,by simp only[Auw,Sl.l];omega⟩
 all_goals simp only[Auw,Sl.l] at k
 ·obtain⟨i,hi,rfl⟩:=List.getElem_of_mem k;have:=(b.bg i hi).dl;exact fit _ (by omega)
 ·obtain⟨i,hi,rfl⟩:=List.getElem_of_mem k;have:=(b.lg i hi).g.aw;exact fit _ (by omega)
 ·obtain⟨i,hi,rfl⟩:=List.getElem_of_mem k;have:=(b.ug i hi).sl;exact fit _ (by omega)
 ·obtain⟨i,hi,rfl⟩:=List.getElem_of_mem k;have:=(b.ug i hi).aw;exact fit _ (by omega)
 ·have:=(b.tg x k).il;exact fit _ (by omega)
 ·have:=(b.tg x k).el;exact fit _ (by omega)
 ·have:=(b.tg x k).pl;exact fit _ (by omega)
 ·obtain⟨i,hi,rfl⟩:=List.getElem_of_mem k;have:=(g.g i hi).ll;exact fit _ (by omega)
 ·obtain⟨i,hi,rfl⟩:=List.getElem_of_mem k;have:=(g.g i hi).ml;exact fit _ (by omega)
 ·obtain⟨i,hi,rfl⟩:=List.getElem_of_mem k;have:=(g.g i hi).ml;omega
theorem Bi1 {α:Type} {e:α→LA} {sz:Nat} (k:∀ a,(e a).length=sz) (l:List α):(l.flatMap e).length=l.length*sz:=by
 induction l with
 | nil=>simp
 | cons a r C=>rw[List.flatMap_cons,List.length_append,C,k,List.length_cons,Nat.add_mul];omega
theorem Cs {α:Type} {e:α→LA} {sz n:Nat} (k:∀ a,(e a).length=sz) (l:List α) (hn:n=l.length):List.take (n*sz) (l.flatMap e)=l.flatMap e:=List.take_of_length_le (by rw[Bi1 k,hn];exact Nat.le_refl _)
theorem Qk {B:List Int} {n:Nat} (h:n=B.length):List.take (n*1) (Av B)=B.flatMap JM:=by rw[h];exact Y1
theorem kI {α:Type} {P:Nat→α→Prop} {l:List α} {x:α} (h:∀ i (h:i<l.length),P i l[i]) (C:P l.length x):∀ i (h:i<(l++[x]).length),P i (l++[x])[i]:=by
 intro i hi
 by_cases k:i<l.length
 ·rw[List.getElem_append_left k];exact h i k
 ·have:i=l.length:=by simp at hi;omega
  subst this
  simpa using C
theorem Bbo {p:Kk} (h:(I0 p==0)=true):p=none:=by
 rcases p with _ | ⟨x,e,k⟩
 ·rfl
 ·simp[I0] at h;exact absurd h k
theorem A21 {N:Nat} {l:List Int} {o:Bool} (hN:4096≤N) (L:l.length≤9223372036854775807) {H:Nat} {C:List Int} {bs:List BusD} {ls:List LineD} {us:List UnitD} {ss:List StoreD} {ts:List TieD} (b:BaseG H C bs ls us ss ts):∀ (n fuel k:Nat) (os:List OutD),n<fuel→k≤l.length→os.length+n≤3→OutsG ls.length us.length os→(os=[]∨kH (Auw true H C bs ls us ss ts os)=none) →
  ∃ D,OutsG ls.length us.length D∧(D=[]∨kH (Auw true H C bs ls us ss ts D)=none)∧∀ K:LA→O R,Iq N K (Av l) l.length o (H:Int) C.length bs.length ls.length us.length ss.length ts.length (Av C) (bs.flatMap BusD.av) (ls.flatMap LineD.av) (us.flatMap UnitD.av) (ss.flatMap StoreD.av) (ts.flatMap TieD.av) fuel (n:Int) (k:Int) os.length (os.flatMap OutD.av)=K (Auw false H C bs ls us ss ts D).av
 | 0,fuel+1,k,os,_,M,_,g,G=>by
  refine⟨os,g,G,fun K=>?_⟩
  rw[Iq];unfold BL
  rw[show decide (((0:Nat):Int)>0)=false from rfl,Qk rfl,Cs V' _ rfl,Cs H4 _ rfl,Cs Rt _ rfl,Cs Qg _ rfl,Cs B' _ rfl,Cs Qh _ rfl]
  rfl
 | n+1,fuel+1,k,os,hf,M,hn,g,G=>by
  by_cases S:ls.length=0
  ·refine⟨os,g,G,fun K=>?_⟩
   rw[Iq];unfold BL
   rw[show decide ((ls.length:Int)>0)=false from decide_eq_false (by omega),show decide (((n+1:Nat):Int)>0)=true from decide_eq_true (by omega),Qk rfl,Cs V' _ rfl,Cs H4 _ rfl,Cs Rt _ rfl,Cs Qg _ rfl,Cs B' _ rfl,Cs Qh _ rfl]
   rfl
  ·have T:=b.ul;have U:=b.ll
   obtain⟨x,I,gx,F,Y⟩:=A7u (R:=R) (N:=N) (t:=false) (o:=o) (by omega) L (i:=os.length) (nl:=ls.length) (nu:=us.length) (by omega) (by omega) (by omega) k M
   have g':OutsG ls.length us.length (os++[x]):=⟨by simp;omega,kI g.g gx⟩
   have sm:=Bgh (f:=true) hN b g'
   have wn:IntKind.wrap .i64 (((n+1:Nat):Int) - 1)=(n:Int):=Aq4 (by omega)
   have step:∀ K:LA→O R,Iq N K (Av l) l.length o (H:Int) C.length bs.length ls.length us.length ss.length ts.length (Av C) (bs.flatMap BusD.av) (ls.flatMap LineD.av) (us.flatMap UnitD.av) (ss.flatMap StoreD.av) (ts.flatMap TieD.av) (fuel+1) ((n+1:Nat):Int) (k:Int) os.length (os.flatMap OutD.av) =
     cond (I0 (kH (Auw true H C bs ls us ss ts (os++[x])))==0)
      (Iq N K (Av l) l.length o (H:Int) C.length bs.length ls.length us.length ss.length ts.length (Av C) (bs.flatMap BusD.av) (ls.flatMap LineD.av) (us.flatMap UnitD.av) (ss.flatMap StoreD.av) (ts.flatMap TieD.av) fuel (n:Int) (I:Int) (os++[x]).length ((os++[x]).flatMap OutD.av))
      (Iq N K (Av l) l.length o (H:Int) C.length bs.length ls.length us.length ss.length ts.length (Av C) (bs.flatMap BusD.av) (ls.flatMap LineD.av) (us.flatMap UnitD.av) (ss.flatMap StoreD.av) (ts.flatMap TieD.av) fuel (n:Int) (I:Int) os.length (os.flatMap OutD.av)):=fun K=>by
    rw[Iq];unfold BL ZM
    have c1:(Nat.ble (0+os.length) 140737488355328&&Nat.ble ((0+os.length)*72) 140737488355328)=true:=by rw[Fm,Fm];simp;omega
    have c2:(Nat.ble ((0+os.length)+1) 140737488355328&&Nat.ble (((0+os.length)+1)*72) 140737488355328)=true:=by rw[Fm,Fm];simp;omega
    have c3:List.take ((0+os.length)*4) (List.take (os.length*4) (os.flatMap OutD.av))++List.take 4 (setCells [(.str ([]:List UInt8)),.nsl,(.bool false),.nsl] 0 (List.take 4 x.av))=(os++[x]).flatMap OutD.av:=by
     rw[Nat.zero_add,Cs Qh _ rfl,Cs Qh _ rfl]
     simp only[List.flatMap_append,List.flatMap_cons,List.flatMap_nil,List.append_nil]
     rfl
    have c4:List.take (((0+os.length)+1)*4) ((os++[x]).flatMap OutD.av)=(os++[x]).flatMap OutD.av:=Cs Qh _ (by simp)
    have c5:(0+os.length)+1=(os++[x]).length:=by simp
    rw[show decide ((ls.length:Int)>0)=true from decide_eq_true (by omega),show decide (((n+1:Nat):Int)>0)=true from decide_eq_true (by omega)]
    simp only[beq_self_eq_true,cond_true]
    rw[Y,show((Nat.beq 0 0)&&((Nat.beq (List.length x.av) 4)&&(Nat.beq 4 4)))=true from rfl,ct,c1,ct,show Nat.ble 4 (List.length x.av)=true from rfl,ct,show((Nat.beq (List.length (List.take 4 x.av)) 4)&&(Nat.ble 4 4))=true from rfl,ct,c2,ct,c3,c4,c5,Qk rfl,Cs V' _ rfl,Cs H4 _ rfl,Cs Rt _ rfl,Cs Qg _ rfl,Cs B' _ rfl]
    refine Eq.trans (Arg (R:=R) (N:=N) (c:=Auw true H C bs ls us ss ts (os++[x])) (o:=true) sm hN) ?_
    rw[Bmh,show((Nat.beq 3 3)&&((Nat.ble 3 3)&&(!false)))=true from rfl,ct,wn]
   cases hq:I0 (kH (Auw true H C bs ls us ss ts (os++[x])))==0 with
   | true =>
    obtain⟨D,a1,a2,a3⟩:=A21 hN L b n fuel I (os++[x]) (by omega) F (by simp;omega) g' (.inr (Bbo hq))
    exact⟨D,a1,a2,fun K=>by rw[step,hq,ct,a3]⟩
   | false =>
    obtain⟨D,a1,a2,a3⟩:=A21 hN L b n fuel I os (by omega) F (by omega) g G
    exact⟨D,a1,a2,fun K=>by rw[step,hq,cf,a3]⟩
end
end Gx.Cf

namespace Gx.Cf
open Go Go.Proofs
section
variable {R:Type}
def xA (c:CaseD):Prop:=∃ (H:Nat) (res:List Int) (bs:List BusD) (ls:List LineD) (us:List UnitD) (ss:List StoreD) (ts:List TieD) (os:List OutD),
 BaseG H res bs ls us ss ts∧OutsG ls.length us.length os∧(os=[]∨kH (Auw true H res bs ls us ss ts os)=none)∧c=Auw false H res bs ls us ss ts os
theorem Bc5 {N:Nat} {l:List Int} {o:Bool} (hN:4096≤N) (F:l.length≤9223372036854775807) {H:Nat} {C:List Int} {bs:List BusD} {ls:List LineD} {us:List UnitD} {ss:List StoreD} {ts:List TieD} (b:BaseG H C bs ls us ss ts) (k:Nat) (G:k≤l.length) :
  ∃ c,xA c∧∀ K:LA→O R,ZN N K (Av l) l.length o (H:Int) C.length bs.length ls.length us.length ss.length (Av C) (bs.flatMap BusD.av) (ls.flatMap LineD.av) (us.flatMap UnitD.av) (ss.flatMap StoreD.av) (k:Int) ts.length (ts.flatMap TieD.av)=K c.av:=by
 obtain⟨y,I,y0,y1,D,L⟩:=nx (R:=R) (N:=N) (t:=false) (o:=o) F 4 (by omega) (by omega) k G
 obtain⟨n,hn⟩:∃ n:Nat,y=(n:Int):=⟨y.toNat,by omega⟩
 subst hn
 obtain⟨os,a1,a2,a3⟩:=A21 (R:=R) (o:=o) hN F b n N I [] (by omega) D (by simp;omega) ⟨by simp,by simp⟩ (.inl rfl)
 refine⟨_,⟨H,C,bs,ls,us,ss,ts,os,b,a1,a2,rfl⟩,fun K=>?_⟩
 unfold ZN jG
 rw[L]
 simpa using a3 K
theorem Bc6 {N:Nat} {l:List Int} {o:Bool} (hN:4096≤N) (G:l.length≤9223372036854775807) {H:Nat} {I:List Int} {bs:List BusD} {ls:List LineD} {us:List UnitD} {ss:List StoreD} (b:BaseG H I bs ls us ss []) (k:Nat) (hk:k≤l.length) :
  ∃ c,xA c∧∀ K:LA→O R,KD N K (bs.length:Int) (Av l) l.length o (H:Int) I.length bs.length ls.length us.length (Av I) (bs.flatMap BusD.av) (ls.flatMap LineD.av) (us.flatMap UnitD.av) (k:Int) ss.length (ss.flatMap StoreD.av)=K c.av:=by
 have hb:=b.bl;have hH:=b.h
 obtain⟨y50,S,y500,y501,D,F⟩:=nx (R:=R) (N:=N) (t:=false) (o:=o) G 3 (by omega) (by omega) k hk
 by_cases h2:y50=2
 ·have V:(y50==2)=true:=by simpa using h2
  obtain⟨y52,Y,y520,y521,T,U⟩:=nx (R:=R) (N:=N) (t:=false) (o:=o) G (bs.length:Int) (by omega) (by omega) S D
  obtain⟨B1,k1,C,b12,hk1,hB1⟩:=LL (R:=R) (N:=N) (m:=H) (t:=false) (o:=o) (by omega) G 12 (by omega) (by omega) (by omega) Y T
  obtain⟨B2,k2,L,b22,hk2,hB2⟩:=LL (R:=R) (N:=N) (m:=H) (t:=false) (o:=o) (by omega) G 12 (by omega) (by omega) (by omega) k1 hk1
  obtain⟨B3,k3,M,b32,hk3,hB3⟩:=LL (R:=R) (N:=N) (m:=H) (t:=false) (o:=o) (by omega) G 40 (by omega) (by omega) (by omega) k2 hk2
  obtain⟨c,g1,g2⟩:=Bc5 (R:=R) (o:=o) hN G (ts:=[⟨[116,48],y52,.of B1 false false,.of B2 false false,.of B3 false false⟩]) ⟨b.h,b.rl,b.rr,b.bl,b.bg,b.ll,b.lg,b.ul,b.ug,b.sl,b.sg,by simp,by
   intro x hx;simp at hx;subst hx
   exact⟨rfl,⟨y520,y521⟩,C,b12,L,b22,M,b32⟩⟩ k3 hk3
  refine⟨c,g1,fun K=>?_⟩
  unfold KD O_
  rw[F,V,ct,U,hB1,hB2,hB3,Qk C.symm,Qk L.symm,Qk M.symm,←g2 K,←C]
  simp only[C]
  have e:List.flatMap TieD.av [⟨[116,48],y52,.of B1 false false,.of B2 false false,.of B3 false false⟩]=[(.str ([116,48]:List UInt8)),(.int .i64 y52),(.imm (B1.flatMap JM) H 1 false false),(.imm (B2.flatMap JM) H 1 false false),(.imm (B3.flatMap JM) H 1 false false)]:=by
   simp[TieD.av,Sl.av,C,L,M]
  rw[e];rfl
 ·have V:(y50==2)=false:=by simpa using h2
  obtain⟨c,g1,g2⟩:=Bc5 (R:=R) (o:=o) hN G b S D
  refine⟨c,g1,fun K=>?_⟩
  unfold KD O_
  rw[F,V,cf,←g2 K];rfl
theorem Bc7 {N:Nat} {l:List Int} {o:Bool} (hN:4096≤N) (C:l.length≤9223372036854775807) {H:Nat} {D:List Int} {bs:List BusD} {ls:List LineD} (h:1≤H∧H≤3) (rl:D.length=H) (rr:∀ x ∈ D,0≤x∧x<5) (bl:1≤bs.length∧bs.length≤4) (bg:∀ i (h:i<bs.length),BusG i H bs[i]) (ll:ls.length≤7) (lg:∀ i (h:i<ls.length),LineH bs.length i H ls[i]) :
  ∀ (n fuel k:Nat) (us:List UnitD),n<fuel→k≤l.length→us.length+n≤3→1≤us.length+n→(∀ i (h:i<us.length),UnitG i bs.length H us[i]) →
  ∃ c,xA c∧∀ K:LA→O R,Qa N K (bs.length:Int) (Av l) l.length o (H:Int) D.length bs.length (Av D) (bs.flatMap BusD.av) fuel (n:Int) (k:Int) ls.length us.length (ls.flatMap LineD.av) (us.flatMap UnitD.av)=K c.av
 | 0,fuel+1,k,us,_,hk,hn,hn1,ug=>by
  obtain⟨y34,I,y340,y341,F,G⟩:=nx (R:=R) (N:=N) (t:=false) (o:=o) C 3 (by omega) (by omega) k hk
  by_cases h2:y34=2
  ·have e2:(y34==2)=true:=by simpa using h2
   obtain⟨y36,k36,y360,y361,L,M⟩:=nx (R:=R) (N:=N) (t:=false) (o:=o) C (bs.length:Int) (by omega) (by omega) I F
   obtain⟨y38,k38,y380,y381,S,T⟩:=nx (R:=R) (N:=N) (t:=false) (o:=o) C 20 (by omega) (by omega) k36 L
   obtain⟨y40,k40,y400,y401,U,V⟩:=nx (R:=R) (N:=N) (t:=false) (o:=o) C 8 (by omega) (by omega) k38 S
   obtain⟨y42,k42,y420,y421,Y,hy42⟩:=nx (R:=R) (N:=N) (t:=false) (o:=o) C 8 (by omega) (by omega) k40 U
   obtain⟨y44,k44,y440,y441,hk44,hy44⟩:=nx (R:=R) (N:=N) (t:=false) (o:=o) C 4 (by omega) (by omega) k42 Y
   obtain⟨y46,k46,y460,y461,hk46,hy46⟩:=nx (R:=R) (N:=N) (t:=false) (o:=o) C (y38+1) (by omega) (by omega) k44 hk44
   obtain⟨y48,k48,y480,y481,hk48,hy48⟩:=nx (R:=R) (N:=N) (t:=false) (o:=o) C (y38+1) (by omega) (by omega) k46 hk46
   obtain⟨c,g1,g2⟩:=Bc6 (R:=R) (o:=o) hN C (us:=us) (ss:=[⟨[115,48],y36,y38,y46,y48,y40,y42,⟨1+y44,4⟩⟩]) ⟨h,rl,rr,bl,bg,ll,lg,⟨by omega,by omega⟩,ug,by simp,by
    intro x hx;simp at hx;subst hx
    exact⟨rfl,⟨y360,y361⟩,⟨y380,y381⟩,⟨y460,by simp only;omega⟩,⟨y480,by simp only;omega⟩,⟨y400,y401⟩,⟨y420,y421⟩,by simp only;omega,by simp only;omega,rfl⟩,by simp,by simp⟩ k48 hk48
   refine⟨c,g1,fun K=>?_⟩
   rw[Qa];unfold BM
   rw[show decide (((0:Nat):Int)>0)=false from rfl,cf,G,e2,ct,M,T,V,hy42,hy44,Rv (a:=y38+1) (by omega),hy46,hy48,Rv (a:=1+y44) (by omega),←g2 K]
   rfl
  ·have e2:(y34==2)=false:=by simpa using h2
   obtain⟨c,g1,g2⟩:=Bc6 (R:=R) (o:=o) hN C (us:=us) (ss:=[]) ⟨h,rl,rr,bl,bg,ll,lg,⟨by omega,by omega⟩,ug,by simp,by simp,by simp,by simp⟩ I F
   refine⟨c,g1,fun K=>?_⟩
   rw[Qa];unfold BM
   rw[show decide (((0:Nat):Int)>0)=false from rfl,cf,G,e2,cf,←g2 K]
   rfl
 | n+1,fuel+1,k,us,hf,hk,hn,hn1,ug=>by
  obtain⟨u,k1,gu,hk1,hu⟩:=Bgg (R:=R) (N:=N) (t:=false) (o:=o) (by omega) C (i:=us.length) (by omega) (nb:=(bs.length:Int)) (H:=(H:Int)) (by omega) (by omega) k hk
  obtain⟨c,g1,g2⟩:=Bc7 (o:=o) hN C h rl rr bl bg ll lg n fuel k1 (us++[u]) (by omega) hk1 (by simp;omega) (by simp;omega) (kI (P:=fun i u=>UnitG i bs.length H u) ug gu)
  refine⟨c,g1,fun K=>?_⟩
  rw[Qa];unfold BM
  have wn:IntKind.wrap .i64 (((n+1:Nat):Int) - 1)=(n:Int):=Aq4 (by omega)
  have c2:(Nat.ble (us.length+1) 140737488355328&&Nat.ble ((us.length+1)*216) 140737488355328)=true:=by rw[Fm,Fm];simp;omega
  have c3:List.take (us.length*22) (us.flatMap UnitD.av)++u.av=(us++[u]).flatMap UnitD.av:=by rw[Cs Rt _ rfl];simp
  rw[show decide (((n+1:Nat):Int)>0)=true from decide_eq_true (by omega),ct,hu,show((Nat.beq (List.length u.av) 22)&&(Nat.ble 22 22))=true from rfl,ct,c2,ct,wn,←g2 K,←c3,List.length_append]
  rfl
theorem Bki {N:Nat} {l:List Int} {o:Bool} (hN:4096≤N) (L:l.length≤9223372036854775807) {H:Nat} {C:List Int} {bs:List BusD} (h:1≤H∧H≤3) (rl:C.length=H) (rr:∀ x ∈ C,0≤x∧x<5) (bl:1≤bs.length∧bs.length≤4) (bg:∀ i (h:i<bs.length),BusG i H bs[i]) :
  ∀ (n fuel k:Nat) (ls:List LineD),n<fuel→k≤l.length→ls.length+n≤7→(∀ i (h:i<ls.length),LineH bs.length i H ls[i]) →
  ∃ c,xA c∧∀ K:LA→O R,Qb N K (bs.length:Int) (Av l) l.length o (H:Int) C.length bs.length (Av C) (bs.flatMap BusD.av) fuel (n:Int) (k:Int) ls.length (ls.flatMap LineD.av)=K c.av:=by
 have fin:∀ (k:Nat) (ls:List LineD),k≤l.length→ls.length≤7→(∀ i (h:i<ls.length),LineH bs.length i H ls[i])→∃ c,xA c∧∀ K:LA→O R,(Ag N (3:Int) (Av l) l.length false o (k:Int) (fun y22 y23=>(Qa N K (bs.length:Int) (Av l) l.length o (H:Int) C.length bs.length (Av C) (bs.flatMap BusD.av) N (IntKind.wrap .i64 ((1:Int)+y22)) y23 ls.length 0 (ls.flatMap LineD.av) [])))=K c.av:=by
  intro k ls I ll lg
  obtain⟨y,V,y0,y1,D,hy⟩:=nx (R:=R) (N:=N) (t:=false) (o:=o) L 3 (by omega) (by omega) k I
  obtain⟨n,hn⟩:∃ n:Nat,1+y=(n:Int):=⟨(1+y).toNat,by omega⟩
  obtain⟨c,F,G⟩:=Bc7 (R:=R) (o:=o) hN L h rl rr bl bg ll lg n N V [] (by omega) D (by simp;omega) (by simp;omega) (by simp)
  refine⟨c,F,fun K=>?_⟩
  rw[hy,Rv (a:=1+y) (by omega),hn]
  simpa using G K
 intro n
 induction n with
 | zero =>
  intro fuel k ls hf I hn lg
  obtain⟨c,F,G⟩:=fin k ls I (by omega) lg
  refine⟨c,F,fun K=>?_⟩
  obtain⟨fuel,rfl⟩:∃ f,fuel=f+1:=⟨fuel - 1,by omega⟩
  rw[Qb];unfold BN
  rw[show decide (((0:Nat):Int)>0)=false from rfl,←G K]
  rfl
 | succ n ih =>
  intro fuel k ls hf I hn lg
  obtain⟨fuel,rfl⟩:∃ f,fuel=f+1:=⟨fuel - 1,by omega⟩
  by_cases hb1:bs.length=1
  ·obtain⟨c,F,G⟩:=fin k ls I (by omega) lg
   refine⟨c,F,fun K=>?_⟩
   rw[Qb];unfold BN
   rw[show decide (((n+1:Nat):Int)>0)=true from decide_eq_true (by omega),show decide ((bs.length:Int)>1)=false from decide_eq_false (by omega),←G K]
   rfl
  ·obtain⟨y26,Y,y260,y261,M,S⟩:=nx (R:=R) (N:=N) (t:=false) (o:=o) L (bs.length:Int) (by omega) (by omega) k I
   obtain⟨y28,k28,y280,y281,T,U⟩:=nx (R:=R) (N:=N) (t:=false) (o:=o) L ((bs.length:Int) - 1) (by omega) (by omega) Y M
   have tm:∃ to:Int,Int.tmod (y26+1+y28) (bs.length:Int)=to∧0≤to∧to<(bs.length:Int)∧y26≠to:=by
    refine⟨_,rfl,Int.tmod_nonneg _ (by omega),Int.tmod_lt_of_pos _ (by omega),?_⟩
    by_cases hlt:y26+1+y28<(bs.length:Int)
    ·rw[Int.tmod_eq_of_lt (by omega) hlt];omega
    ·have:Int.tmod (y26+1+y28) (bs.length:Int)=y26+1+y28 - (bs.length:Int):=by
      have e:y26+1+y28=(y26+1+y28 - (bs.length:Int))+1*(bs.length:Int):=by omega
      rw[Int.tmod_eq_emod_of_nonneg (by omega)]
      conv=>lhs;rw[e]
      rw[Int.add_mul_emod_self_right,Int.emod_eq_of_lt (by omega) (by omega)]
     rw[this];omega
   obtain⟨to,ht,t0,t1,tne⟩:=tm
   obtain⟨x,V,gx,D,hx⟩:=Ayc (R:=R) (N:=N) (t:=false) (o:=o) L (i:=ls.length) (by omega) y26 to (H:=(H:Int)) (by omega) k28 T
   obtain⟨c,F,G⟩:=ih fuel V (ls++[x]) (by omega) D (by simp;omega) (kI (P:=fun i x=>LineH bs.length i H x) lg ⟨by rw[gx.fr,gx.to];exact gx,by rw[gx.fr];exact⟨y260,y261⟩,by rw[gx.to];exact⟨t0,t1⟩,by rw[gx.fr,gx.to];exact tne⟩)
   refine⟨c,F,fun K=>?_⟩
   rw[Qb];unfold BN ZL
   have wn:IntKind.wrap .i64 (((n+1:Nat):Int) - 1)=(n:Int):=Aq4 (by omega)
   have c2:(Nat.ble (ls.length+1) 140737488355328&&Nat.ble ((ls.length+1)*120) 140737488355328)=true:=by rw[Fm,Fm];simp;omega
   have c3:List.take (ls.length*12) (ls.flatMap LineD.av)++x.av=(ls++[x]).flatMap LineD.av:=by rw[Cs H4 _ rfl];simp
   rw[show decide (((n+1:Nat):Int)>0)=true from decide_eq_true (by omega),show decide ((bs.length:Int)>1)=true from decide_eq_true (by omega)]
   simp only[beq_self_eq_true,cond_true]
   rw[S,Rv (a:=(bs.length:Int) - 1) (by omega),U,show((bs.length:Int)==0)=false from beq_eq_false_iff_ne.2 (by omega),cf,Rv (a:=y26+1) (by omega),Rv (a:=y26+1+y28) (by omega),ht,hx,show((Nat.beq (List.length x.av) 12)&&(Nat.ble 12 12))=true from rfl,ct,c2,ct,wn,←G K,←c3,List.length_append]
   rfl
theorem Bc8 {N:Nat} {l:List Int} {o:Bool} (hN:4096≤N) (F:l.length≤9223372036854775807) {H:Nat} {C:List Int} {bs:List BusD} (h:1≤H∧H≤3) (rl:C.length=H) (rr:∀ x ∈ C,0≤x∧x<5) (bl:1≤bs.length∧bs.length≤4) (bg:∀ i (h:i<bs.length),BusG i H bs[i]) :
  ∀ (m j fuel k:Nat) (ls:List LineD),j+1+m=bs.length→m<fuel→k≤l.length→ls.length=j→(∀ i (h:i<ls.length),LineH bs.length i H ls[i]) →
  ∃ c,xA c∧∀ K:LA→O R,Ys N K (Av l) l.length o (H:Int) C.length bs.length (Av C) (bs.flatMap BusD.av) fuel (bs.length:Int) ((j+1:Nat):Int) (k:Int) ls.length (ls.flatMap LineD.av)=K c.av
 | 0,j,fuel+1,k,ls,V,_,I,G,lg=>by
  obtain⟨y,L,y0,y1,D,M⟩:=nx (R:=R) (N:=N) (t:=false) (o:=o) F 5 (by omega) (by omega) k I
  obtain⟨n,hn⟩:∃ n:Nat,y=(n:Int):=⟨y.toNat,by omega⟩
  subst hn
  obtain⟨c,S,T⟩:=Bki (R:=R) (o:=o) hN F h rl rr bl bg n N L ls (by omega) D (by omega) lg
  refine⟨c,S,fun K=>?_⟩
  rw[Ys];unfold O'
  rw[Kn (by omega),cf,M];exact T K
 | m+1,j,fuel+1,k,ls,V,hf,I,G,lg=>by
  obtain⟨y,L,y0,y1,D,M⟩:=nx (R:=R) (N:=N) (t:=false) (o:=o) F ((j+1:Nat):Int) (by omega) (by omega) k I
  obtain⟨x,Y,gx,U,hx⟩:=Ayc (R:=R) (N:=N) (t:=false) (o:=o) F (i:=ls.length) (by omega) y ((j+1:Nat):Int) (H:=(H:Int)) (by omega) L D
  obtain⟨c,S,T⟩:=Bc8 (o:=o) hN F h rl rr bl bg m (j+1) fuel Y (ls++[x]) (by omega) (by omega) U (by simp[G]) (kI (P:=fun i x=>LineH bs.length i H x) lg ⟨by rw[gx.fr,gx.to];exact gx,by rw[gx.fr];omega,by rw[gx.to];omega,by rw[gx.fr,gx.to];omega⟩)
  refine⟨c,S,fun K=>?_⟩
  rw[Ys];unfold O'
  have c2:(Nat.ble (ls.length+1) 140737488355328&&Nat.ble ((ls.length+1)*120) 140737488355328)=true:=by rw[Fm,Fm];simp;omega
  have c3:List.take (ls.length*12) (ls.flatMap LineD.av)++x.av=(ls++[x]).flatMap LineD.av:=by rw[Cs H4 _ rfl];simp
  rw[Iz (by omega),ct,M,hx,show((Nat.beq (List.length x.av) 12)&&(Nat.ble 12 12))=true from rfl,ct,c2,ct,Fu (by omega),←T K,←c3,List.length_append]
  rfl
theorem Bc9 {N:Nat} {l:List Int} {o:Bool} (hN:4096≤N) (L:l.length≤9223372036854775807) {H:Nat} {C:List Int} (h:1≤H∧H≤3) (rl:C.length=H) (rr:∀ x ∈ C,0≤x∧x<5) :
  ∀ (n fuel k:Nat) (bs:List BusD),n<fuel→k≤l.length→bs.length+n≤4→1≤bs.length+n→(∀ i (h:i<bs.length),BusG i H bs[i]) →
  ∃ c,xA c∧∀ K:LA→O R,Nc N K (Av l) l.length o C.length (Av C) fuel (n:Int) (k:Int) (H:Int) bs.length (bs.flatMap BusD.av)=K c.av
 | 0,fuel+1,k,bs,_,Y,hn,hn1,bg=>by
  obtain⟨c,G,I⟩:=Bc8 (R:=R) (o:=o) hN L h rl rr ⟨by omega,by omega⟩ bg (bs.length - 1) 0 N k [] (by omega) (by omega) Y rfl (by simp)
  refine⟨c,G,fun K=>?_⟩
  rw[Nc];unfold BO
  rw[show decide (((0:Nat):Int)>0)=false from rfl,cf,←I K]
  rfl
 | n+1,fuel+1,k,bs,hf,Y,hn,hn1,bg=>by
  obtain⟨B,k1,U,b2,hk1,hB⟩:=LL (R:=R) (N:=N) (m:=H) (t:=false) (o:=o) (by omega) L 14 (by omega) (by omega) (by omega) k Y
  obtain⟨y12,M,y120,y121,D,F⟩:=nx (R:=R) (N:=N) (t:=false) (o:=o) L 2 (by omega) (by omega) k1 hk1
  have wn:IntKind.wrap .i64 (((n+1:Nat):Int) - 1)=(n:Int):=Aq4 (by omega)
  have c2:(Nat.ble (bs.length+1) 140737488355328&&Nat.ble ((bs.length+1)*48) 140737488355328)=true:=by rw[Fm,Fm];simp;omega
  have c3:∀ s:Int,List.take (bs.length*3) (bs.flatMap BusD.av)++[(.str [98,Bn2.getD bs.length 0]),(.imm (B.flatMap JM) H 1 false false),(.int .i64 s)]=(bs++[(⟨[98,Bn2.getD bs.length 0],.of B false false,s⟩:BusD)]).flatMap BusD.av:=fun s=>by
   rw[Cs V' _ rfl];simp[BusD.av,Sl.av,U]
  have go:∀ (s:Int) (kk:Nat),0≤s→s<300→kk≤l.length→∃ c,xA c∧∀ K:LA→O R,Nc N K (Av l) l.length o C.length (Av C) fuel (n:Int) (kk:Int) (H:Int) (bs.length+1) (List.take (bs.length*3) (bs.flatMap BusD.av)++[(.str [98,Bn2.getD bs.length 0]),(.imm (B.flatMap JM) H 1 false false),(.int .i64 s)])=K c.av:=by
   intro s kk s0 s1 hkk
   have gb:BusG bs.length H (⟨[98,Bn2.getD bs.length 0],.of B false false,s⟩:BusD):=⟨rfl,U,b2,s0,s1⟩
   obtain⟨c,G,I⟩:=Bc9 (o:=o) hN L h rl rr n fuel kk (bs++[(⟨[98,Bn2.getD bs.length 0],.of B false false,s⟩:BusD)]) (by omega) hkk (by simp;omega) (by simp;omega) (kI (P:=fun i x=>BusG i H x) bg gb)
   refine⟨c,G,fun K=>?_⟩
   rw[c3,←I K,List.length_append]
   rfl
  by_cases h1:y12=1
  ·have e1:(y12==1)=true:=by simpa using h1
   obtain⟨y14,k14,y140,y141,S,T⟩:=nx (R:=R) (N:=N) (t:=false) (o:=o) L 200 (by omega) (by omega) M D
   obtain⟨c,G,I⟩:=go (100+y14) k14 (by omega) (by omega) S
   refine⟨c,G,fun K=>?_⟩
   rw[Nc];unfold BO
   rw[show decide (((n+1:Nat):Int)>0)=true from decide_eq_true (by omega),ct,Vi (by omega),hB,F,e1,ct,T,c2,ct,wn,Rv (a:=100+y14) (by omega),Qk U.symm,I]
  ·have e1:(y12==1)=false:=by simpa using h1
   obtain⟨c,G,I⟩:=go 0 M (by omega) (by omega) D
   refine⟨c,G,fun K=>?_⟩
   rw[Nc];unfold BO
   rw[show decide (((n+1:Nat):Int)>0)=true from decide_eq_true (by omega),ct,Vi (by omega),hB,F,e1,cf,c2,ct,wn,Qk U.symm,I]
theorem A22 {N:Nat} {l:List Int} {n:Nat} {t o:Bool} (hn:n=l.length) (hN:4096≤N) (k:l.length≤9223372036854775807):∃ c,xA c∧∀ K:LA→O R,lI N (Av l) n t o K=K c.av:=by
 subst hn
 obtain⟨y1,M,y10,y11,C,D⟩:=nx (R:=R) (N:=N) (t:=false) (o:=o) k 3 (by omega) (by omega) 0 (by omega)
 obtain⟨H,hH⟩:∃ H:Nat,1+y1=(H:Int):=⟨(1+y1).toNat,by omega⟩
 obtain⟨B,S,L,T,F,hB⟩:=LL (R:=R) (N:=N) (m:=H) (t:=false) (o:=o) (by omega) k 5 (by omega) (by omega) (by omega) M C
 obtain⟨y6,U,y60,y61,G,I⟩:=nx (R:=R) (N:=N) (t:=false) (o:=o) k 4 (by omega) (by omega) S F
 obtain⟨m,V⟩:∃ m:Nat,1+y6=(m:Int):=⟨(1+y6).toNat,by omega⟩
 obtain⟨c,Y,g2⟩:=Bc9 (R:=R) (o:=o) hN k (H:=H) (by omega) L T m N U [] (by omega) G (by simp;omega) (by simp;omega) (by simp)
 refine⟨c,Y,fun K=>?_⟩
 rw[Adb];unfold vR
 rw[Ao2];unfold A0y
 have z:Ag N 3 (Av l) l.length false o 0=Ag (R:=R) N 3 (Av l) l.length false o ((0:Nat):Int):=rfl
 rw[z,D,Rv (a:=1+y1) (by omega),hH,hB,I,Rv (a:=1+y6) (by omega),V,←g2 K,L]
 rfl
end
end Gx.Cf

namespace Gx
open Go Go.Proofs
section
variable {R:Type}
def Bkj (s:Cf.SegD):SegD:=⟨s.width,s.price⟩
def kJ:Cf.Sl Cf.SegD→Sl SegD
 | .nil=>.nil
 | .of l t o=>.of (l.map Bkj) t o
def zQ:Cf.Sl Int→Sl Int
 | .nil=>.nil
 | .of l t o=>.of l t o
def Bgq (u:Cf.UnitD):UnitD:=⟨u.name,u.bus,u.min,u.max,kJ u.segs,u.noLoad,u.rampUp,u.rampDown,u.startRamp,u.stopRamp,u.upTime,u.downTime,u.startTime,u.hotCost,u.coldCost,u.hotHours,u.reserve,u.reservePrice,zQ u.away,u.state,u.hours,u.output⟩
theorem A7v:∀ l:List Cf.SegD,(l.map Bkj).flatMap SegD.av=l.flatMap Cf.SegD.av
 | []=>rfl
 | a::r=>by rw[List.map_cons,List.flatMap_cons,List.flatMap_cons,A7v r];rfl
theorem Bgi (s:Cf.Sl Cf.SegD):(kJ s).av 2 SegD.av=s.av 2 Cf.SegD.av:=by
 cases s with
 | nil=>rfl
 | of l t o=>simp only[kJ,Sl.av,Cf.Sl.av,A7v,List.length_map]
theorem Bgj (s:Cf.Sl Int):(zQ s).av 1 JM=s.av 1 Cf.JM:=by cases s<;>rfl
theorem Bmi (u:Cf.UnitD):(Bgq u).av=u.av:=by
 unfold UnitD.av Cf.UnitD.av
 rw[show(Bgq u).segs=kJ u.segs from rfl,show(Bgq u).away=zQ u.away from rfl,Bgi,Bgj];rfl
theorem Ari (s:Cf.Sl Cf.SegD):(kJ s).l=s.l.map Bkj:=by cases s<;>rfl
theorem A7w (s:Cf.Sl Int):(zQ s).l=s.l:=by cases s<;>rfl
theorem xB (a b n:Int):Cf.Fv a b n=Ft a b n:=by
 rw[Bool.eq_iff_iff];simp[Cf.Fv,Ft]<;>omega
theorem Ayh:∀ (l:List Cf.SegD) (p:Int),l.all Cf.Gt=true→Cf.kC l=true→(∀ s ∈ l.head?,p≤s.price)→Gt p (l.map Bkj)=true
 | [],_,_,_,_=>rfl
 | [a],p,k,_,C=>by
  simp[Cf.Gt,xB] at k
  have:=C a (by simp)
  simp[Gt,Bkj,k,this]
 | a::b::r,p,k,D,C=>by
  have G:=C a (by simp)
  simp only[List.all_cons,Bool.and_eq_true] at k
  simp only[Cf.kC,Bool.and_eq_true] at D
  have I:=Ayh (b::r) a.price (by simp only[List.all_cons,Bool.and_eq_true];exact k.2) D.2 (by intro s hs;simp at hs;subst hs;have:=D.1;simp at this;exact this)
  have F:=k.1
  simp[Cf.Gt,xB] at F
  rw[List.map_cons,Gt,show(Bkj a).price=a.price from rfl,I]
  simp[Bkj,F,G]
theorem Ayi:∀ (l:List Cf.SegD) (a:Int),l.all Cf.Gt=true→l.length≤100→-1000000000000≤a - 1048576*(100 - (l.length:Int))→(0≤a∧a≤1048576*(100 - (l.length:Int)))→Cf.aA a l=a+eS (l.map Bkj)
 | [],a,_,_,_,_=>by simp[Cf.aA,eS]
 | s::r,a,k,C,D,F=>by
  simp only[List.all_cons,Bool.and_eq_true] at k
  have G:=k.1
  simp[Cf.Gt,xB,Ft] at G
  rw[List.length_cons] at C D F
  rw[Cf.aA,i64 (by omega),Ayi r (a+s.width) k.2 (by omega) (by omega) (by omega),List.map_cons,eS]
  simp[Bkj];omega
theorem Arj {i:Nat} {nb H c:Int} {u:Cf.UnitD} (g:Cf.UnitG i nb H u) (hH:1≤H∧H≤c) (hc:c≤24):C7 (Bgq u) c=true:=by
 have e:=g
 obtain⟨_,_,h1,h2,h3,h4,h5,h6,h7,h8,h9,C,D,F,G,I,L,M,S,T,U,h20,h21,V,_,Y,h25,k⟩:=e
 simp only[xB] at h1 h2 h7 h8 h9 C D F G I L M S T U V Y k
 have hw:=Ayi u.segs.l 0 h4 (by omega) (by omega) (by omega)
 have hm1:=h1;have hm2:=h2
 simp only[Ft,Bool.and_eq_true,decide_eq_true_eq] at hm1 hm2
 have hsum:eS (Bgq u).segs.l=u.max - u.min:=by
  have:Cf.aA 0 u.segs.l=IntKind.wrap .i64 (u.max - u.min):=by simpa using h6
  rw[hw,i64 (by omega)] at this
  show eS (kJ u.segs).l=_
  rw[Ari];omega
 have hseg:Gt (-1048576) (Bgq u).segs.l=true:=by
  show Gt _ (kJ u.segs).l=true
  rw[Ari]
  refine Ayh _ _ h4 h5 fun s hs=>?_
  have hs':s ∈ u.segs.l:=List.mem_of_mem_head? hs
  have:=List.all_eq_true.1 h4 s hs'
  simp[Cf.Gt,xB,Ft] at this;omega
 have hlen:(Bgq u).segs.l.length≤8:=by
  show(kJ u.segs).l.length≤8
  rw[Ari,List.length_map];omega
 have haw:CO (c - 1) (-1) (Bgq u).away.l=true:=by
  show CO _ _ (zQ u.away).l=true
  rw[A7w]
  cases hl:u.away.l with
  | nil=>rfl
  | cons x r =>
   have hr:r=[]:=by
    have:=h20;rw[hl] at this;simp at this;exact this
   subst hr
   have:=h21 x (by rw[hl];simp)
   simp[CO,Ft];omega
 have hst:Cq (Bgq u)=true:=by
  unfold Cq
  show(Ft 0 24 u.upTime&&(Ft 0 24 u.downTime&&(Ft 0 24 u.startTime&&(Ft 0 24 u.hotHours&&((u.state==0||(u.state==1||u.state==2))&&(Ft 1 48 u.hours&&(!(u.state==1)||decide (u.hours≤u.startTime))))))))=true
  have hs3:(u.state==0||(u.state==1||u.state==2))=true:=by
   simp only[Ft,Bool.and_eq_true,decide_eq_true_eq] at V
   simp;omega
  rw[F,G,I,S,Y,hs3]
  exact h25
 have hsB:oU (Bgq u)=true:=by
  unfold oU;rw[hseg,hsum];simp[hlen];rfl
 have hoB:A96 (Bgq u)=true:=by
  unfold A96
  show cond (u.state==2) (Ft u.min u.max u.output) (u.output==0)=true
  cases hb:(u.state==2) with
  | true=>rw[hb] at k;exact k
  | false=>rw[hb] at k;simp[Ft] at k;simp;omega
 have hmx:Ft 0 1048576 u.max=true:=by simp[Ft];omega
 have hle:decide (u.min≤u.max)=true:=by simp;omega
 have hcc:Ft 1 24 c=true:=by simp[Ft];omega
 unfold C7
 rw[hst,haw,hsB,hoB]
 show(Ft 1 24 c&&(true&&(Ft 0 1048576 u.min&&(Ft 0 1048576 u.max&&(Ft 0 1048576 u.rampUp&&(Ft 0 1048576 u.rampDown&&(Ft 0 1048576 u.reserve&&(decide (u.min≤u.max)&&(Ft u.min u.max u.startRamp&&(Ft u.min u.max u.stopRamp&&(Ft 0 1048576 u.noLoad&&(Ft 0 1048576 u.hotCost&&(Ft 0 1048576 u.coldCost&&(Ft 0 1048576 u.reservePrice&&(true&&(true&&true))))))))))))))))=true
 rw[hcc,h1,hmx,h8,h9,T,hle,C,D,h7,L,M,U];rfl
theorem Bbp {N:Nat} {X:O R} {K:LA→Int→O R} {l:List Int} {n:Nat} {t o:Bool} (hn:n=l.length) (hN:4096≤N) (D:l.length≤9223372036854775807)
  (h:∀ (u:UnitD) (H:Int),1≤H→H≤3→C7 u H=true→C7 u 24=true→u.away.l.length≤1→K u.av H=X):vS N (Av l) n t o K=X:=by
 rw[Add];unfold Apz
 obtain⟨c,G,e⟩:=Cf.A22 (R:=R) (N:=N) (l:=l) (n:=n) (t:=false) (o:=o) hn hN D
 rw[show Av l=Cf.Av l from rfl,e]
 obtain⟨H,C,bs,ls,us,ss,ts,os,hB,_,_,rfl⟩:=G
 obtain⟨u0,k,rfl⟩:∃ u0 k,us=u0::k:=by
  cases us with
  | nil=>have:=hB.ul;simp at this
  | cons a r=>exact⟨a,r,rfl⟩
 have g:=hB.ug 0 (by simp)
 simp only[List.getElem_cons_zero] at g
 have hH:=hB.h
 have:=h (Bgq u0) (H:Int) (by omega) (by omega) (Arj g (by omega) (by omega)) (Arj g (by omega) (by omega)) (by show(zQ u0.away).l.length≤1;rw[A7w];exact g.aw)
 rw[Bmi] at this
 refine Eq.trans ?_ this
 rw[show List.drop 4 (Cf.Auw false H C bs ls (u0::k) ss ts os).av=(Cf.Sl.of (u0::k) false false).av 22 Cf.UnitD.av::List.drop 5 (Cf.Auw false H C bs ls (u0::k) ss ts os).av from rfl,Cf.Ii]
 rw[show(Cf.Sl.of (u0::k) false false).l=u0::k from rfl,List.flatMap_cons,show Ac (0:Int) (u0::k).length=true from Aa (i:=0) (by simp),show Nat.ble 22 (List.length (u0.av++k.flatMap Cf.UnitD.av))=true from rfl,show List.take 22 (u0.av++k.flatMap Cf.UnitD.av)=u0.av from rfl]
 rw[show ∀ F:Int→O R,Ao .i64 (Cf.Auw false H C bs ls (u0::k) ss ts os).av F=F (H:Int) from fun F=>A1]
 rfl
end
end Gx

namespace Gx
open Go Go.Proofs
open IntKind (wrap)
set_option maxRecDepth 100000
noncomputable section
variable {R:Type} (N:Nat)
def Rw (r0:Nat→LA→O R) (c:LA) (b:Nat) (f g:Bool) (d:Int) (k0:Nat→Int→LA→O R) (e:Nat) (i:Int) (l:LA):O R :=
 (cond (decide (i<d)) (cond (decide (i<((b:Nat):Int))) (cond (Ac i b) (Ao .i64 (c.drop ((i.toNat)*1)) fun p=>(Qw N p 61 (fun q=>(YD N (wrap .i64 (q - 20)) 2 (fun m=>(cond ((Nat.beq (m.length) 3)&&(Nat.ble 3 3)) (cond ((Nat.ble (e+1) 140737488355328)&&(Nat.ble ((e+1)*56) 140737488355328)) (k0 (e+1) (wrap .i64 (i+1)) ((l.take (e*3))++((setCells [(.bool false),.nsl,.nsl] 0 m).take 3))) none) none)))))) none) (YD N 0 2 (fun o=>(cond ((Nat.beq (o.length) 3)&&(Nat.ble 3 3)) (cond ((Nat.ble (e+1) 140737488355328)&&(Nat.ble ((e+1)*56) 140737488355328)) (k0 (e+1) (wrap .i64 (i+1)) ((l.take (e*3))++((setCells [(.bool false),.nsl,.nsl] 0 o).take 3))) none) none)))) (r0 e l))
def Fs (r0:Nat→LA→O R) (c:LA) (b:Nat) (f g:Bool) (d:Int):Nat→Nat→Int→LA→O R
 | 0,_,_,_=>none
 | n+1,e,i,l=>(Rw N r0 c b f g d (Fs r0 c b f g d n) e i l)
def AC (N:Nat) (r0:Nat→LA→O R) (q0:Nat→Int→LA→O R) (c:LA) (b:Nat) (f g:Bool) (d:Int):O R :=
 (q0 0 0 [])
def Nl:=(Ae (fun (N:Nat) (c:LA) (b:Nat) (f g:Bool) (d:Int) (r0:Nat→LA→O R)=>(AC N r0 (fun e i l=>(Fs N r0 c b f g d N e i l)) c b f g d))).1
theorem WE (c b f g d r0):(@Nl R N c b f g d r0)=(AC N r0 (fun e i l=>(Fs N r0 c b f g d N e i l)) c b f g d):=by rw[Nl,(Ae _).2]
def eN:Hints:={ H:=(hS hL (hS hL (hS (hS hL (hS (hP [0,1,5,6] hL) hL)) hL))),nils:=[(4,3),(5,3)],modes:=[(2,3)] }
def kK:Dg:=[(12,XL N),(19,Awz N)]
def Ahf (F:KF R):=Hp Tryz.f40 eN (kK N) [] N F
def N6 (F:KF R):Nat→LA→O R:=(fun r s=>F (.own 300000 0 r) (hq [(bQ 3 s)]))
def Ahg (c:LA) (b:Nat) (f g:Bool) (d:Int) (e:Nat) (i:Int) (l:LA):St:=⟨[(0,(.imm c b 1 f g)),(1,(iv d)),(5,(.own 300000 0 e)),(6,(iv i))],(hq [(bQ 3 l)])⟩
def Ahh (F:KF R):=Ahf N F [1,1,0,1,0] []
theorem LM (F:KF R) (c:LA) (b:Nat) (f g:Bool) (d:Int):∀ (n e:Nat) (i:Int) (l:LA),Ap (Ahh N F) n (Ahg c b f g d e i l)=(Fs N (N6 F) c b f g d n e i l)
 | 0,_,_,_=>by kernel_rfl
 | n+1,e,i,l=>Eq.trans (by kernel_rfl) (Bm (Rw N (N6 F) c b f g d · e i l) (funext fun e=>funext fun i=>funext fun l=>(LM F c b f g d n e i l)):_)
theorem eO (c:LA) (b:Nat) (f g:Bool) (d:Int) (F:KF R):Cd (kK N) eN N 40 [(.imm c b 1 f g),(iv d)] [] F=(Nl N c b f g d (N6 F)):=by
 rw[WE]
 exact Eq.trans (by kernel_rfl) (Bm (AC N (N6 F) · c b f g d) (funext fun e=>funext fun i=>funext fun l=>(Ai ..).trans (LM N F c b f g d N e i l)):_)
def WF (a:LA) (h:Ak) (k:KF R):O R :=
 match a,h with
 | [(.imm c b 1 f g),(.int .i64 d)],[]=>(Nl N c b f g d (N6 k))
 | _,_=>none
theorem eP:An N 40 @WF:=by
 intro R Q a h k j;unfold WF;split;exact Ax (eO ..) (eO ..) ⟨XM N,Aw0 N,trivial⟩;exact Az
def Ahi:=Ay (eP N)
def Ahj:=Ca (eP N)
end
end Gx

namespace Gx
open Go Go.Proofs
set_option maxRecDepth 100000
section
variable {R:Type}
def A7z (ks A B:List Int):PlanD:=Bnd ks (A.map rq) (B.map rq) false false false
theorem Bi2 {ks A B:List Int} {n:Nat} (k:n=ks.length) (C:A.length=n) (D:B.length=n):[AV.imm (Av ks) n 1 false false,.imm (zG A) n 3 false false,.imm (zG B) n 3 false false]=(A7z ks A B).av:=by
 unfold A7z;rw[←Bip,List.length_map,List.length_map,C,D,k];rfl
theorem Bkk (p:PlanD):((Nat.beq 0 0)&&((Nat.beq (List.length p.av) 3)&&(Nat.beq 3 3)))=true:=rfl
theorem Bkl {N:Nat} {X:O R} {K:LA→Bool→O R} {u:UnitD} {raw:List Int} {h:Int} {n:Nat} {b g f:Bool} (hn:n=raw.length) (k:u.away.l.length≤1000) (hN:4096≤N) (hs:Cq u=true) (C:0≤h∧h≤1000)
  (D:K (A7z [] [] []).av false=X) (F:∀ ks A B,ks.length≤1000→rY u h ks=0→GdA u ks ks.length ks.length A B→K (A7z ks A B).av true=X):jw N u.av b h (Av raw) n g f K=X:=by
 rw[wm];unfold zE
 rw[Cl,ct,Bg]
 refine Bf8 hn k (by omega) hs C fun ks I=>?_
 rw[ct]
 refine Auu hn rfl k (by omega) hN (fun _=>?_) (fun G A B g=>?_)
 ·rw[show [AV.imm [] 0 1 false false,.imm [] 0 3 false false,.imm [] 0 3 false false]=(A7z [] [] []).av from Bi2 (ks:=[]) (A:=[]) (B:=[]) rfl rfl rfl,Bkk,ct,Bgn,ct,Bgo]
  exact D
 ·rw[Bi2 rfl g.1 g.2.1,Bkk,ct,Bgn,ct,Bgo]
  exact F ks A B (by omega) G g
theorem Bbq {N:Nat} {c f:LA} {a b:Nat} {d e g i:Bool} {K:Bool→O R}:jn N c a d e f b g i K=K (decide (a≤200)&&decide (b≤200)):=by
 rw[wU];unfold zC
 have e1:decide (((a:Nat):Int)≤200)=decide (a≤200):=by rw[decide_eq_decide];omega
 have k:decide (((b:Nat):Int)≤200)=decide (b≤200):=by rw[decide_eq_decide];omega
 rw[e1,k]
 cases decide (a≤200)<;>cases decide (b≤200)<;>rfl
end
end Gx

namespace Gx
open Go Go.Proofs
set_option maxRecDepth 100000
theorem Bmj (v:Int):(rq v).q=(v:Rat):=A5w _
theorem Blb (a b:Int):decide ((a:Rat)≤(b:Rat))=decide (a≤b):=by rw[decide_eq_decide];exact Rat.intCast_le_intCast
section
variable {u:UnitD} {ks:List Int} {n:Nat} {A B:List Int}
theorem Bbr {on:Bool} {p r:Int} (k:on=true→u.min≤p∧0≤r∧r≤u.reserve∧p+r≤u.max) (C:on=false→p=0∧r=0):CQ u on (p:Rat) (r:Rat)=true:=by
 unfold CQ Bcr
 cases on with
 | true =>
  obtain⟨a,b,c,d⟩:=k rfl
  rw[cond_true,←Rat.intCast_add,Blb,Blb,Blb,Blb,decide_eq_true a,decide_eq_true b,decide_eq_true c,decide_eq_true d];rfl
 | false=>obtain⟨rfl,rfl⟩:=C rfl;rfl
theorem Bgk {was on:Bool} {v p r:Int} (k:on=true→was=true→p+r - v≤u.rampUp∧v - p≤u.rampDown) (C:on=true→was=false→p+r≤u.startRamp) (D:on=false→was=true→v≤u.stopRamp):jj u was on (v:Rat) (p:Rat) (r:Rat)=true:=by
 unfold jj
 rw[←Rat.intCast_add,←Rat.intCast_sub,←Rat.intCast_sub,Blb,Blb,Blb,Blb]
 cases on with
 | true =>
  cases was with
  | true=>obtain⟨a,b⟩:=k rfl rfl;rw[decide_eq_true a,decide_eq_true b];rfl
  | false=>have a:=C rfl rfl;rw[decide_eq_true a];rfl
 | false =>
  cases was with
  | true=>have a:=D rfl rfl;rw[decide_eq_true a];rfl
  | false=>rfl
theorem Bda {h:Int} (k:rY u h ks=0):C7 u h=true∧(ks.length:Int)=h∧(Cz u 0 (Br u) ks).2=true∧(u.state=2→Ei ks 0=false→u.output≤u.stopRamp)∧Oo u ks ks.length=false:=by
 unfold rY at k
 cases F:C7 u h with
 | false=>rw[F] at k;simp at k
 | true =>
  rw[F] at k
  simp only[Bool.not_true,cond_false] at k
  cases C:((ks.length:Int) != h) with
  | true=>rw[C] at k;simp at k
  | false =>
   rw[C] at k
   cases G:(Cz u 0 (Br u) ks).2 with
   | false=>rw[G] at k;simp at k
   | true =>
    rw[G] at k
    cases D:((u.state==2&&!Ei ks 0)&&decide (u.output>u.stopRamp)) with
    | true=>rw[D] at k;simp at k
    | false =>
     rw[D] at k
     cases I:Oo u ks ks.length with
     | true=>rw[I] at k;simp at k
     | false =>
      refine⟨rfl,by simpa using C,rfl,fun L M=>?_,rfl⟩
      rw[show(u.state==2)=true by simpa using L,M] at D
      simp at D;exact D
theorem GA {l:List Int} {h:Nat} (k:h<l.length):l.getD h 0=l[h]:=by rw[List.getD_eq_getElem?_getD,List.getElem?_eq_getElem k];rfl
theorem A7x {H:Int} {EN RE:List RatD} (M:rY u H ks=0) (hn:n=ks.length) (g:GdA u ks n n A B) (hE:EN.length=n) (hR:RE.length=n) (qE:∀ i (h:i<EN.length),EN[i].q=((A.getD i 0:Int):Rat)) (qR:∀ i (h:i<RE.length),RE[i].q=((B.getD i 0:Int):Rat)):∀ (m h:Nat) (s:StD),h+m=n→(Cz u h s (ks.drop h)).2=true→Ax2 u h s (Tc u ks h) (A7k u A h:Rat) (ks.drop h) (EN.drop h) (RE.drop h)=((n:Int),0)
 | 0,h,s,Y,_=>by
  rw[Dz (l:=ks) (by omega),Ax2,show n=h by omega]
  intro k ks e es r rs I;cases I
 | m+1,h,s,Y,F=>by
  obtain⟨hv,S,_,L,hf⟩:=Bda M
  have ok:=jx hv
  rw[←hn] at hf
  have I:h<ks.length:=by omega
  have T:h<EN.length:=by omega
  have U:h<RE.length:=by omega
  have gd:=g.2.2 h (by omega)
  have r3:=A2e (ks:=ks) ok h
  have r1:=A2f (ks:=ks) (n:=n) ok (n - 1 - h) h (by omega)
  have r2:=A6s (ks:=ks) (n:=n) ok h
  rw[Bs I] at F ⊢
  rw[Bs T,Bs U,Ax2]
  rw[Cz] at F
  cases hs:Wy u h s ks[h] with
  | none=>rw[hs] at F;simp at F
  | some t =>
   rw[hs] at F
   dsimp only at F ⊢
   rw[qE h T,qR h U,←Ro I]
   rw[Bbr (fun D=>by have:=gd.on D;have:=r3.2.2.2.2 D;omega) (fun D=>gd.off D),cond_true]
   rw[Bgk (fun D C=>gd.was D C) (fun D C=>gd.st D C) (fun D C=>by
    cases h with
    | zero=>exact L (by simpa[Tc] using C) D
    | succ q =>
     have G:Ei ks q=true:=C
     have g1:=(g.2.2 q (by omega)).on G
     have V:=A2f (ks:=ks) (n:=n) ok (n - 1 - q) q (by omega)
     have e:KW u ks n q=⟨(ei u ks q).lo,By (ei u ks q).hi u.stopRamp⟩:=by unfold KW;rw[G,D,show decide (q+1<n)=true by simp;omega];rfl
     rw[e] at V
     simp only[Jx] at V
     show A.getD q 0≤_
     omega),cond_true]
   exact A7x M hn g hE hR qE qR m (h+1) t (by omega) (by exact F)
theorem Bmk {H:Int} {p:PlanD} (C:rY u H ks=0) (g:GdA u ks ks.length ks.length A B) (D:p.st.l=ks) (hE:p.en.l.length=ks.length) (hR:p.re.l.length=ks.length) (qE:∀ i (h:i<p.en.l.length),p.en.l[i].q=((A.getD i 0:Int):Rat)) (qR:∀ i (h:i<p.re.l.length),p.re.l[i].q=((B.getD i 0:Int):Rat)):ej u H p=(H,0):=by
 obtain⟨F,k,G,_,_⟩:=Bda C
 unfold ej Aeq
 rw[F,D,hE,hR,decide_eq_true k]
 have:=A7x (n:=ks.length) C rfl g hE hR qE qR ks.length 0 (Br u) (by omega) (by simpa using G)
 simp only[List.drop_zero] at this
 rw[k] at this
 exact this
theorem Bkm {H:Int} (k:rY u H ks=0) (g:GdA u ks ks.length ks.length A B):ej u H (A7z ks A B)=(H,0) :=
 Bmk k g rfl (by show(A.map rq).length=_;rw[List.length_map,g.1]) (by show(B.map rq).length=_;rw[List.length_map,g.2.1])
  (fun i h=>by
   have h':i<A.length:=by simpa[A7z,Bnd,Sl.l] using h
   rw[GA h']
   show((A.map rq)[i]'(by simpa using h')).q=_
   rw[List.getElem_map,Bmj])
  (fun i h=>by
   have h':i<B.length:=by simpa[A7z,Bnd,Sl.l] using h
   rw[GA h']
   show((B.map rq)[i]'(by simpa using h')).q=_
   rw[List.getElem_map,Bmj])
theorem Bkn {H:Int} (G:rY u H ks=0) (g:GdA u ks ks.length ks.length A B):okR (A7z ks A B).en.l∧okR (A7z ks A B).re.l:=by
 obtain⟨C,D,_,_,_⟩:=Bda G
 have ok:=jx C
 have F:=(Ng C).2.1
 have key:∀ (l:List Int),(∀ x ∈ l,0≤x∧x≤1048576)→okR (l.map rq):=by
  intro l I x k
  obtain⟨v,C,rfl⟩:=List.mem_map.1 k
  have:=I v C
  rw[Bmj];exact Bio (by omega)
 constructor
 ·refine key A fun x k=>?_
  obtain⟨i,hi,rfl⟩:=List.getElem_of_mem k
  have:=g.1
  have:=((g.2.2 i (by omega)).rng ok F (by omega)).1
  rwa [GA hi] at this
 ·refine key B fun x k=>?_
  obtain⟨i,hi,rfl⟩:=List.getElem_of_mem k
  have:=g.2.1
  have:=((g.2.2 i (by omega)).rng ok F (by omega)).2
  rwa [GA hi] at this
end
end Gx

namespace Gx
open Go Go.Proofs
set_option maxRecDepth 100000
section
variable {R:Type}
theorem Bml {v:Int} (h:-9223372036854775808≤v∧v≤9223372036854775807):qm (mkRat v 2)≤2:=Bh4 v 2 2 (by omega) (by omega) (by omega)
end
end Gx

namespace Gx
open Go Go.Proofs
open IntKind (wrap)
set_option maxRecDepth 100000
noncomputable section
variable {R:Type} (N:Nat)
def Fh (r0:Bool→O R) (e:Int) (t u:Nat) (b:Int) (c d v w:LA) (x y z:Nat) (aa ab ac:LA):O R :=
 (cond (Nat.ble 22 (c.length)) (Nj N (c.take 22) false e [(.imm (aa.take (x*1)) x 1 false true),(.imm (ab.take (y*3)) y 3 false true),(.imm (ac.take (z*3)) z 3 false true)] true (v.take (t*3)) t false true (w.take (u*3)) u false true (fun am=>(cond (am==true) (cond (Nat.ble 22 (c.length)) (cond (Nat.ble 3 (d.length)) (cond ((decide ((0:Int)≤(0:Int)))&&((decide (0≤b))&&((decide (b≤((t:Nat):Int)))&&(decide (((t:Nat):Int)≤((t:Nat):Int)))))) (Nj N (c.take 22) false e (d.take 3) false (v.take ((b.toNat)*3)) (b.toNat) false true (w.take (u*3)) u false true (fun an=>(r0 (cond true an false)))) none) none) none) (r0 false)))) none)
def Lr (r0:Bool→O R) (f:LA) (g:Nat) (r i:Bool) (l:LA) (m:Nat) (s n:Bool) (p o q e:Int) (c d:LA) (q1:Nat→Nat→Int→LA→LA→Nat→Nat→Nat→LA→LA→LA→O R):O R :=
 (Nl N l m false n e (fun t v=>(Nl N f g false i e (fun u w=>(cond (Nat.ble 22 (c.length)) (cond (Nat.ble 3 (d.length)) (Nj N (c.take 22) false e (d.take 3) false (v.take (t*3)) t false true (w.take (u*3)) u false true (fun ao=>(cond (!ao) (r0 false) (Qw N p e (fun b=>(B9 1 d fun ai af=>(cond ((Nat.ble (0+af) 140737488355328)&&(Nat.ble ((0+af)*8) 140737488355328)) (B9 3 (d.drop 1) fun ag ad=>(cond ((Nat.ble (0+ad) 140737488355328)&&(Nat.ble ((0+ad)*56) 140737488355328)) (B9 3 (d.drop 2) fun ah ae=>(cond ((Nat.ble (0+ae) 140737488355328)&&(Nat.ble ((0+ae)*56) 140737488355328)) (Qw N q 5 (fun aj=>(cond (aj==0) (Qw N o 4 (fun ap=>(cond (Ac b (0+af)) (cond ((Nat.beq 1 1)&&((Nat.ble ((0+((b.toNat)*1))+1) (ai.length))&&(!false))) (q1 t u b v w (0+af) (0+ad) (0+ae) (ai.set (0+((b.toNat)*1)) (.int .i64 (wrap .i64 (ap - 1)))) ag ah) none) none))) (cond (aj==1) (cond (Ac b (0+ae)) (cond (Nat.ble 3 ((ah.drop (0+((b.toNat)*3))).length)) (YD N (Int.tmod o 20) 2 (fun aq=>(Kq N ((ah.drop (0+((b.toNat)*3))).take 3) false aq false (fun ak=>(cond (Ac b (0+ae)) (cond ((Nat.beq (ak.length) 3)&&((Nat.ble ((0+((b.toNat)*3))+3) (ah.length))&&(!false))) (q1 t u b v w (0+af) (0+ad) (0+ae) ai ag (setCells ah (0+((b.toNat)*3)) ak)) none) none))))) none) none) (cond (aj==2) (cond ((decide ((0:Int)≤(0:Int)))&&((decide (0≤b))&&((decide (b≤(((0+ad):Nat):Int)))&&(decide ((((0+ad):Nat):Int)≤(((0+ad):Nat):Int)))))) (q1 t u b v w (0+af) (b.toNat) (0+ae) ai ag ah) none) (cond (Ac b (0+ad)) (cond (Nat.ble 3 ((ag.drop (0+((b.toNat)*3))).length)) (YD N (Int.tmod o 40) 2 (fun ar=>(Kq N ((ag.drop (0+((b.toNat)*3))).take 3) false ar false (fun al=>(cond (Ac b (0+ad)) (cond ((Nat.beq (al.length) 3)&&((Nat.ble ((0+((b.toNat)*3))+3) (ag.length))&&(!false))) (q1 t u b v w (0+af) (0+ad) (0+ae) ai (setCells ag (0+((b.toNat)*3)) al) ah) none) none))))) none) none)))))) none)) none)) none))))))) none) none)))))
def Hi (r0:Bool→O R) (f:LA) (g:Nat) (r i:Bool) (l:LA) (m:Nat) (s n:Bool) (p o q e:Int) (c d:LA):O R:=(Lr N r0 f g r i l m s n p o q e c d (fun t u b v w x y z aa ab ac=>(Fh N r0 e t u b c d v w x y z aa ab ac)))
def J4 (r0:Bool→O R) (q0:Int→LA→LA→O R) (f:LA) (g:Nat) (r i:Bool) (l:LA) (m:Nat) (s n:Bool) (p o q:Int):O R :=
 (jn N f g false i l m false n (fun au=>(cond (!au) (r0 true) (vS N f g false i (fun c e=>(cond ((Nat.beq 0 0)&&((Nat.beq (c.length) 22)&&(Nat.beq 22 22))) (cond (Nat.ble 22 (c.length)) (jw N (c.take 22) false e l m false n (fun d av=>(cond ((Nat.beq 0 0)&&((Nat.beq (d.length) 3)&&(Nat.beq 3 3))) (cond (!av) (U8 N (fun aw=>(r0 aw))) (cond (Nat.ble 22 (c.length)) (cond (Nat.ble 3 (d.length)) (BP N (c.take 22) false e (d.take 3) false (fun ax ay=>(cond ((ax != e)==false) (cond ((cond false true (ay != 0))==false) (U8 N (fun az=>(cond (cond false true (!az)) (r0 false) (q0 e c d)))) (r0 false)) (r0 false)))) none) none)) none))) none) none))))))
def Hd:=(Ae (fun (N:Nat) (f:LA) (g:Nat) (r i:Bool) (l:LA) (m:Nat) (s n:Bool) (p o q:Int) (r0:Bool→O R)=>(J4 N r0 (fun e c d=>(Hi N r0 f g r i l m s n p o q e c d)) f g r i l m s n p o q))).1
theorem Vj (f g r i l m s n p o q r0):(@Hd R N f g r i l m s n p o q r0)=(J4 N r0 (fun e c d=>(Hi N r0 f g r i l m s n p o q e c d)) f g r i l m s n p o q):=by rw[Hd,(Ae _).2]
def W5:Hints:={ H:=(hS hL (hS hL (hS hL (hS hL (hS hL (hJ [0,1,2,3,4,11,12,13] hL (hS hL (hS hL (hS hL (hS hL (hJ [11,12,13,17,18,19,20] hL hL))))))))))) }
def Xt:Dg:=[(26,A6y N),(27,Ba1 N),(28,A7a N),(15,An7 N),(38,jK N),(40,Ahi N),(39,Ag0 N),(12,XL N),(19,Awz N),(32,Pk N)]
def W6 (F:KF R):=Hp Tryz.f9 W5 (Xt N) [] N F
def Ea (F:KF R):Bool→O R:=(fun ba=>F (.bool ba) [])
def aH (e:Int) (t u:Nat) (b:Int) (c d v w:LA) (x y z:Nat) (aa ab ac:LA):St:=⟨[(11,(op 0)),(12,(iv e)),(13,(op 1)),(17,(.own 300002 0 t)),(18,(.own 300003 0 u)),(19,(iv b)),(20,(op 4))],(hq [(bQ 0 c),(bQ 0 d),(bQ 3 v),(bQ 3 w),⟨false,false,false,false,0,[(.own 300005 0 x),(.own 300006 0 y),(.own 300007 0 z)],false⟩,(bQ 1 aa),(bQ 3 ab),(bQ 3 ac)])⟩
def aI (F:KF R):=W6 N F [1,1,1,1,1,1,1,1,1,1,1] []
def aJ (f:LA) (g:Nat) (r i:Bool) (l:LA) (m:Nat) (s n:Bool) (p o q e:Int) (c d:LA):St:=⟨[(0,(.imm f g 1 r i)),(1,(.imm l m 1 s n)),(2,(iv p)),(3,(iv o)),(4,(iv q)),(11,(op 0)),(12,(iv e)),(13,(op 1))],(hq [(bQ 0 c),(bQ 0 d)])⟩
def aK (F:KF R):=W6 N F [1,1,1,1,1,1] []
theorem LQ (F:KF R) (e:Int) (t u:Nat) (b:Int) (c d v w:LA):∀ (x y z:Nat) (aa ab ac:LA),A9 (aI N F) (aH e t u b c d v w x y z aa ab ac)=(Fh N (Ea F) e t u b c d v w x y z aa ab ac):=by
 intro x y z aa ab ac
 kernel_rfl
theorem LR (F:KF R) (f:LA) (g:Nat) (r i:Bool) (l:LA) (m:Nat) (s n:Bool) (p o q e:Int) (c d:LA):A9 (aK N F) (aJ f g r i l m s n p o q e c d)=(Hi N (Ea F) f g r i l m s n p o q e c d):=by
 exact Eq.trans (by kernel_rfl) (Bm (Lr N (Ea F) f g r i l m s n p o q e c d ·) (funext fun t=>funext fun u=>funext fun b=>funext fun v=>funext fun w=>funext fun x=>funext fun y=>funext fun z=>funext fun aa=>funext fun ab=>funext fun ac=>(Aq ..).trans (LQ N F e t u b c d v w x y z aa ab ac)):_)
theorem W7 (f:LA) (g:Nat) (r i:Bool) (l:LA) (m:Nat) (s n:Bool) (p o q:Int) (F:KF R):Cd (Xt N) W5 N 9 [(.imm f g 1 r i),(.imm l m 1 s n),(iv p),(iv o),(iv q)] [] F=(Hd N f g r i l m s n p o q (Ea F)):=by
 rw[Vj]
 exact Eq.trans (by kernel_rfl) (Bm (J4 N (Ea F) · f g r i l m s n p o q) (funext fun e=>funext fun c=>funext fun d=>(Aq ..).trans (LR N F f g r i l m s n p o q e c d)):_)
def Vk (a:LA) (h:Ak) (k:KF R):O R :=
 match a,h with
 | [(.imm f g 1 r i),(.imm l m 1 s n),(.int .i64 p),(.int .i64 o),(.int .i64 q)],[]=>(Hd N f g r i l m s n p o q (Ea k))
 | _,_=>none
theorem W8:An N 9 @Vk:=by
 intro R Q a h k j;unfold Vk;split;exact Ax (W7 ..) (W7 ..) ⟨A6z N,Ba2 N,A7b N,An8 N,jL N,Ahj N,Ag1 N,XM N,Aw0 N,Pl N,trivial⟩;exact Az
def aL:=Ay (W8 N)
def aM:=Ca (W8 N)
end
end Gx

namespace Gx
open Go Go.Proofs
set_option maxRecDepth 100000
section
variable {R:Type}
def rs (l:List RatD):LA:=l.flatMap RatD.av
theorem Bi3 (l:List RatD):(rs l).length=l.length*3:=by rw[rs,gK (e:=RatD.av) (n:=3) (fun _=>rfl)]
theorem aN (l:List RatD):List.take (l.length*3) (rs l)=rs l:=by rw[←Bi3,List.take_length]
theorem Bko (l:List RatD) (x:RatD):List.take (l.length*3) (rs l)++List.take 3 (setCells [(.bool false),.nsl,.nsl] 0 x.av)=rs (l++[x]):=by
 rw[aN];unfold rs;rw[List.flatMap_append];rfl
theorem A23:∀ (l:List RatD) (n:Nat),List.take (n*3) (rs l)=rs (l.take n)
 | [],n=>by simp[rs]
 | a::r,0=>by simp[rs]
 | a::r,n+1=>by
  have k:=A23 r n
  unfold rs at k ⊢
  rw[List.flatMap_cons,List.take_succ_cons,List.flatMap_cons,←k,show(n+1)*3=n*3+3 by omega,show a.av=[.bool a.neg,a.ns.av,a.ds.av] from rfl]
  simp
theorem Bmm {l:List RatD} {j:Nat} {x:RatD} (h:j<l.length):setCells (rs l) (0+(Int.toNat (j:Int))*3) x.av=rs (l.set j x):=by
 rw[Int.toNat_natCast,Nat.zero_add]
 exact jg (e:=RatD.av) (sz:=3) (fun _=>rfl) l j x h
theorem okR.set {l:List RatD} (h:okR l) {j:Nat} {x:RatD} (C:x.is x.q 4):okR (l.set j x):=fun y D=>by
 rcases List.mem_or_eq_of_mem_set D with k | k
 ·exact h y k
 ·rw[k];exact C
theorem okR.tk {l:List RatD} (h:okR l) (n:Nat):okR (l.take n):=fun y k=>h y (List.mem_of_mem_take k)
theorem Ahy {v:Int} (h:-9223372036854775808≤v∧v≤9223372036854775807):(TU (mkRat v 2)).is (mkRat v 2) 4:=(lF _).is (by have:=Bml h;omega)
theorem Bi4 (p k:Int):(p:Rat)+mkRat k 2=mkRat (2*p+k) 2:=by
 rw[←Bae p,Rat.mkRat_add_mkRat _ _ (by decide) (by decide)]
 congr 1;omega
theorem Afa {N:Nat} {X:O R} {K:Nat→LA→O R} {raw:List Int} {e f:Bool} {h:Int} (hN:4096≤N) (D:h≤1000) (H:∀ P:List RatD,(P.length:Int)=h→okR P→K P.length (rs P)=X):∀ (m fuel:Nat) (P:List RatD),(P.length:Int)+m=h→m<fuel→okR P →
  Fs N K (Av raw) raw.length e f h fuel P.length (P.length:Int) (rs P)=X
 | 0,fuel+1,P,F,_,C=>by
  rw[Fs];unfold Rw
  rw[show decide ((P.length:Int)<h)=false by simp;omega,cf]
  exact H P (by omega) C
 | m+1,fuel+1,P,F,I,C=>by
  rw[Fs];unfold Rw
  have step:∀ v:Int,-1000≤v∧v≤1000→YD N v 2 (fun l=>(cond ((Nat.beq (List.length l) 3)&&(Nat.ble 3 3)) (cond ((Nat.ble (P.length+1) 140737488355328)&&(Nat.ble ((P.length+1)*56) 140737488355328)) (Fs N K (Av raw) raw.length e f h fuel (P.length+1) (IntKind.wrap .i64 ((P.length:Int)+1)) ((List.take (P.length*3) (rs P))++(List.take 3 (setCells [(.bool false),.nsl,.nsl] 0 l)))) none) none))=X:=by
   intro v L
   rw[Aoq (by omega) (by omega) (by omega),show cq (mkRat v (2:Int).natAbs)=(TU (mkRat v 2)).av from rfl,show((Nat.beq (List.length (TU (mkRat v 2)).av) 3)&&(Nat.ble 3 3))=true from rfl,ct,Bnc (by omega),ct,Bko,wS (by omega)]
   have:=Afa (raw:=raw) (e:=e) (f:=f) hN D H m fuel (P++[TU (mkRat v 2)]) (by simp;omega) (by omega) (fun x G=>by
    rcases List.mem_append.1 G with k | k
    ·exact C x k
    ·rw[List.mem_singleton.1 k,A5w];exact Ahy (by omega))
   rw[List.length_append] at this
   exact this
  rw[show decide ((P.length:Int)<h)=true by simp;omega,ct]
  by_cases hr:P.length<raw.length
  ·rw[Iz hr,ct,Aa hr,ct,Ct hr,Bhg (by omega) (by omega)]
   have k:=Int.emod_nonneg raw[P.length] (show(61:Int)≠0 by decide)
   have M:=Int.emod_lt_of_pos raw[P.length] (show(0:Int)<61 by decide)
   rw[i64 (by omega)]
   exact step _ (by omega)
  ·rw[Kn (by omega),cf]
   exact step 0 (by omega)
theorem Ayj {N:Nat} {X:O R} {K:Nat→LA→O R} {raw:List Int} {e f:Bool} {h:Int} {n:Nat} (hn:n=raw.length) (hN:4096≤N) (k:0≤h∧h≤1000) (H:∀ P:List RatD,(P.length:Int)=h→okR P→K P.length (rs P)=X):Nl N (Av raw) n e f h K=X:=by
 subst hn
 rw[WE];unfold AC
 exact Afa hN k.2 H h.toNat N [] (by simp;omega) (by omega) (by intro x C;simp at C)
section
variable {N:Nat} {u:UnitD}
theorem Bi5 {K:Bool→O R} {d:Int} {P Q:List RatD} {a:Nat} {pl:PlanD} {ks:List Int} {en re:List RatD} {n1 n2 n3:Nat} {z:LA} {aa ab:LA} (k:fit 1000000 N) (G:u.away.l.length≤1000) (hP:P.length≤30) (hQ:Q.length≤30) (oP:okR P) (oQ:okR Q) (T:a≤P.length) (oe:okR pl.en.l) (or:okR pl.re.l) (C:okR en) (D:okR re)
  (I:n1=ks.length) (L:n2=en.length) (M:n3=re.length) (e1:List.take (n1*1) z=Av ks) (S:List.take (n2*3) aa=rs en) (e3:List.take (n3*3) ab=rs re) :
  Fh N K d P.length Q.length (a:Int) u.av pl.av (rs P) (rs Q) n1 n2 n3 z aa ab=K true:=by
 have hN:4000≤N:=by have:=k.1;omega
 unfold Fh
 rw[Cl,ct,Bg,e1,S,e3,I,L,M,aN,aN,show [AV.imm (Av ks) ks.length 1 false true,.imm (rs en) en.length 3 false true,.imm (rs re) re.length 3 false true]=(Bnd ks en re true true true).av from Bip]
 unfold rs
 rw[kA hN k G hP hQ oP oQ (by exact C) (by exact D),show(true==true)=true from rfl,ct,ct,Bgn,ct,Bgo]
 rw[show((decide ((0:Int)≤(0:Int)))&&((decide (0≤(a:Int)))&&((decide ((a:Int)≤((P.length:Nat):Int)))&&(decide (((P.length:Nat):Int)≤((P.length:Nat):Int))))))=true by simp;omega,ct,Int.toNat_natCast]
 have e4:=A23 P a
 unfold rs at e4
 have F:a=(P.take a).length:=by rw[List.length_take];omega
 rw[e4]
 have:=kA (K:=fun am=>K (cond true am false)) (u:=u) (p:=pl) (f:=false) (e:=false) (c:=d) (A:=P.take a) (B:=Q) (f1:=false) (f2:=true) (f3:=false) (f4:=true) hN k G (by omega) hQ (oP.tk a) oQ oe or
 rw[←F] at this
 exact this
theorem rc {K:Bool→O R} (G:fit 1000000 N) {l raw:List Int} {l1 l2 r1 r2:Bool} {D C wh:Int} (hl:l.length≤9223372036854775807) :
  Hd N (Av l) l.length l1 l2 (Av raw) raw.length r1 r2 D C wh K=K true:=by
 have hN:4096≤N:=by have:=G.1;omega
 rw[Vj];unfold J4
 rw[Bbq]
 by_cases g4:l.length≤200
 ·by_cases g5:raw.length≤200
  ·rw[decide_eq_true g4,decide_eq_true g5,show(!(true&&true))=false from rfl,cf]
   refine Bbp rfl hN hl fun u H S V Y hv' ha=>?_
   rw[show((Nat.beq 0 0)&&((Nat.beq (List.length u.av) 22)&&(Nat.beq 22 22)))=true from rfl,ct,Cl,ct,Bg]
   refine Bkl rfl (by omega) hN (Ng Y).1 (by omega) ?_ fun ks A B hk he gg=>?_
   ·rw[Bkk,ct,show(!false)=true from rfl,ct,Ao1 (G.le (by omega))]
   ·obtain⟨oe,or⟩:=Bkn he gg
    have ck:=Bkm he gg
    obtain⟨_,hlen,_,_,_⟩:=Bda he
    have gA:=gg.1
    have gB:=gg.2.1
    have ok:=jx Y
    have hu:=(Ng Y).2.1
    rw[Bkk,ct,show(!true)=false from rfl,cf,ct,Bgn,ct,Bgo,RD (by omega) (G.le (by omega)) (by omega) oe or,ck]
    rw[show((H != H)==false)=true by simp,ct,show((cond false true ((0:Int) != 0))==false)=true from rfl,ct,Ao1 (G.le (by omega)),show(cond false true (!true))=false from rfl,cf]
    unfold Hi Lr
    refine Ayj rfl hN (by omega) fun P hP oP=>?_
    refine Ayj rfl hN (by omega) fun Q hQ oQ=>?_
    rw[Cl,ct,Bgn,ct,Bg,Bgo,aN,aN]
    rw[show rs P=P.flatMap RatD.av from rfl,show rs Q=Q.flatMap RatD.av from rfl,kA (by omega) G (by omega) (by omega) (by omega) oP oQ oe or,show(!true)=false from rfl,cf,Bhg (by omega) (by omega)]
    have m1:=Int.emod_nonneg D (show H≠0 by omega)
    have m2:=Int.emod_lt_of_pos D (show 0<H by omega)
    generalize D%H=a0 at m1 m2
    obtain⟨a,rfl⟩:∃ a:Nat,a0=a:=⟨a0.toNat,by omega⟩
    have m5:=Int.emod_nonneg wh (show(5:Int)≠0 by decide)
    have eA:(A.map rq).length=ks.length:=by rw[List.length_map];exact gA
    have eB:(B.map rq).length=ks.length:=by rw[List.length_map];exact gB
    have I:a<ks.length:=by omega
    have haA:a<A.length:=by omega
    have haB:a<B.length:=by omega
    have pn:=((gg.2.2 a I).rng ok hu I)
    rw[GA haA,GA haB] at pn
    have T:∀ (z aa ab:LA) (n1 n2 n3:Nat) (M:List Int) (en re:List RatD),okR en→okR re→n1=M.length→n2=en.length→n3=re.length→List.take (n1*1) z=Av M→List.take (n2*3) aa=rs en→List.take (n3*3) ab=rs re →
      Fh N K H P.length Q.length (a:Int) u.av (A7z ks A B).av (rs P) (rs Q) n1 n2 n3 z aa ab=K true:=fun z aa ab n1 n2 n3 M en re o1 o2 S V h3 e1 e2 e3 =>
     Bi5 G (by omega) (by omega) (by omega) oP oQ (by omega) oe or o1 o2 S V h3 e1 e2 e3
    rw[p0,p1,p2,show(A7z ks A B).st.l=ks from rfl,show(A7z ks A B).en.l=A.map rq from rfl,show(A7z ks A B).re.l=B.map rq from rfl,eA,eB] 
    rw[show(A7z ks A B).en.l=A.map rq from rfl] at oe
    rw[show(A7z ks A B).re.l=B.map rq from rfl] at or
    simp only[Nat.zero_add]
    have sz:∀ k:Nat,k≤56→((Nat.ble ks.length 140737488355328)&&(Nat.ble (ks.length*k) 140737488355328))=true:=fun k hk'=>by
     rw[Bool.and_eq_true,Nat.ble_eq,Nat.ble_eq]
     have:ks.length*k≤1000*56:=Nat.mul_le_mul (by omega) hk'
     omega
    rw[sz 8 (by omega),ct,sz 56 (by omega),ct,ct,Bhg (by omega) (by omega)]
    have i1:List.take (ks.length*1) (Av ks)=Av ks:=by rw[Nat.mul_one,←Db ks,List.take_length]
    have i2:List.take (ks.length*3) (rs (A.map rq))=rs (A.map rq):=by rw[←eA];exact aN _
    have i3:List.take (ks.length*3) (rs (B.map rq))=rs (B.map rq):=by rw[←eB];exact aN _
    have ia:Ac (a:Int) ks.length=true:=Aa I
    have cu:∀ (L:List RatD) (x:RatD),L.length=ks.length→((Nat.beq (List.length x.av) 3)&&((Nat.ble (((a:Int).toNat*3)+3) (List.length (L.flatMap RatD.av)))&&(!false)))=true:=fun L x hL=>by
     rw[show(L.flatMap RatD.av).length=L.length*3 from Bi3 L,hL,Int.toNat_natCast]
     simp[RatD.av];omega
    have chg:∀ (L:List Int) (v:Int),L.length=ks.length→(hL:a<L.length)→0≤L[a]∧L[a]≤1048576→-1000≤v∧v≤1000→okR (L.map rq)→okR ((L.map rq).set a (TU ((L[a]:Rat)+mkRat v 2))):=fun L v hL hLa U hv' o=>o.set (by rw[A5w,Bi4];exact Ahy (by omega))
    have st3:∀ (L:List RatD) (x:RatD),L.length=ks.length→setCells (L.flatMap RatD.av) ((a:Int).toNat*3) x.av=rs (L.set a x):=fun L x hL=>by
     have:=Bmm (l:=L) (j:=a) (x:=x) (by omega)
     rwa [Nat.zero_add] at this
    have F:∀ k:Int,0<k→k≤100→-1000≤Int.tmod C k∧Int.tmod C k≤1000:=fun k S V=>by
     have:=Int.tmod_lt_of_pos C S
     have:=Int.lt_tmod_of_pos C S
     omega
    rw[ia]
    cases g0:(wh%5==0) with
    | true =>
     rw[ct,Bhg (by omega) (by omega)]
     rw[ct,show((Nat.beq 1 1)&&((Nat.ble (((a:Int).toNat*1)+1) (List.length (Av ks)))&&(!false)))=true by rw[Db,Int.toNat_natCast];simp;omega,ct]
     refine T _ _ _ _ _ _ (ks.set a (IntKind.wrap .i64 (C%4 - 1))) (A.map rq) (B.map rq) oe or (by simp) eA.symm eB.symm ?_ i2 i3
     have e:List.set (Av ks) ((a:Int).toNat*1) (.int .i64 (IntKind.wrap .i64 (C%4 - 1)))=Av (ks.set a (IntKind.wrap .i64 (C%4 - 1))):=by
      rw[Int.toNat_natCast,Nat.mul_one,Av,Av,List.map_set]
     rw[e,Nat.mul_one,show ks.length=(Av (ks.set a (IntKind.wrap .i64 (C%4 - 1)))).length by rw[Db,List.length_set],List.take_length]
    | false =>
     rw[cf]
     cases g1:(wh%5==1) with
     | true =>
      rw[ct,ct,Ne (by omega),ji,ct,KX,Aoq (by have:=F 20 (by omega) (by omega);omega) (by omega) (by omega),show cq (mkRat (Int.tmod C 20) (2:Int).natAbs)=(TU (mkRat (Int.tmod C 20) 2)).av from rfl]
      have U:=F 20 (by omega) (by omega)
      simp only[List.getElem_map]
      rw[Atk (Bio (by omega)) (Ahy (by omega)) (G.le (by omega)),ct,cu _ _ eB,ct,st3 _ _ eB]
      exact T _ _ _ _ _ _ ks (A.map rq) _ oe (chg B _ gB haB pn.2 U or) rfl eA.symm (by simp[gB]) i1 i2 (by rw[show ks.length=((B.map rq).set a (TU ((B[a]:Rat)+mkRat (Int.tmod C 20) 2))).length by rw[List.length_set];exact eB.symm];exact aN _)
     | false =>
      rw[cf]
      cases g2:(wh%5==2) with
      | true =>
       rw[ct,show((decide ((0:Int)≤(0:Int)))&&((decide (0≤(a:Int)))&&((decide ((a:Int)≤((ks.length:Nat):Int)))&&(decide (((ks.length:Nat):Int)≤((ks.length:Nat):Int))))))=true by simp;omega,ct,Int.toNat_natCast]
       exact T _ _ _ _ _ _ ks ((A.map rq).take a) (B.map rq) (oe.tk a) or rfl (by rw[List.length_take];omega) eB.symm i1 (A23 _ _) i3
      | false =>
       rw[cf,ct,Ne (by omega),ji,ct,KX,Aoq (by have:=F 40 (by omega) (by omega);omega) (by omega) (by omega),show cq (mkRat (Int.tmod C 40) (2:Int).natAbs)=(TU (mkRat (Int.tmod C 40) 2)).av from rfl]
       have U:=F 40 (by omega) (by omega)
       simp only[List.getElem_map]
       rw[Atk (Bio (by omega)) (Ahy (by omega)) (G.le (by omega)),ct,cu _ _ eA,ct,st3 _ _ eA]
       exact T _ _ _ _ _ _ ks _ (B.map rq) (chg A _ gA haA pn.1 U oe) or rfl (by simp[gA]) eB.symm i1 (by rw[show ks.length=((A.map rq).set a (TU ((A[a]:Rat)+mkRat (Int.tmod C 40) 2))).length by rw[List.length_set];exact eA.symm];exact aN _) i3
  ·rw[decide_eq_false g5,Bool.and_false];rfl
 ·rw[decide_eq_false g4,Bool.false_and];rfl
end
end
end Gx

namespace Gx
open Go Go.Proofs
theorem Ark {p:Int→Prop}:∀ m:List { n:Int // p n },m.flatMap (fun n=>[AV.int .i64 n.1])=Av (m.map (·.1))
 | []=>rfl
 | a::r=>by rw[List.flatMap_cons,Ark r];rfl
end Gx
