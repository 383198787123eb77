/- A part of the proof: what it holds is said by each theorem. -/
import Derived.Test.YtlkhmflligkbkaaGreatP3
set_option linter.unusedVariables false
namespace Gx.Cf
open Go Go.Proofs
section
variable {R:Type}
def A7k (h:Int):List LineD→Nat→List Int
 | [],_=>[]
 | x::r,j=>cond (x.away.l.contains h) (A7k h r (j+1)) ((j:Int)::A7k h r (j+1))
theorem Ar5 (h:Int):∀ (l:List LineD) (j:Nat),(A7k h l j).length≤l.length
 | [],_=>by simp[A7k]
 | x::r,j=>by rw[A7k];have:=Ar5 h r (j+1);cases x.away.l.contains h<;>simp<;>omega
theorem Byl (h:Int):∀ (l:List LineD) (j:Nat) (a:Int),a ∈ A7k h l j→(j:Int)≤a∧a<j+l.length
 | [],_,_,hm=>by simp[A7k] at hm
 | x::r,j,a,hm=>by
  rw[A7k] at hm
  have ih:=Byl h r (j+1) a
  cases hx:x.away.l.contains h<;>rw[hx] at hm<;>simp at hm
  ·rcases hm with rfl | hm
   ·simp;omega
   ·have:=ih hm;simp at this ⊢;omega
  ·have:=ih hm;simp at this ⊢;omega
def A8 (c:CaseD) (h:Int):List Int:=A7k h c.lines.l 0
theorem Buj {A B:List Int} {n:Nat} (h:n=A.length):(List.take (n*1) (Az A))++Az B=Az (A++B):=by
 rw[Nat.mul_one,List.take_of_length_le (by simp[Hx,h]),Bbq]
theorem Ar6 {N:Nat} {c:CaseD} {h:Int} {o:Bool} {K:Nat→List AV→Option R} (hs:Small c N):∀ (m j fuel:Nat) (A:List Int),j+m=c.lines.l.length→m<fuel→A.length≤j →
  Ew N K h o c.av fuel A.length (j:Int) (Az A)=K (A++A7k h (c.lines.l.drop j) j).length (Az (A++A7k h (c.lines.l.drop j) j))
 | 0,j,fuel+1,A,hj,_,_=>by
  rw[Ew];unfold Lu
  rw[Ok,ltF (by omega),cf,I8 (l:=c.lines.l) (by omega),A7k,List.append_nil]
 | m+1,j,fuel+1,A,hj,hf,hA=>by
  rw[Ew];unfold Lu
  have h1:j<c.lines.l.length:=by omega
  have htop:=hs.top.2.1
  have hm:c.lines.l[j] ∈ c.lines.l:=List.getElem_mem h1
  have hd:=hs.law _ hm
  simp only[Ok]
  rw[ltT h1,ct,Ab h1,ct,Int.toNat_natCast,Bn Gc _ _ h1,F4 (l:=c.lines.l) h1,A7k]
  have ih1:=Ar6 (N:=N) (c:=c) (h:=h) (o:=o) (K:=K) hs m (j+1) fuel (A++[(j:Int)]) (by omega) (by omega) (by simp;omega)
  have ih2:=Ar6 (N:=N) (c:=c) (h:=h) (o:=o) (K:=K) hs m (j+1) fuel A (by omega) (by omega) (by omega)
  generalize c.lines.l[j]=b at *
  have b3:(Nat.ble (A.length+1) 140737488355328&&Nat.ble ((A.length+1)*8) 140737488355328)=true:=by rw[Ef,Ef];simp;omega
  have b4:∀ (r:List AV) (f:List AV→Nat→Option R),rdL 1 (List.drop 11 (b.av++r)) f=f (Az b.away.l) b.away.l.length:=fun r f=>by simp[LineD.av,I7,F9]
  have b5:List.take (A.length*1) (Az A)++[.int .i64 (j:Int)]=Az (A++[(j:Int)]):=Buj (B:=[(j:Int)]) rfl
  rw[b4,Akh rfl hd,b3,ct,b5,El (by omega)]
  cases b.away.l.contains h with
  | true=>simp only[Bool.not_true,cond_false,cond_true];exact ih2
  | false =>
   simp only[Bool.not_false,cond_true,cond_false]
   rw[List.length_append] at ih1
   simpa using ih1
theorem Bym {N:Nat} {c:CaseD} {h:Int} {o:Bool} {K:Nat→List AV→Option R} (hs:Small c N):Ld N c.av o h K=K (A8 c h).length (Az (A8 c h)):=by
 rw[Aec];unfold Ro
 have:=Ar6 (R:=R) (N:=N) (c:=c) (h:=h) (o:=o) (K:=K) hs c.lines.l.length 0 N [] (by omega) hs.lin.1 (by simp)
 simpa[A8,Az] using this
def Bq (e:Nat×Nat):List AV:=[.int .i64 (e.1:Int),.int .i64 (e.2:Int)]
theorem Ru (e:Nat×Nat):(Bq e).length=2:=rfl
theorem Atj (es:List (Nat×Nat)):(es.flatMap Bq).length=es.length*2:=by
 induction es with
 | nil=>rfl
 | cons e r ih=>rw[List.flatMap_cons,List.length_append,ih,Ru];simp;omega
theorem Blu {N:Nat} {c:CaseD} {o:Bool} {ls:List Int} {K:Nat→Nat→List AV→List AV→Option R} (hl:ls.length≤1000000) (hv:∀ l ∈ ls,∃ x,LnV c l x):∀ (m j fuel:Nat),j+m=ls.length→m<fuel →
  Kf N K ls.length o c.av (Az ls) fuel j (ls.length:Int) (j:Int) (((ls.take j).map (He c)).flatMap Bq)=K ls.length ls.length ((ls.map (He c)).flatMap Bq) (Az ls)
 | 0,j,fuel+1,hj,_=>by
  rw[Kf];unfold Uy
  have:j=ls.length:=by omega
  rw[ltF (by omega),cf,List.take_of_length_le (by omega),this]
 | m+1,j,fuel+1,hj,hf=>by
  rw[Kf];unfold Uy
  have h:j<ls.length:=by omega
  obtain⟨x,hx⟩:=hv ls[j] (List.getElem_mem h)
  have b3:(Nat.ble (j+1) 140737488355328&&Nat.ble ((j+1)*16) 140737488355328)=true:=by rw[Ef,Ef];simp;omega
  have b5:List.take (j*2) (((ls.take j).map (He c)).flatMap Bq)++[.int .i64 x.fr,.int .i64 x.to]=((ls.take (j+1)).map (He c)).flatMap Bq:=by
   rw[List.take_of_length_le (by rw[Atj];simp;omega),List.take_succ_eq_append_getElem h,List.map_append,List.flatMap_append]
   simp only[List.map_cons,List.map_nil,B3r hx,List.flatMap_cons,List.flatMap_nil,List.append_nil,Bq]
   have:=hx.f0;have:=hx.t0
   rw[Int.toNat_of_nonneg hx.f0,Int.toNat_of_nonneg hx.t0]
  rw[ltT h,ct,Ab h,ct,B8h (by simpa using h),Int.toNat_natCast,Aks h]
  simp only[Ok,Cbm hx,Cbn hx]
  rw[Brd hx.l0 hx.lt,ct,ct,b3,ct,b5,El (by omega),Blu hl hv m (j+1) fuel (by omega) (by omega)]
theorem B13 {N:Nat} {c:CaseD} {h:Int} {o:Bool} {K:Nat→Nat→List AV→List AV→Option R} (hs:Small c N) (hv:∀ l ∈ A8 c h,∃ x,LnV c l x) :
  Ze N c.av o h K=K (A8 c h).length (A8 c h).length (((A8 c h).map (He c)).flatMap Bq) (Az (A8 c h)):=by
 rw[Axo];unfold Akf
 have hl:=Ar5 h c.lines.l 0
 have htop:=hs.top.2.1
 have hlin:=hs.lin.1
 have:=Blu (R:=R) (N:=N) (c:=c) (o:=o) (ls:=A8 c h) (K:=K) (by unfold A8;omega) hv (A8 c h).length 0 N (by omega) (by unfold A8;omega)
 rw[Mv,ct,E2,Bym hs]
 simpa using this
def Ey (st:Bool×List Int) (e:Nat×Nat):Bool×List Int :=
 let m:=Fe (st.2.getD e.1 0) (st.2.getD e.2 0)
 ((st.1||(st.2.getD e.1 0 != m))||(st.2.getD e.2 0 != m),(st.2.set e.1 m).set e.2 m)
theorem Bcb {N:Nat} {es:List (Nat×Nat)} {n:Nat} {t o:Bool} {K1:Bool→List AV→Option R} {K:Nat→List AV→Option R} (hs:es.length<4611686018427387904) (he:∀ e ∈ es,e.1<n∧e.2<n):∀ (m j fuel:Nat) (st:Bool×List Int),j+m=es.length→m<fuel→st.2.length=n →
  Gy N K1 K (es.flatMap Bq) es.length t o n fuel st.1 (es.length:Int) (j:Int) (Az st.2)=K1 ((es.drop j).foldl Ey st).1 (Az ((es.drop j).foldl Ey st).2)
 | 0,j,fuel+1,st,hj,_,_=>by
  rw[Gy];unfold Oz
  rw[ltF (by omega),cf,I8 (l:=es) (by omega)];rfl
 | m+1,j,fuel+1,st,hj,hf,hst=>by
  rw[Gy];unfold Oz
  have h:j<es.length:=by omega
  obtain⟨hu,hv⟩:=he es[j] (List.getElem_mem h)
  have ih:=Bcb (N:=N) (es:=es) (n:=n) (t:=t) (o:=o) (K1:=K1) (K:=K) hs he m (j+1) fuel (Ey st es[j]) (by omega) (by omega) (by simp[Ey,hst])
  rw[ltT h,ct,Ab h,ct,Int.toNat_natCast,Bn Ru _ _ h,F4 (l:=es) h,List.foldl_cons,←ih]
  generalize es[j]=e at *
  have b1:Nat.ble 2 (List.length (Bq e++List.flatMap Bq (List.drop (j+1) es)))=true:=by rw[Ef,List.length_append,Ru];simp
  have b2:List.take 2 (Bq e++List.flatMap Bq (List.drop (j+1) es))=Bq e:=List.take_left' (Ru e)
  rw[b1,ct,b2,Ru]
  have iu:Aj (e.1:Int) n=true:=Ab hu
  have iv:Aj (e.2:Int) n=true:=Ab hv
  have ru:∀ f:Int→Option R,rdI .i64 (List.drop (0+((Int.toNat (e.1:Int))*1)) (Az st.2)) f=f (st.2.getD e.1 0):=fun f=>by rw[B8h (by rw[hst];simpa using hu)];rfl
  have rv:∀ f:Int→Option R,rdI .i64 (List.drop (0+((Int.toNat (e.2:Int))*1)) (Az st.2)) f=f (st.2.getD e.2 0):=fun f=>by rw[B8h (by rw[hst];simpa using hv)];rfl
  have s1:=Bui (l:=st.2) (x:=(Int.toNat (e.1:Int))) (by rw[hst];simpa using hu)
  have s2:∀ m:Int,((Nat.beq 1 1)&&((Nat.ble ((0+((Int.toNat (e.2:Int))*1))+1) (List.length (List.set (Az st.2) (0+((Int.toNat (e.1:Int))*1)) (.int .i64 m))))&&(!false)))=true:=fun m=>by
   rw[A4r];exact Bui (by simpa[hst] using hv)
  have s3:∀ m:Int,List.set (List.set (Az st.2) (0+((Int.toNat (e.1:Int))*1)) (.int .i64 m)) (0+((Int.toNat (e.2:Int))*1)) (.int .i64 m)=Az ((st.2.set e.1 m).set e.2 m):=fun m=>by
   rw[A4r,A4r];simp
  have p1:(!o||Bb (Bq e))=true:=by simp[Bq,Bb]
  have p2:(Nat.beq 2 2&&(Nat.ble 2 2&&!false))=true:=rfl
  have p3:setCells [(.int .i64 (0:Int)),(.int .i64 (0:Int))] 0 (Bq e)=Bq e:=rfl
  have p4:∀ f:Int→Option R,rdI .i64 (Bq e) f=f e.1:=fun f=>by simp[Bq,Ax]
  have p5:∀ f:Int→Option R,rdI .i64 (List.drop 1 (Bq e)) f=f e.2:=fun f=>by simp[Bq,Ax]
  simp only[p1,p2,p3,p4,p5,ct,iu,iv,ru,rv,s1,s2,s3,El (show j<4611686018427387904 by omega)]
  unfold Ey
  cases st.1
  ·cases hm:(st.2.getD e.1 0 != Fe (st.2.getD e.1 0) (st.2.getD e.2 0))<;>simp only[hm,Bool.false_or,Bool.true_or,cond_true,cond_false,beq_self_eq_true,show(true==false)=false from rfl]
  ·simp only[Bool.true_or,cond_false,show(true==false)=false from rfl]
def Az1 (L:List Int):Nat:=(L.map Int.toNat).sum
theorem B3s {L:List Int} {x:Nat} {v:Int} (h:x<L.length):Az1 (L.set x v)+(L.getD x 0).toNat=Az1 L+v.toNat:=by
 unfold Az1
 rw[Aks h]
 induction L generalizing x with
 | nil=>simp at h
 | cons a r ih =>
  cases x with
  | zero=>simp;omega
  | succ x=>have:=ih (x:=x) (by simpa using h);simp at this ⊢;omega
theorem Blv {L:List Int} {x y:Nat} {v:Int} (h:x<L.length):(L.set x v).getD y 0=if x=y then v else L.getD y 0:=by
 rw[List.getD_eq_getElem?_getD,List.getD_eq_getElem?_getD,List.getElem?_set]
 by_cases e:x=y
 ·subst e;simp[h]
 ·simp[e]
theorem B9s (a b:Int):Fe a b≤a∧Fe a b≤b∧(Fe a b=a∨Fe a b=b):=by
 unfold Fe
 by_cases h:b<a
 ·simp[h];omega
 ·simp[h];omega
theorem B6o {n:Nat} {es:List (Nat×Nat)} {e:Nat×Nat} (hm:e ∈ es) (hu:e.1<n) (hv:e.2<n) {b:Bool} {L:List Int} (h:LeastOk n es L) :
    LeastOk n es (Ey (b,L) e).2∧(((Ey (b,L) e).1=true∧Az1 (Ey (b,L) e).2<Az1 L)∨((Ey (b,L) e)=(b,L)∧L.getD e.1 0=L.getD e.2 0)):=by
  obtain⟨u,v⟩:=e
  simp only at hu hv
  obtain⟨m1,m2,m3⟩:=B9s (L.getD u 0) (L.getD v 0)
  have hlu:u<L.length:=by rw[h.len];exact hu
  have hlv:v<L.length:=by rw[h.len];exact hv
  have hcuv:Conn es u v:=.fwd hm (.refl _)
  have Ao:∀ y,((L.set u (Fe (L.getD u 0) (L.getD v 0))).set v (Fe (L.getD u 0) (L.getD v 0))).getD y 0=if v=y then Fe (L.getD u 0) (L.getD v 0) else if u=y then Fe (L.getD u 0) (L.getD v 0) else L.getD y 0:=fun y=>by
    rw[Blv (by simpa using hlv),Blv hlu]
  have lu:=h.low u hu
  have lv:=h.low v hv
  refine⟨⟨by simp[Ey,h.len],fun y hy=>?_,fun y hy=>?_⟩,?_⟩
  · simp only[Ey,Ao]
    split
    · rename_i e;subst e;omega
    · split
      · rename_i e;subst e;omega
      · exact h.low y hy
  · simp only[Ey,Ao]
    have cm:Conn es (Fe (L.getD u 0) (L.getD v 0)).toNat u:=by
      rcases m3 with e | e<;>rw[e]
      · exact h.con u hu
      · exact(h.con v hv).trans hcuv.symm
    split
    · rename_i e;subst e;exact cm.trans hcuv
    · split
      · rename_i e;subst e;exact cm
      · exact h.con y hy
  · by_cases e1:L.getD u 0=Fe (L.getD u 0) (L.getD v 0)<;>by_cases e2:L.getD v 0=Fe (L.getD u 0) (L.getD v 0)
    · right
      have q:(L.set u (Fe (L.getD u 0) (L.getD v 0))).set v (Fe (L.getD u 0) (L.getD v 0))=L:=by
        have key:∀ m:Int,L.getD u 0=m→L.getD v 0=m→(L.set u m).set v m=L:=by
          intro m h1 h2
          have a1:L.set u m=L:=by rw[←h1,Aks hlu,List.set_getElem_self]
          have a2:L.set v m=L:=by rw[←h2,Aks hlv,List.set_getElem_self]
          rw[a1,a2]
        exact key _ e1 e2
      have x1:(L.getD u 0 != Fe (L.getD u 0) (L.getD v 0))=false:=by simpa using e1
      have x2:(L.getD v 0 != Fe (L.getD u 0) (L.getD v 0))=false:=by simpa using e2
      refine⟨by simp only[Ey,q,x1,x2,Bool.or_false],by rw[e1];exact e2.symm⟩
    all_goals
      left
      have hs1:=B3s (v:=Fe (L.getD u 0) (L.getD v 0)) hlu
      have hs2:=B3s (L:=L.set u (Fe (L.getD u 0) (L.getD v 0))) (x:=v) (v:=Fe (L.getD u 0) (L.getD v 0)) (by simpa using hlv)
      rw[Blv hlu] at hs2
      refine⟨?_,?_⟩
      · first
          | (have x2 : (L.getD v 0 != Fe (L.getD u 0) (L.getD v 0)) = true := by simpa using e2
             simp only[Ey,x2,Bool.or_true])
          | (have x1 : (L.getD u 0 != Fe (L.getD u 0) (L.getD v 0)) = true := by simpa using e1
             simp only[Ey,x1,Bool.or_true,Bool.true_or])
      · simp only[Ey]
        split at hs2
        · rename_i e;subst e;omega
        · omega
theorem Buk {n:Nat} {es:List (Nat×Nat)} (he:∀ e ∈ es,e.1<n∧e.2<n):∀ (fs:List (Nat×Nat)) (b:Bool) (L:List Int),(∀ e ∈ fs,e ∈ es)→LeastOk n es L →
  LeastOk n es (fs.foldl Ey (b,L)).2∧(((fs.foldl Ey (b,L)).1=true∧(Az1 (fs.foldl Ey (b,L)).2<Az1 L∨(b=true∧Az1 (fs.foldl Ey (b,L)).2≤Az1 L)))∨((fs.foldl Ey (b,L))=(b,L)∧B3q fs L))
 | [],b,L,_,h=>⟨h,.inr ⟨rfl,fun e he=>by simp at he⟩⟩
 | e::r,b,L,hf,h=>by
  have hm:=hf e (by simp)
  obtain⟨h1,h2⟩:=B6o hm (he e hm).1 (he e hm).2 (b:=b) h
  rw[List.foldl_cons]
  rcases h2 with⟨h3,h4⟩ | ⟨h3,h4⟩
  ·have e':Ey (b,L) e=(true,(Ey (b,L) e).2):=by rw[←h3]
   rw[e']
   obtain⟨k1,k2⟩:=Buk he r true (Ey (b,L) e).2 (fun x hx=>hf x (List.mem_cons_of_mem _ hx)) h1
   refine⟨k1,.inl ?_⟩
   rcases k2 with⟨k3,k4⟩ | ⟨k3,_⟩
   ·exact⟨k3,.inl (by rcases k4 with k4 | ⟨_,k4⟩<;>omega)⟩
   ·rw[k3];exact⟨rfl,.inl h4⟩
  ·rw[h3]
   obtain⟨k1,k2⟩:=Buk he r b L (fun x hx=>hf x (List.mem_cons_of_mem _ hx)) h
   refine⟨k1,?_⟩
   rcases k2 with k2 | ⟨k3,k4⟩
   ·exact .inl k2
   ·refine .inr ⟨k3,fun x hx=>?_⟩
    rcases List.mem_cons.1 hx with rfl | hx
    ·exact h4
    ·exact k4 x hx
theorem Bcc {N:Nat} {es:List (Nat×Nat)} {n:Nat} {t o:Bool} (hs:Pd es.length N) (he:∀ e ∈ es,e.1<n∧e.2<n):∀ (s fuel:Nat) (L:List Int),LeastOk n es L→Az1 L≤s→s+2<fuel →
  ∃ L',LeastOk n es L'∧B3q es L'∧∀ K:Nat→List AV→Option R,Cx N K (es.flatMap Bq) es.length t o n fuel true (Az L)=K n (Az L')
 | s,fuel+1,L,h,hL,hf=>by
  obtain⟨k1,k2⟩:=Buk he es false L (fun _ hx=>hx) h
  have step:∀ K:Nat→List AV→Option R,Cx N K (es.flatMap Bq) es.length t o n (fuel+1) true (Az L)=Cx N K (es.flatMap Bq) es.length t o n fuel (es.foldl Ey (false,L)).1 (Az (es.foldl Ey (false,L)).2):=fun K=>by
   rw[Cx];unfold O0
   have:=Bcb (R:=R) (N:=N) (es:=es) (n:=n) (t:=t) (o:=o) (K1:=Cx N K (es.flatMap Bq) es.length t o n fuel) (K:=K) hs.2 he es.length 0 N (false,L) (by omega) hs.1 h.len
   simpa using this
  rcases k2 with⟨k3,k4⟩ | ⟨k3,k4⟩
  ·have hlt:Az1 (es.foldl Ey (false,L)).2<Az1 L:=by
    rcases k4 with k4 | ⟨k4,_⟩
    ·exact k4
    ·cases k4
   obtain⟨L',a1,a2,a3⟩:=Bcc hs he (s - 1) fuel _ k1 (by omega) (by omega)
   exact⟨L',a1,a2,fun K=>by rw[step,k3];exact a3 K⟩
  ·refine⟨L,h,k4,fun K=>?_⟩
   rw[step,k3]
   rcases fuel with _ | fuel
   ·omega
   ·rw[Cx];unfold O0;rfl
 termination_by s=>s
 decreasing_by omega
theorem Bcd {N:Nat} {es:List (Nat×Nat)} {n:Nat} {t o:Bool} {K:Nat→List AV→Option R} (hn:n<4611686018427387904) (L:List Int) (hL:L.length=n):∀ (m j fuel:Nat),j+m=n→m<fuel →
  Gz N K (n:Int) (es.flatMap Bq) es.length t o fuel n (j:Int) (Az ((On n).take j++L.drop j))=Cx N K (es.flatMap Bq) es.length t o n N true (Az (On n))
 | 0,j,fuel+1,hj,_=>by
  rw[Gz];unfold O1
  rw[ltF (by omega),cf,I8 (by omega),List.append_nil,List.take_of_length_le (by simp[On];omega)]
 | m+1,j,fuel+1,hj,hf=>by
  rw[Gz];unfold O1
  have h:j<n:=by omega
  have hlen:((On n).take j++L.drop j).length=n:=by simp[On];omega
  rw[ltT h,ct,Ab h,ct,Bui (by rw[hlen];simpa using h),ct,Int.toNat_natCast,Nat.zero_add,Nat.mul_one,A4r,B12 hL h,El (by omega),Bcd hn L hL m (j+1) fuel (by omega) (by omega)]
theorem B14 (n:Nat) (es:List (Nat×Nat)):LeastOk n es (On n):=by
 refine⟨by simp[On],fun b hb=>?_,fun b hb=>?_⟩
 ·rw[Brc hb];omega
 ·rw[Brc hb];exact .refl _
theorem Ca6 {L:List Int} {b:Nat}:(∀ x ∈ L,x.toNat≤b)→Az1 L≤L.length*b:=by
 unfold Az1
 induction L with
 | nil=>intro _;simp
 | cons a r ih =>
  intro h
  have h1:=h a (by simp)
  have h2:=ih (fun x hx=>h x (List.mem_cons_of_mem _ hx))
  simp[Nat.add_mul];omega
theorem A4s {N:Nat} {es:List (Nat×Nat)} {n:Nat} {t o:Bool} (hs:Pd es.length N) (hn:n≤1000) (hN:n*n+1000<N) (he:∀ e ∈ es,e.1<n∧e.2<n) :
  ∃ L,LeastOk n es L∧B3q es L∧∀ (m:Nat) (K:Nat→List AV→Option R),m=es.length→Mr N (n:Int) (es.flatMap Bq) m t o K=K n (Az L):=by
 have hsum:Az1 (On n)≤n*n:=by
  have:=Ca6 (L:=On n) (b:=n) (by
   intro x hx;simp[On] at hx;obtain⟨a,ha,rfl⟩:=hx;simp;omega)
  simpa[On] using this
 obtain⟨L,h1,h2,h3⟩:=Bcc (R:=R) (N:=N) (es:=es) (n:=n) (t:=t) (o:=o) hs he (n*n) N (On n) (B14 n es) hsum (by omega)
 refine⟨L,h1,h2,fun m K hm=>?_⟩
 subst hm
 rw[Ana];unfold Yz
 have ok:(decide ((0:Int)≤(n:Int))&&(decide ((n:Int)≤(n:Int))&&(decide ((n:Int)≤(140737488355328:Int))&&decide (((n:Int)*((8:Nat):Int))≤(140737488355328:Int)))))=true:=by simp;omega
 have e:List.replicate n (AV.int .i64 (0:Int))=Az (List.replicate n 0):=by simp[Az]
 have:=Bcd (R:=R) (N:=N) (es:=es) (n:=n) (t:=t) (o:=o) (K:=K) (by omega) (List.replicate n 0) (by simp) n 0 N (by omega) (by omega)
 rw[ok,ct,Int.toNat_natCast,e,←h3 K]
 simpa using this
theorem Az2 {N:Nat} {L:List Int} {t o:Bool} {K:Int→Option R} (hs:L.length<1000000):∀ (m j fuel:Nat) (a:Nat),j+m=L.length→m<fuel→a≤j →
  Kg N K (Az L) L.length t o fuel (a:Int) (j:Int)=K ((a+((List.range' j m).filter fun b=>L.getD b 0==(b:Int)).length:Nat):Int)
 | 0,j,fuel+1,a,hj,_,_=>by
  rw[Kg];unfold Uz
  rw[ltF (by omega),cf];simp
 | m+1,j,fuel+1,a,hj,hf,ha=>by
  rw[Kg];unfold Uz
  have h:j<L.length:=by omega
  rw[ltT h,ct,Ab h,ct,Blm h,El (by omega),El (by omega),List.range'_succ,List.filter_cons,Aks h]
  cases hx:L[j]==(j:Int) with
  | true =>
   rw[ct,Az2 hs m (j+1) fuel (a+1) (by omega) (by omega) (by omega)]
   simp;congr 1;omega
  | false =>
   rw[cf,Az2 hs m (j+1) fuel a (by omega) (by omega) (by omega)]
   simp
theorem Blw {N:Nat} {L:List Int} {n:Nat} {t o:Bool} {K:Int→Option R} (hn:n=L.length) (hs:L.length<1000000) (hN:L.length<N):Tx N (Az L) n t o K=K (B9r L:Int):=by
 subst hn
 rw[Axq];unfold Akg
 have:=Az2 (R:=R) (N:=N) (L:=L) (t:=t) (o:=o) (K:=K) hs L.length 0 N 0 (by omega) hN (by omega)
 simp only[Int.natCast_zero,Nat.zero_add] at this
 rw[B9r,List.range_eq_range']
 exact this
def A4t (gone:List Int):List (Nat×Nat)→Nat→List (Nat×Nat)
 | [],_=>[]
 | e::r,j=>cond (gone.contains (j:Int)) (A4t gone r (j+1)) (e::A4t gone r (j+1))
theorem Blx {N:Nat} {es:List (Nat×Nat)} {gone:List Int} {n:Nat} {t o t2 o2:Bool} {K:Bool→Option R} (hl:es.length≤1000) (hlN:es.length<N) (hn:n≤1000) (hN:n*n+1000<N) (he:∀ e ∈ es,e.1<n∧e.2<n) (hg:Pd gone.length N):∀ (m j fuel:Nat) (A:List (Nat×Nat)),j+m=es.length→m<fuel→A.length≤j→(∀ e ∈ A,e.1<n∧e.2<n) →
  Ex N K (n:Int) (es.flatMap Bq) es.length t o (Az gone) gone.length t2 o2 fuel A.length (j:Int) (A.flatMap Bq)=K (decide ((Wg n (A++A4t gone (es.drop j) j):Int)>(Wg n es:Int)))
 | 0,j,fuel+1,A,hj,_,hA,hAe=>by
  rw[Ex];unfold Lv
  obtain⟨L,a1,a2,a3⟩:=A4s (R:=R) (N:=N) (es:=A) (n:=n) (t:=false) (o:=true) ⟨by omega,by omega⟩ hn hN hAe
  obtain⟨L',b1,b2,b3⟩:=A4s (R:=R) (N:=N) (es:=es) (n:=n) (t:=false) (o:=o) ⟨by omega,by omega⟩ hn hN he
  have l1:=a1.len;have l2:=b1.len
  rw[ltF (by omega),cf,I8 (l:=es) (by omega),A4t,List.append_nil,List.take_of_length_le (by rw[Atj];exact Nat.le_refl _),a3 _ _ rfl,Nat.mul_one,List.take_of_length_le (by rw[Hx];omega),Blw (by omega) (by omega) (by omega),b3 _ _ rfl,List.take_of_length_le (by rw[Hx];omega),Blw (by omega) (by omega) (by omega),Bca a1 a2 hAe,Bca b1 b2 he]
 | m+1,j,fuel+1,A,hj,hf,hA,hAe=>by
  rw[Ex];unfold Lv
  have h:j<es.length:=by omega
  have ih1:=Blx (N:=N) (es:=es) (gone:=gone) (n:=n) (t:=t) (o:=o) (t2:=t2) (o2:=o2) (K:=K) hl hlN hn hN he hg m (j+1) fuel (A++[es[j]]) (by omega) (by omega) (by simp;omega) (by
   intro e he2
   rcases List.mem_append.1 he2 with h2 | h2
   ·exact hAe e h2
   ·simp at h2;subst h2;exact he _ (List.getElem_mem h))
  have ih2:=Blx (N:=N) (es:=es) (gone:=gone) (n:=n) (t:=t) (o:=o) (t2:=t2) (o2:=o2) (K:=K) hl hlN hn hN he hg m (j+1) fuel A (by omega) (by omega) (by omega) hAe
  rw[ltT h,ct,Akh rfl hg,Ab h,ct,Int.toNat_natCast,Bn Ru _ _ h,F4 (l:=es) h,A4t]
  generalize es[j]=e at *
  have b1:Nat.ble 2 (List.length (Bq e++List.flatMap Bq (List.drop (j+1) es)))=true:=by rw[Ef,List.length_append,Ru];simp
  have b2:List.take 2 (Bq e++List.flatMap Bq (List.drop (j+1) es))=Bq e:=List.take_left' (Ru e)
  have b3:(Nat.ble (A.length+1) 140737488355328&&Nat.ble ((A.length+1)*16) 140737488355328)=true:=by rw[Ef,Ef];simp;omega
  have p1:(!o||Bb (Bq e))=true:=by simp[Bq,Bb]
  have p3:List.take 2 (setCells [(.int .i64 (0:Int)),(.int .i64 (0:Int))] 0 (Bq e))=Bq e:=rfl
  have b5:List.take (A.length*2) (A.flatMap Bq)++Bq e=(A++[e]).flatMap Bq:=by
   rw[List.take_of_length_le (by rw[Atj];exact Nat.le_refl _)];simp
  rw[b1,ct,b2,p1,ct,Ru,show(Nat.beq 2 2&&Nat.ble 2 2)=true from rfl,ct,b3,ct,p3,b5,El (by omega)]
  cases gone.contains (j:Int) with
  | true=>simp only[Bool.not_true,cond_false,cond_true];exact ih2
  | false =>
   simp only[Bool.not_false,cond_true,cond_false]
   rw[List.length_append] at ih1
   simpa using ih1
theorem Bly {N:Nat} {es:List (Nat×Nat)} {gone:List Int} {n m m2:Nat} {t o t2 o2:Bool} {K:Bool→Option R} (hm:m=es.length) (hm2:m2=gone.length) (hl:es.length≤1000) (hlN:es.length<N) (hn:n≤1000) (hN:n*n+1000<N) (he:∀ e ∈ es,e.1<n∧e.2<n) (hg:Pd gone.length N) :
  Le N (n:Int) (es.flatMap Bq) m t o (Az gone) m2 t2 o2 K=K (decide ((Wg n (A4t gone es 0):Int)>(Wg n es:Int))):=by
 subst hm hm2
 rw[Aeh];unfold Rr
 have:=Blx (R:=R) (N:=N) (es:=es) (gone:=gone) (n:=n) (t:=t) (o:=o) (t2:=t2) (o2:=o2) (K:=K) hl hlN hn hN he hg es.length 0 N [] (by omega) hlN (by simp) (by simp)
 simpa using this
end
end Gx.Cf

namespace Gx.Cf
open Go Go.Proofs
section
variable {R:Type}
theorem C3 {p:Err} {ok:Bool} {w:Int×Int×Int} {e:{ e:Int // e≠0 }} (h:nd p ok w e=none):p=none∧ok=true:=by
 rcases p with _ | x
 ·cases ok
  ·simp[nd] at h
  ·exact⟨rfl,rfl⟩
 ·simp[nd] at h
theorem Pg {α:Type} {f:Nat→α→Err→Err} (hf:∀ j a x,f j a (some x)=some x):∀ (l:List α) (j:Nat) (p:Err),Fj f l j p=none→p=none∧∀ i (h:i<l.length),f (j+i) l[i] none=none
 | [],j,p,h=>by rw[Fj] at h;exact⟨h,fun i hi=>by simp at hi⟩
 | a::r,j,p,h=>by
  rw[Fj] at h
  obtain⟨h1,h2⟩:=Pg hf r (j+1) _ h
  have hp:p=none:=by
   rcases p with _ | x
   ·rfl
   ·rw[hf] at h1;cases h1
  subst hp
  refine⟨rfl,fun i hi=>?_⟩
  cases i with
  | zero=>simpa using h1
  | succ i=>have:=h2 i (by simpa using hi);rw[show j+1+i=j+(i+1) by omega] at this;simpa using this
theorem A7l {c:CaseD} (j:Nat) (x:BusD) (y:(Int×Int×Int)×{ e:Int // e≠0 }):B9m c j x (some y)=some y:=rfl
theorem Az3 {c:CaseD} (j:Nat) (x:LineD) (y:(Int×Int×Int)×{ e:Int // e≠0 }):Bra c j x (some y)=some y:=rfl
theorem Ar7 {c:CaseD} (j:Nat) (x:StoreD) (y:(Int×Int×Int)×{ e:Int // e≠0 }):Blp c j x (some y)=some y:=rfl
theorem A7m {c:CaseD} (j:Nat) (x:TieD) (y:(Int×Int×Int)×{ e:Int // e≠0 }):B9n c j x (some y)=some y:=rfl
theorem Az4 {c:CaseD} (j:Nat) (x:UnitD) (y:(Int×Int×Int)×{ e:Int // e≠0 }):Byj c j x (some y)=some y:=by
 show cond (x.state==2) _ _=_
 cases x.state==2<;>rfl
def B8i (c:CaseD):Err :=
 let p:=B1z c none
 let p:=Fj (B9m c) c.buses.l 0 p
 let p:=Fj (Bra c) c.lines.l 0 p
 let p:=Fj (Byj c) c.units.l 0 p
 let p:=Fj (Blp c) c.stores.l 0 p
 let p:=Fj (B9n c) c.ties.l 0 p
 Fj (B6n c) c.outs.l 0 p
noncomputable def B8j (c:CaseD) (h:Int) (o:OutD):Bool :=
 (Wg c.buses.l.length (((A8 c h).filter fun l=>!o.lines.l.contains l).map (He c)):Int)==(Wg c.buses.l.length ((A8 c h).map (He c)):Int)
noncomputable def B8k (c:CaseD) (h:Int) (j:Nat) (o:OutD) (p:Err):Err:=nd p (B8j c h o) (6,j,h) e13
noncomputable def Az5 (c:CaseD):Nat→Nat→Err→Err
 | 0,_,p=>p
 | m+1,j,p=>Az5 c m (j+1) (Fj (B8k c j) c.outs.l 0 p)
theorem B6p {c:CaseD} {h:Int} (j:Nat) (x:OutD) (y:(Int×Int×Int)×{ e:Int // e≠0 }):B8k c h j x (some y)=some y:=rfl
theorem Bce {c:CaseD} {y:(Int×Int×Int)×{ e:Int // e≠0 }}:∀ (m j:Nat),Az5 c m j (some y)=some y
 | 0,_=>rfl
 | m+1,j=>by rw[Az5,Mu (fun j a=>B6p j a y)];exact Bce m (j+1)
noncomputable def Ar8 (c:CaseD):Err:=match B8i c with
 | some x=>some x
 | none=>Az5 c c.hours.toNat 0 none
structure PreV (c:CaseD):Prop where
 hours:1≤c.hours∧c.hours≤24
 nb:c.buses.l.length≤32
 nl:c.lines.l.length≤64
 no:c.outs.l.length≤64
 line:∀ x ∈ c.lines.l,0≤x.fr∧x.fr.toNat<c.buses.l.length∧0≤x.to∧x.to.toNat<c.buses.l.length
 out:∀ x ∈ c.outs.l,x.lines.l.length≤2
theorem B6q {c:CaseD} (h:B8i c=none):PreV c:=by
 unfold B8i at h
 obtain⟨h6,o6⟩:=Pg (fun _ _ _=>A7j) _ _ _ h
 obtain⟨h5,o5⟩:=Pg (fun j a x=>A7m j a x) _ _ _ h6
 obtain⟨h4,o4⟩:=Pg (fun j a x=>Ar7 j a x) _ _ _ h5
 obtain⟨h3,o3⟩:=Pg (fun j a x=>Az4 j a x) _ _ _ h4
 obtain⟨h2,o2⟩:=Pg (fun j a x=>Az3 j a x) _ _ _ h3
 obtain⟨h1,o1⟩:=Pg (fun j a x=>A7l j a x) _ _ _ h2
 unfold B1z at h1
 obtain⟨w7,e7⟩:=C3 h1
 obtain⟨w6,_⟩:=C3 w7
 obtain⟨w5,_⟩:=C3 w6
 obtain⟨w4,_⟩:=C3 w5
 obtain⟨w3,e3'⟩:=C3 w4
 obtain⟨w2,e2'⟩:=C3 w3
 obtain⟨w1,_⟩:=C3 w2
 obtain⟨w0,_⟩:=C3 w1
 obtain⟨_,e0⟩:=C3 w0
 unfold btw at e0 e2'
 simp at e0 e2' e3' e7
 refine⟨e0,by omega,by omega,by omega,fun x hx=>?_,fun x hx=>?_⟩
 ·obtain⟨i,hi,rfl⟩:=List.getElem_of_mem hx
  have:=o2 i hi
  unfold Bra Blo at this
  obtain⟨a,_⟩:=C3 this
  obtain⟨a,_⟩:=C3 a
  obtain⟨a,_⟩:=C3 a
  obtain⟨a,_⟩:=C3 a
  obtain⟨a,_⟩:=C3 a
  obtain⟨a,_⟩:=C3 a
  obtain⟨a,_⟩:=C3 a
  obtain⟨a,_⟩:=C3 a
  obtain⟨a,b1⟩:=C3 a
  obtain⟨_,b2⟩:=C3 a
  unfold Bb6 at b1 b2
  simp at b1 b2
  omega
 ·obtain⟨i,hi,rfl⟩:=List.getElem_of_mem hx
  have:=o6 i hi
  unfold B6n B10 at this
  obtain⟨a,_⟩:=C3 this
  obtain⟨a,_⟩:=C3 a
  obtain⟨a,_⟩:=C3 a
  obtain⟨a,_⟩:=C3 a
  obtain⟨a,_⟩:=C3 a
  obtain⟨a,_⟩:=C3 a
  obtain⟨a,_⟩:=C3 a
  obtain⟨_,b2⟩:=C3 a
  simp at b2
  omega
theorem PreV.lnV {c:CaseD} (v:PreV c) {h:Int} {l:Int} (hl:l ∈ A8 c h):∃ x,LnV c l x:=by
 have:=Byl h c.lines.l 0 l hl
 have h0:0≤l:=by omega
 have h1:l.toNat<c.lines.l.length:=by omega
 obtain⟨a,b,d,e⟩:=v.line _ (List.getElem_mem h1)
 exact⟨c.lines.l[l.toNat],h0,h1,List.getElem?_eq_getElem h1,a,b,d,e⟩
def w3 (p:Err):List AV:=match p with
 | none=>[.int .i64 0,.int .i64 0,.int .i64 0]
 | some ((a,b,f),_)=>[.int .i64 a,.int .i64 b,.int .i64 f]
end
end Gx.Cf

namespace Gx
open Go Go.Proofs
open IntKind (wrap)
set_option maxRecDepth 100000
noncomputable section
variable {R:Type} (N:Nat)
def Rv (k0:Int→LA→O R) (r0:LA→Int→O R) (b:Bool) (a:LA) (v:Int) (ak:LA):O R :=
 (cond (Nat.ble 8 (a.length)) (B7 N (a.take 8) b 1 v ak (fun al=>(cond (Nat.ble 8 (a.length)) (rdL 3 (a.drop 2) fun am an=>(cond (Aj v an) (rdL 1 ((am.drop ((v.toNat)*3)).drop 1) fun ao ap=>(By N (a.take 8) b ao ap false b 0 1048576 1 v 1 al (fun aq=>(rdL 3 (a.drop 2) fun ar au=>(cond (Aj v au) (rdI .i64 ((ar.drop ((v.toNat)*3)).drop 2) fun av=>(Ar N 0 1048576 [(.int .i64 av)] 1 false true (fun aw=>(Aa N aw 1 v 2 3 aq (fun ax=>(k0 (wrap .i64 (v+1)) ax)))))) none))))) none)) none))) none)
def Rw (k7:Int→LA→O R) (k9:Int→Int→LA→O R) (r0:LA→Int→O R) (d e:Nat) (b:Bool) (a f g:LA) (k10:Int→Int→Nat→Int→LA→LA→O R) (u o:Int) (l:Nat) (p:Int) (w x:LA):O R :=
 (cond (decide (p<((e:Nat):Int))) (rdL 4 (a.drop 7) fun ay az=>(cond (Aj o az) (rdL 1 ((ay.drop ((o.toNat)*4)).drop 1) fun ba bb=>(cond (Aj p e) (rdI .i64 (g.drop (0+((p.toNat)*1))) fun bc=>(Aeb N ba bb false b bc (fun bd=>(cond bd (cond ((Nat.ble (l+1) 140737488355328)&&(Nat.ble ((l+1)*8) 140737488355328)) (k10 u o (l+1) (wrap .i64 (p+1)) w ((x.take (l*1))++[(.int .i64 p)])) none) (k10 u o l (wrap .i64 (p+1)) w x))))) none)) none)) (rdL 3 (a.drop 2) fun ch be=>(Le N ((be:Nat):Int) (f.take (d*2)) d false true (x.take (l*1)) l false true (fun bf=>(Aa N (!bf) 6 o u 13 w (fun bg=>(k9 u (wrap .i64 (o+1)) bg)))))))
def Ii (k7:Int→LA→O R) (k9:Int→Int→LA→O R) (r0:LA→Int→O R) (d e:Nat) (b:Bool) (a f g:LA):Nat→Int→Int→Nat→Int→LA→LA→O R
 | 0,_,_,_,_,_,_=>none
 | n+1,u,o,l,p,w,x=>(Rw N k7 k9 r0 d e b a f g (Ii k7 k9 r0 d e b a f g n) u o l p w x)
def U0 (N:Nat) (k7:Int→LA→O R) (r0:LA→Int→O R) (d e:Nat) (b:Bool) (a f g:LA) (k9:Int→Int→LA→O R) (q10:Int→Int→Nat→Int→LA→LA→O R) (q r:Int) (s:LA):O R :=
 (rdL 4 (a.drop 7) fun ci bh=>(cond (decide (r<((bh:Nat):Int))) (q10 q r 0 0 s []) (k7 (wrap .i64 (q+1)) s)))
def H3 (k7:Int→LA→O R) (r0:LA→Int→O R) (d e:Nat) (b:Bool) (a f g:LA):Nat→Int→Int→LA→O R
 | 0,_,_,_=>none
 | n+1,q,r,s=>(U0 N k7 r0 d e b a f g (H3 k7 r0 d e b a f g n) (fun u o l p w x=>(Ii N k7 (H3 k7 r0 d e b a f g n) r0 d e b a f g N u o l p w x)) q r s)
def Afe (k7:Int→LA→O R) (r0:LA→Int→O R) (b:Bool) (a:LA) (q9:Nat→Nat→LA→LA→Int→Int→LA→O R) (ai:Int) (aj:LA):O R :=
 (cond (Nat.ble 8 (a.length)) (Ze N (a.take 8) b ai (fun d e f g=>(q9 d e f g ai 0 aj))) none)
def Y1 (k7:Int→LA→O R) (r0:LA→Int→O R) (b:Bool) (a:LA) (ai:Int) (aj:LA):O R:=(Afe N k7 r0 b a (fun d e f g q r s=>(H3 N k7 r0 d e b a f g N q r s)) ai aj)
def Oo (N:Nat) (r0:LA→Int→O R) (b:Bool) (a:LA) (k7:Int→LA→O R) (q8:Int→LA→O R) (i:Int) (c:LA):O R :=
 (rdI .i64 a fun bi=>(cond ((decide (i<bi))==true) (rdI .i64 (c.drop 3) fun bj=>(cond (cond true (bj==0) false) (q8 i c) (cond (Nat.ble 3 (c.length)) (rdI .i64 (c.drop 3) fun bk=>(cond ((Nat.beq ((c.take 3).length) 3)&&((Nat.ble 3 3)&&(!false))) (cond (Nat.ble 3 ((setCells [(.int .i64 0),(.int .i64 0),(.int .i64 0)] 0 (c.take 3)).length)) (r0 ((setCells [(.int .i64 0),(.int .i64 0),(.int .i64 0)] 0 (c.take 3)).take 3) bk) none) none)) none))) (cond (Nat.ble 3 (c.length)) (rdI .i64 (c.drop 3) fun bl=>(cond ((Nat.beq ((c.take 3).length) 3)&&((Nat.ble 3 3)&&(!false))) (cond (Nat.ble 3 ((setCells [(.int .i64 0),(.int .i64 0),(.int .i64 0)] 0 (c.take 3)).length)) (r0 ((setCells [(.int .i64 0),(.int .i64 0),(.int .i64 0)] 0 (c.take 3)).take 3) bl) none) none)) none)))
def Dr (r0:LA→Int→O R) (b:Bool) (a:LA):Nat→Int→LA→O R
 | 0,_,_=>none
 | n+1,i,c=>(Oo N r0 b a (Dr r0 b a n) (fun ai aj=>(Y1 N (Dr r0 b a n) r0 b a ai aj)) i c)
def U4 (r0:LA→Int→O R) (b:Bool) (a:LA) (k6:Int→LA→O R) (q7:Int→LA→O R) (ad:Int) (y:LA):O R :=
 (rdL 4 (a.drop 7) fun cj bm=>(cond ((decide (ad<((bm:Nat):Int)))==true) (rdI .i64 (y.drop 3) fun bn=>(cond (cond true (bn==0) false) (cond (Nat.ble 8 (a.length)) (Ev N (a.take 8) b ad y (fun bo=>(k6 (wrap .i64 (ad+1)) bo))) none) (q7 0 y))) (q7 0 y)))
def Kh (r0:LA→Int→O R) (b:Bool) (a:LA):Nat→Int→LA→O R
 | 0,_,_=>none
 | n+1,ad,y=>(U4 N r0 b a (Kh r0 b a n) (fun i c=>(Dr N r0 b a N i c)) ad y)
def U5 (r0:LA→Int→O R) (b:Bool) (a:LA) (k5:Int→LA→O R) (q6:Int→LA→O R) (ae:Int) (z:LA):O R :=
 (rdL 5 (a.drop 6) fun ck bp=>(cond ((decide (ae<((bp:Nat):Int)))==true) (rdI .i64 (z.drop 3) fun bq=>(cond (cond true (bq==0) false) (cond (Nat.ble 8 (a.length)) (Hp N (a.take 8) b ae z (fun br=>(k5 (wrap .i64 (ae+1)) br))) none) (q6 0 z))) (q6 0 z)))
def Ki (r0:LA→Int→O R) (b:Bool) (a:LA):Nat→Int→LA→O R
 | 0,_,_=>none
 | n+1,ae,z=>(U5 N r0 b a (Ki r0 b a n) (fun ad y=>(Kh N r0 b a N ad y)) ae z)
def U6 (r0:LA→Int→O R) (b:Bool) (a:LA) (k4:Int→LA→O R) (q5:Int→LA→O R) (af:Int) (aa:LA):O R :=
 (rdL 9 (a.drop 5) fun cl bs=>(cond ((decide (af<((bs:Nat):Int)))==true) (rdI .i64 (aa.drop 3) fun bt=>(cond (cond true (bt==0) false) (cond (Nat.ble 8 (a.length)) (Fk N (a.take 8) b af aa (fun bu=>(k4 (wrap .i64 (af+1)) bu))) none) (q5 0 aa))) (q5 0 aa)))
def Kj (r0:LA→Int→O R) (b:Bool) (a:LA):Nat→Int→LA→O R
 | 0,_,_=>none
 | n+1,af,aa=>(U6 N r0 b a (Kj r0 b a n) (fun ae z=>(Ki N r0 b a N ae z)) af aa)
def U7 (r0:LA→Int→O R) (b:Bool) (a:LA) (k3:Int→LA→O R) (q4:Int→LA→O R) (ag:Int) (ab:LA):O R :=
 (rdL 22 (a.drop 4) fun cm bv=>(cond ((decide (ag<((bv:Nat):Int)))==true) (rdI .i64 (ab.drop 3) fun bw=>(cond (cond true (bw==0) false) (cond (Nat.ble 8 (a.length)) (Gf N (a.take 8) b ag ab (fun bx=>(k3 (wrap .i64 (ag+1)) bx))) none) (q4 0 ab))) (q4 0 ab)))
def Kk (r0:LA→Int→O R) (b:Bool) (a:LA):Nat→Int→LA→O R
 | 0,_,_=>none
 | n+1,ag,ab=>(U7 N r0 b a (Kk r0 b a n) (fun af aa=>(Kj N r0 b a N af aa)) ag ab)
def U8 (r0:LA→Int→O R) (b:Bool) (a:LA) (k2:Int→LA→O R) (q3:Int→LA→O R) (ah:Int) (ac:LA):O R :=
 (rdL 12 (a.drop 3) fun cn bz=>(cond ((decide (ah<((bz:Nat):Int)))==true) (rdI .i64 (ac.drop 3) fun ca=>(cond (cond true (ca==0) false) (cond (Nat.ble 8 (a.length)) (Ge N (a.take 8) b ah ac (fun cb=>(k2 (wrap .i64 (ah+1)) cb))) none) (q3 0 ac))) (q3 0 ac)))
def Kl (r0:LA→Int→O R) (b:Bool) (a:LA):Nat→Int→LA→O R
 | 0,_,_=>none
 | n+1,ah,ac=>(U8 N r0 b a (Kl r0 b a n) (fun ag ab=>(Kk N r0 b a N ag ab)) ah ac)
def U9 (N:Nat) (r0:LA→Int→O R) (b:Bool) (a:LA) (k0:Int→LA→O R) (q1:Int→LA→O R) (q2:Int→LA→O R) (t:Int) (m:LA):O R :=
 (rdL 3 (a.drop 2) fun co cc=>(cond ((decide (t<((cc:Nat):Int)))==true) (rdI .i64 (m.drop 3) fun cd=>(cond (cond true (cd==0) false) (q1 t m) (q2 0 m))) (q2 0 m)))
def H4 (r0:LA→Int→O R) (b:Bool) (a:LA):Nat→Int→LA→O R
 | 0,_,_=>none
 | n+1,t,m=>(U9 N r0 b a (H4 r0 b a n) (fun v ak=>(Rv N (H4 r0 b a n) r0 b a v ak)) (fun ah ac=>(Kl N r0 b a N ah ac)) t m)
def Akt (r0:LA→Int→O R) (q0:Int→LA→O R) (a:LA) (b:Bool):O R :=
 (cond (Nat.ble 8 (a.length)) (Fi N (a.take 8) b [(.int .i64 0),(.int .i64 0),(.int .i64 0),(.int .i64 0)] (fun ce=>(q0 0 ce))) none)
def Zg:=(Ak (fun (N:Nat) (a:LA) (b:Bool) (r0:LA→Int→O R)=>(Akt N r0 (fun t m=>(H4 N r0 b a N t m)) a b))).1
theorem Axt (a b r0):(@Zg R N a b r0)=(Akt N r0 (fun t m=>(H4 N r0 b a N t m)) a b):=by rw[Zg,(Ak _).2]
def A4u:Hints:={ H:=(hS hL (hS hL (hS hL (hS (hS hL (hS (hP [1,2,4,5] (hJ [1,2,4,5] hL hL)) hL)) (hS (hS hL (hS (hP [1,2,4,6] hL) hL)) (hS (hS hL (hS (hP [1,2,4,7] hL) hL)) (hS (hS hL (hS (hP [1,2,4,8] hL) hL)) (hS (hS hL (hS (hP [1,2,4,9] hL) hL)) (hS (hS hL (hS (hP [1,2,4,10] hL) hL)) (hS (hS hL (hS (hP [1,2,4,11] (hJ [1,2,4,11] hL (hS (hS (hS hL (hS hL (hS (hP [1,2,4,11,12,13,14] (hS hL (hS (hS (hS hL (hS (hS hL (hS (hP [1,2,4,11,12,13,14,15,16] hL) hL)) hL)) hL) hL))) hL))) hL) hL))) hL)) hL)))))))))),nils:=[(15,1)],modes:=[(3,0),(0,0)] }
def Bcf:Tbl:=[(152,Vy N),(153,De N),(154,G2 N),(156,Ce N),(155,Bc N),(157,X2 N),(158,X7 N),(159,Wd N),(160,Abv N),(161,Se N),(162,A4h N),(163,Ake N),(164,Ahu N)]
def Eb (F:KF R):=atM Tryz.f112 A4u (Bcf N) [] N F
def A5 (F:KF R):LA→Int→O R:=(fun cf cg=>F (.tup [(.pagg cf false),(.int .i64 cg)]) [])
def Bul (b:Bool) (a:LA) (v:Int) (ak:LA):St:=⟨[(1,(.optr 300000 0)),(2,(.optr 300001 0)),(4,(.optr 300002 0)),(5,(.int .i64 v))],[(300000,(bP b 0 a)),(300001,(bQ 0 [(.int .i64 0),(.int .i64 0),(.int .i64 0)])),(300002,(bQ 0 ak))]⟩
def Bum (F:KF R) (Q0:St→O R):=Eb N F [1,1,1,0,1,0,0,1] [Q0]
def Boc (d e:Nat) (b:Bool) (a f g:LA) (u o:Int) (l:Nat) (p:Int) (w x:LA):St:=⟨[(1,(.optr 300000 0)),(2,(.optr 300001 0)),(4,(.optr 300002 0)),(11,(.int .i64 u)),(12,(.own 300003 0 d)),(13,(.own 300004 0 e)),(14,(.int .i64 o)),(15,(.own 300005 0 l)),(16,(.int .i64 p))],[(300000,(bP b 0 a)),(300001,(bQ 0 [(.int .i64 0),(.int .i64 0),(.int .i64 0)])),(300002,(bQ 0 w)),(300003,(bQ 2 f)),(300004,(bQ 1 g)),(300005,(bQ 1 x))]⟩
def Bod (F:KF R) (Q7 Q9:St→O R):=Eb N F [1,1,1,1,1,1,1,1,1,0,1,0,0,1,0,0,1,1,0,0,1,0,0,1,0,1,0] [Q7,Q9]
def Aku (d e:Nat) (b:Bool) (a f g:LA) (q r:Int) (s:LA):St:=⟨[(1,(.optr 300000 0)),(2,(.optr 300001 0)),(4,(.optr 300002 0)),(11,(.int .i64 q)),(12,(.own 300003 0 d)),(13,(.own 300004 0 e)),(14,(.int .i64 r))],[(300000,(bP b 0 a)),(300001,(bQ 0 [(.int .i64 0),(.int .i64 0),(.int .i64 0)])),(300002,(bQ 0 s)),(300003,(bQ 2 f)),(300004,(bQ 1 g))]⟩
def A4v (F:KF R) (Q7:St→O R):=Eb N F [1,1,1,1,1,1,1,1,1,0,1,0,0,1,0,0,1,1,0] [Q7]
def Bun (b:Bool) (a:LA) (ai:Int) (aj:LA):St:=⟨[(1,(.optr 300000 0)),(2,(.optr 300001 0)),(4,(.optr 300002 0)),(11,(.int .i64 ai))],[(300000,(bP b 0 a)),(300001,(bQ 0 [(.int .i64 0),(.int .i64 0),(.int .i64 0)])),(300002,(bQ 0 aj))]⟩
def Buo (F:KF R) (Q7:St→O R):=Eb N F [1,1,1,1,1,1,1,1,1,0,1,0,0,1] [Q7]
def H5 (b:Bool) (a:LA) (i:Int) (c:LA):St:=⟨[(1,(.optr 300000 0)),(2,(.optr 300001 0)),(4,(.optr 300002 0)),(11,(.int .i64 i))],[(300000,(bP b 0 a)),(300001,(bQ 0 [(.int .i64 0),(.int .i64 0),(.int .i64 0)])),(300002,(bQ 0 c))]⟩
def A4w (F:KF R):=Eb N F [1,1,1,1,1,1,1,1,1,0,1,0] []
def Bup (b:Bool) (a:LA) (ad:Int) (y:LA):St:=⟨[(1,(.optr 300000 0)),(2,(.optr 300001 0)),(4,(.optr 300002 0)),(10,(.int .i64 ad))],[(300000,(bP b 0 a)),(300001,(bQ 0 [(.int .i64 0),(.int .i64 0),(.int .i64 0)])),(300002,(bQ 0 y))]⟩
def Buq (F:KF R):=Eb N F [1,1,1,1,1,1,1,1,0,1,0] []
def Bur (b:Bool) (a:LA) (ae:Int) (z:LA):St:=⟨[(1,(.optr 300000 0)),(2,(.optr 300001 0)),(4,(.optr 300002 0)),(9,(.int .i64 ae))],[(300000,(bP b 0 a)),(300001,(bQ 0 [(.int .i64 0),(.int .i64 0),(.int .i64 0)])),(300002,(bQ 0 z))]⟩
def Bus (F:KF R):=Eb N F [1,1,1,1,1,1,1,0,1,0] []
def But (b:Bool) (a:LA) (af:Int) (aa:LA):St:=⟨[(1,(.optr 300000 0)),(2,(.optr 300001 0)),(4,(.optr 300002 0)),(8,(.int .i64 af))],[(300000,(bP b 0 a)),(300001,(bQ 0 [(.int .i64 0),(.int .i64 0),(.int .i64 0)])),(300002,(bQ 0 aa))]⟩
def Buu (F:KF R):=Eb N F [1,1,1,1,1,1,0,1,0] []
def Buv (b:Bool) (a:LA) (ag:Int) (ab:LA):St:=⟨[(1,(.optr 300000 0)),(2,(.optr 300001 0)),(4,(.optr 300002 0)),(7,(.int .i64 ag))],[(300000,(bP b 0 a)),(300001,(bQ 0 [(.int .i64 0),(.int .i64 0),(.int .i64 0)])),(300002,(bQ 0 ab))]⟩
def Buw (F:KF R):=Eb N F [1,1,1,1,1,0,1,0] []
def Bux (b:Bool) (a:LA) (ah:Int) (ac:LA):St:=⟨[(1,(.optr 300000 0)),(2,(.optr 300001 0)),(4,(.optr 300002 0)),(6,(.int .i64 ah))],[(300000,(bP b 0 a)),(300001,(bQ 0 [(.int .i64 0),(.int .i64 0),(.int .i64 0)])),(300002,(bQ 0 ac))]⟩
def Buy (F:KF R):=Eb N F [1,1,1,1,0,1,0] []
def A4x (b:Bool) (a:LA) (t:Int) (m:LA):St:=⟨[(1,(.optr 300000 0)),(2,(.optr 300001 0)),(4,(.optr 300002 0)),(5,(.int .i64 t))],[(300000,(bP b 0 a)),(300001,(bQ 0 [(.int .i64 0),(.int .i64 0),(.int .i64 0)])),(300002,(bQ 0 m))]⟩
def A4y (F:KF R):=Eb N F [1,1,1,0,1,0] []
theorem Bdo (Q0:St→O R) (F:KF R) (b:Bool) (a:LA):∀ (v:Int) (ak:LA),Bh (Bum N F Q0) (Bul b a v ak)=(Rv N (fun t m=>Q0 (A4x b a t m)) (A5 F) b a v ak):=by
 intro v ak
 kernel_rfl
theorem Aia (Q7 Q9:St→O R) (F:KF R) (d e:Nat) (b:Bool) (a f g:LA):∀ (n:Nat) (u o:Int) (l:Nat) (p:Int) (w x:LA),As (Bod N F Q7 Q9) n (Boc d e b a f g u o l p w x)=(Ii N (fun i c=>Q7 (H5 b a i c)) (fun q r s=>Q9 (Aku d e b a f g q r s)) (A5 F) d e b a f g n u o l p w x)
 | 0,_,_,_,_,_,_=>by kernel_rfl
 | n+1,u,o,l,p,w,x=>Eq.trans (by kernel_rfl) (cgA (Rw N (fun i c=>Q7 (H5 b a i c)) (fun q r s=>Q9 (Aku d e b a f g q r s)) (A5 F) d e b a f g · u o l p w x) (funext fun u=>funext fun o=>funext fun l=>funext fun p=>funext fun w=>funext fun x=>(Aia Q7 Q9 F d e b a f g n u o l p w x)):_)
theorem Anh (Q7:St→O R) (F:KF R) (d e:Nat) (b:Bool) (a f g:LA):∀ (n:Nat) (q r:Int) (s:LA),As (A4v N F Q7) n (Aku d e b a f g q r s)=(H3 N (fun i c=>Q7 (H5 b a i c)) (A5 F) d e b a f g n q r s)
 | 0,_,_,_=>by kernel_rfl
 | n+1,q,r,s=>have e0:=(funext fun q=>funext fun r=>funext fun s=>(Anh Q7 F d e b a f g n q r s))
  Eq.trans (by kernel_rfl) (cgB (U0 N (fun i c=>Q7 (H5 b a i c)) (A5 F) d e b a f g · · q r s) e0 (funext fun u=>funext fun o=>funext fun l=>funext fun p=>funext fun w=>funext fun x=>(Am ..).trans ((Aia N Q7 (As (A4v N F Q7) n) F d e b a f g N u o l p w x).trans (cgA (Ii N (fun i c=>Q7 (H5 b a i c)) · (A5 F) d e b a f g N u o l p w x) e0))):_)
theorem Bdp (Q7:St→O R) (F:KF R) (b:Bool) (a:LA):∀ (ai:Int) (aj:LA),Bh (Buo N F Q7) (Bun b a ai aj)=(Y1 N (fun i c=>Q7 (H5 b a i c)) (A5 F) b a ai aj):=by
 intro ai aj
 exact Eq.trans (by kernel_rfl) (cgA (Afe N (fun i c=>Q7 (H5 b a i c)) (A5 F) b a · ai aj) (funext fun d=>funext fun e=>funext fun f=>funext fun g=>funext fun q=>funext fun r=>funext fun s=>(Am ..).trans (Anh N Q7 F d e b a f g N q r s)):_)
theorem Ani (F:KF R) (b:Bool) (a:LA):∀ (n:Nat) (i:Int) (c:LA),As (A4w N F) n (H5 b a i c)=(Dr N (A5 F) b a n i c)
 | 0,_,_=>by kernel_rfl
 | n+1,i,c=>have e0:=(funext fun i=>funext fun c=>(Ani F b a n i c))
  Eq.trans (by kernel_rfl) (cgB (Oo N (A5 F) b a · · i c) e0 (funext fun ai=>funext fun aj=>(Au ..).trans ((Bdp N (As (A4w N F) n) F b a ai aj).trans (cgA (Y1 N · (A5 F) b a ai aj) e0))):_)
theorem Anj (F:KF R) (b:Bool) (a:LA):∀ (n:Nat) (ad:Int) (y:LA),As (Buq N F) n (Bup b a ad y)=(Kh N (A5 F) b a n ad y)
 | 0,_,_=>by kernel_rfl
 | n+1,ad,y=>Eq.trans (by kernel_rfl) (cgB (U4 N (A5 F) b a · · ad y) (funext fun ad=>funext fun y=>(Anj F b a n ad y)) (funext fun i=>funext fun c=>(Am ..).trans (Ani N F b a N i c)):_)
theorem Ank (F:KF R) (b:Bool) (a:LA):∀ (n:Nat) (ae:Int) (z:LA),As (Bus N F) n (Bur b a ae z)=(Ki N (A5 F) b a n ae z)
 | 0,_,_=>by kernel_rfl
 | n+1,ae,z=>Eq.trans (by kernel_rfl) (cgB (U5 N (A5 F) b a · · ae z) (funext fun ae=>funext fun z=>(Ank F b a n ae z)) (funext fun ad=>funext fun y=>(Am ..).trans (Anj N F b a N ad y)):_)
theorem Anl (F:KF R) (b:Bool) (a:LA):∀ (n:Nat) (af:Int) (aa:LA),As (Buu N F) n (But b a af aa)=(Kj N (A5 F) b a n af aa)
 | 0,_,_=>by kernel_rfl
 | n+1,af,aa=>Eq.trans (by kernel_rfl) (cgB (U6 N (A5 F) b a · · af aa) (funext fun af=>funext fun aa=>(Anl F b a n af aa)) (funext fun ae=>funext fun z=>(Am ..).trans (Ank N F b a N ae z)):_)
theorem Anm (F:KF R) (b:Bool) (a:LA):∀ (n:Nat) (ag:Int) (ab:LA),As (Buw N F) n (Buv b a ag ab)=(Kk N (A5 F) b a n ag ab)
 | 0,_,_=>by kernel_rfl
 | n+1,ag,ab=>Eq.trans (by kernel_rfl) (cgB (U7 N (A5 F) b a · · ag ab) (funext fun ag=>funext fun ab=>(Anm F b a n ag ab)) (funext fun af=>funext fun aa=>(Am ..).trans (Anl N F b a N af aa)):_)
theorem Ann (F:KF R) (b:Bool) (a:LA):∀ (n:Nat) (ah:Int) (ac:LA),As (Buy N F) n (Bux b a ah ac)=(Kl N (A5 F) b a n ah ac)
 | 0,_,_=>by kernel_rfl
 | n+1,ah,ac=>Eq.trans (by kernel_rfl) (cgB (U8 N (A5 F) b a · · ah ac) (funext fun ah=>funext fun ac=>(Ann F b a n ah ac)) (funext fun ag=>funext fun ab=>(Am ..).trans (Anm N F b a N ag ab)):_)
theorem Ano (F:KF R) (b:Bool) (a:LA):∀ (n:Nat) (t:Int) (m:LA),As (A4y N F) n (A4x b a t m)=(H4 N (A5 F) b a n t m)
 | 0,_,_=>by kernel_rfl
 | n+1,t,m=>have e0:=(funext fun t=>funext fun m=>(Ano F b a n t m))
  Eq.trans (by kernel_rfl) (cgC (U9 N (A5 F) b a · · · t m) e0 (funext fun v=>funext fun ak=>(Au ..).trans ((Bdo N (As (A4y N F) n) F b a v ak).trans (cgA (Rv N · (A5 F) b a v ak) e0))) (funext fun ah=>funext fun ac=>(Am ..).trans (Ann N F b a N ah ac)):_)
theorem A4z (a:LA) (b:Bool) (F:KF R):exM (Bcf N) A4u N 112 [(.pagg a b)] [] F=(Zg N a b (A5 F)):=by
 rw[Axt]
 exact Eq.trans (by kernel_rfl) (cgA (Akt N (A5 F) · a b) (funext fun t=>funext fun m=>(Am ..).trans (Ano N F b a N t m)):_)
def Axu (args:List AV) (h:Al) (k:KF R):O R :=
 match args,h with
 | [(.pagg a b)],[]=>(Zg N a b (A5 k))
 | _,_=>none
theorem A40:Aq N 112 @Axu:=by
 intro R Q args h k j;unfold Axu;split
 exact A0 (A4z ..) (A4z ..) ⟨Arr N,Ed N,Lf N,Cw N,Bi N,At8 N,Aud N,Ar3 N,Az0 N,Anx N,Bua N,Azy N,A7h N,trivial⟩
 exact A2
def A41:=A1 (A40 N)
theorem Buz:Ay Tryz.prog 112 (A41 N):=A3 (A40 N) follows
end
end Gx

namespace Gx.Cf
open Go Go.Proofs
section
variable {R:Type}
theorem B8l {N:Nat} {c:CaseD} {p:Err} {o:Bool} {j:Nat} {K:Int→List AV→Option R} {K2:List AV→Int→Option R} (hs:Small c N) (h:j<c.buses.l.length) :
  Rv N K K2 o c.av (j:Int) (Cq p)=K ((j+1:Nat):Int) (Cq (B9m c j c.buses.l[j] p)):=by
 have hN:=hs.n64
 have hN8:8≤N:=by omega
 have hfit:=hs.bus
 have hm:c.buses.l[j] ∈ c.buses.l:=List.getElem_mem h
 have hd:=hs.dem _ hm
 have hnm:=@Dj R N c (c.buses.l.map (·.name)) o (k:=1) (n:=j) (hN:=hN) (hL:=fun K=>Byk hs) (hn:=by simpa using h) (hs:=⟨by have:=hfit.1;omega,by have:=hfit.2;omega⟩)
 have hne:(c.buses.l.map (·.name))[j]'(by simpa using h)=c.buses.l[j].name:=by simp
 rw[hne] at hnm
 unfold Rv
 simp only[Mv,E2,ct,hnm,Rs]
 rw[Ab h,ct,Int.toNat_natCast,Bn Ahy _ _ h]
 generalize c.buses.l[j]=b at *
 have b4:∀ (r:List AV) (f:List AV→Nat→Option R),rdL 1 (List.drop 1 (b.av++r)) f=f (Az b.demand.l) b.demand.l.length:=fun r f=>by simp[BusD.av,I7,F9]
 have b5:∀ (r:List AV) (f:Int→Option R),rdI .i64 (List.drop 2 (b.av++r)) f=f b.shed:=fun r f=>by simp[BusD.av,Ax]
 rw[b4,Dx rfl hd,ct,b5,Dq hN8,Af (by decide),El (by have:=hfit.2;omega)]
 rfl
theorem Bu0 {p:Err} {K:List AV→Int→Option R}:(cond (Nat.ble 3 (List.length (Cq p))) (rdI .i64 (List.drop 3 (Cq p)) fun x38=>(cond ((Nat.beq (List.length (List.take 3 (Cq p))) 3)&&((Nat.ble 3 3)&&(!false))) (cond (Nat.ble 3 (List.length (setCells [(.int .i64 (0:Int)),(.int .i64 (0:Int)),(.int .i64 (0:Int))] 0 (List.take 3 (Cq p))))) (K (List.take 3 (setCells [(.int .i64 (0:Int)),(.int .i64 (0:Int)),(.int .i64 (0:Int))] 0 (List.take 3 (Cq p)))) x38) none) none)) none)=K (w3 p) (G7 p):=by
 rcases p with _ | ⟨⟨a,b,f⟩,e,he⟩<;>simp[Cq,B8e,w3,G7,Ef,setCells,Dk,Ax]
theorem Bcg {N:Nat} {c:CaseD} {o:Bool} {K:List AV→Int→Option R} (hs:Small c N):∀ (m j fuel:Nat) (p:Err),j+m=c.buses.l.length→m<fuel →
  H4 N K o c.av fuel (j:Int) (Cq p)=Kl N K o c.av N 0 (Cq (Fj (B9m c) (c.buses.l.drop j) j p))
 | 0,j,fuel+1,p,hj,_=>by
  rw[H4];unfold U9
  rw[Rs,ltF (by omega),I8 (l:=c.buses.l) (by omega),Fj];rfl
 | m+1,j,fuel+1,p,hj,hf=>by
  rw[H4];unfold U9
  have h:j<c.buses.l.length:=by omega
  have hfit:=hs.bus
  rw[Rs,ltT h,Afd,F4 (l:=c.buses.l) h,Fj]
  rcases p with _ | ⟨x,e,he⟩
  ·simp only[G7,beq_self_eq_true,cond_true]
   rw[B8l hs h,Bcg hs m (j+1) fuel _ (by omega) (by omega)]
  ·have h2:(e==0)=false:=by simpa using he
   simp only[G7,h2,beq_self_eq_true,cond_true,cond_false]
   rw[A7l,Mu (fun _ _=>A7l _ _ _)]
theorem Bch {N:Nat} {c:CaseD} {o:Bool} {K:List AV→Int→Option R} (hs:Small c N):∀ (m j fuel:Nat) (p:Err),j+m=c.lines.l.length→m<fuel →
  Kl N K o c.av fuel (j:Int) (Cq p)=Kk N K o c.av N 0 (Cq (Fj (Bra c) (c.lines.l.drop j) j p))
 | 0,j,fuel+1,p,hj,_=>by
  rw[Kl];unfold U8
  rw[Ok,ltF (by omega),I8 (l:=c.lines.l) (by omega),Fj];rfl
 | m+1,j,fuel+1,p,hj,hf=>by
  rw[Kl];unfold U8
  have h:j<c.lines.l.length:=by omega
  have hfit:=hs.lin
  rw[Ok,ltT h,Afd,F4 (l:=c.lines.l) h,Fj]
  rcases p with _ | ⟨x,e,he⟩
  ·simp only[G7,beq_self_eq_true,cond_true]
   rw[Mv,ct,E2,Any hs h,El (by have:=hfit.2;omega),Bch hs m (j+1) fuel _ (by omega) (by omega)]
  ·have h2:(e==0)=false:=by simpa using he
   simp only[G7,h2,beq_self_eq_true,cond_true,cond_false]
   rw[Az3,Mu (fun _ _=>Az3 _ _ _)]
theorem Bci {N:Nat} {c:CaseD} {o:Bool} {K:List AV→Int→Option R} (hs:Small c N):∀ (m j fuel:Nat) (p:Err),j+m=c.units.l.length→m<fuel →
  Kk N K o c.av fuel (j:Int) (Cq p)=Kj N K o c.av N 0 (Cq (Fj (Byj c) (c.units.l.drop j) j p))
 | 0,j,fuel+1,p,hj,_=>by
  rw[Kk];unfold U7
  rw[Abo,ltF (by omega),I8 (l:=c.units.l) (by omega),Fj];rfl
 | m+1,j,fuel+1,p,hj,hf=>by
  rw[Kk];unfold U7
  have h:j<c.units.l.length:=by omega
  have hfit:=hs.uni
  rw[Abo,ltT h,Afd,F4 (l:=c.units.l) h,Fj]
  rcases p with _ | ⟨x,e,he⟩
  ·simp only[G7,beq_self_eq_true,cond_true]
   rw[Mv,ct,E2,Anz hs h,El (by have:=hfit.2;omega),Bci hs m (j+1) fuel _ (by omega) (by omega)]
  ·have h2:(e==0)=false:=by simpa using he
   simp only[G7,h2,beq_self_eq_true,cond_true,cond_false]
   rw[Az4,Mu (fun _ _=>Az4 _ _ _)]
theorem Bcj {N:Nat} {c:CaseD} {o:Bool} {K:List AV→Int→Option R} (hs:Small c N):∀ (m j fuel:Nat) (p:Err),j+m=c.stores.l.length→m<fuel →
  Kj N K o c.av fuel (j:Int) (Cq p)=Ki N K o c.av N 0 (Cq (Fj (Blp c) (c.stores.l.drop j) j p))
 | 0,j,fuel+1,p,hj,_=>by
  rw[Kj];unfold U6
  rw[Zf,ltF (by omega),I8 (l:=c.stores.l) (by omega),Fj];rfl
 | m+1,j,fuel+1,p,hj,hf=>by
  rw[Kj];unfold U6
  have h:j<c.stores.l.length:=by omega
  have hfit:=hs.sto
  rw[Zf,ltT h,Afd,F4 (l:=c.stores.l) h,Fj]
  rcases p with _ | ⟨x,e,he⟩
  ·simp only[G7,beq_self_eq_true,cond_true]
   rw[Mv,ct,E2,Akr hs h,El (by have:=hfit.2;omega),Bcj hs m (j+1) fuel _ (by omega) (by omega)]
  ·have h2:(e==0)=false:=by simpa using he
   simp only[G7,h2,beq_self_eq_true,cond_true,cond_false]
   rw[Ar7,Mu (fun _ _=>Ar7 _ _ _)]
theorem Bck {N:Nat} {c:CaseD} {o:Bool} {K:List AV→Int→Option R} (hs:Small c N):∀ (m j fuel:Nat) (p:Err),j+m=c.ties.l.length→m<fuel →
  Ki N K o c.av fuel (j:Int) (Cq p)=Kh N K o c.av N 0 (Cq (Fj (B9n c) (c.ties.l.drop j) j p))
 | 0,j,fuel+1,p,hj,_=>by
  rw[Ki];unfold U5
  rw[Ati,ltF (by omega),I8 (l:=c.ties.l) (by omega),Fj];rfl
 | m+1,j,fuel+1,p,hj,hf=>by
  rw[Ki];unfold U5
  have h:j<c.ties.l.length:=by omega
  have hfit:=hs.tie
  rw[Ati,ltT h,Afd,F4 (l:=c.ties.l) h,Fj]
  rcases p with _ | ⟨x,e,he⟩
  ·simp only[G7,beq_self_eq_true,cond_true]
   rw[Mv,ct,E2,Ar4 hs h,El (by have:=hfit.2;omega),Bck hs m (j+1) fuel _ (by omega) (by omega)]
  ·have h2:(e==0)=false:=by simpa using he
   simp only[G7,h2,beq_self_eq_true,cond_true,cond_false]
   rw[A7m,Mu (fun _ _=>A7m _ _ _)]
theorem Bcl {N:Nat} {c:CaseD} {o:Bool} {K:List AV→Int→Option R} (hs:Small c N):∀ (m j fuel:Nat) (p:Err),j+m=c.outs.l.length→m<fuel →
  Kh N K o c.av fuel (j:Int) (Cq p)=Dr N K o c.av N 0 (Cq (Fj (B6n c) (c.outs.l.drop j) j p))
 | 0,j,fuel+1,p,hj,_=>by
  rw[Kh];unfold U4
  rw[Y0,ltF (by omega),I8 (l:=c.outs.l) (by omega),Fj];rfl
 | m+1,j,fuel+1,p,hj,hf=>by
  rw[Kh];unfold U4
  have h:j<c.outs.l.length:=by omega
  have hfit:=hs.out
  rw[Y0,ltT h,Afd,F4 (l:=c.outs.l) h,Fj]
  rcases p with _ | ⟨x,e,he⟩
  ·simp only[G7,beq_self_eq_true,cond_true]
   rw[Mv,ct,E2,Ah9 hs h,El (by have:=hfit.2;omega),Bcl hs m (j+1) fuel _ (by omega) (by omega)]
  ·have h2:(e==0)=false:=by simpa using he
   simp only[G7,h2,beq_self_eq_true,cond_true,cond_false]
   rw[A7j,Mu (fun _ _=>A7j)]
def Abw (ol:List Int):List Int→Nat→List Int
 | [],_=>[]
 | a::r,j=>cond (ol.contains a) ((j:Int)::Abw ol r (j+1)) (Abw ol r (j+1))
theorem Byn (ol:List Int):∀ (l:List Int) (j:Nat) (x:Int),x ∈ Abw ol l j→(j:Int)≤x
 | [],_,_,h=>by simp[Abw] at h
 | a::r,j,x,h=>by
  rw[Abw] at h
  have ih:=Byn ol r (j+1) x
  cases hx:ol.contains a<;>rw[hx] at h<;>simp at h
  ·have:=ih h;omega
  ·rcases h with rfl | h
   ·omega
   ·have:=ih h;omega
theorem A7n {f:Int→Nat×Nat} (ol:List Int):∀ (l:List Int) (j:Nat) (pre:List Int),(∀ x ∈ pre,x<(j:Int))→A4t (pre++Abw ol l j) (l.map f) j=((l.filter fun a=>!ol.contains a).map f)
 | [],_,_,_=>rfl
 | a::r,j,pre,hp=>by
  rw[List.map_cons,A4t,Abw,List.filter_cons]
  have hpre:¬ (j:Int) ∈ pre:=fun h=>by have:=hp _ h;omega
  cases hx:ol.contains a with
  | true =>
   have h1:(pre++cond true ((j:Int)::Abw ol r (j+1)) (Abw ol r (j+1))).contains (j:Int)=true:=by simp
   rw[h1]
   have:=A7n (f:=f) ol r (j+1) (pre++[(j:Int)]) (by
    intro x hx2
    rcases List.mem_append.1 hx2 with h2 | h2
    ·have:=hp x h2;omega
    ·simp at h2;omega)
   simp only[cond_true,Bool.not_true,Bool.false_eq_true,if_false]
   rw[←this];simp
  | false =>
   have h1:(pre++cond false ((j:Int)::Abw ol r (j+1)) (Abw ol r (j+1))).contains (j:Int)=false:=by
    simp only[cond_false]
    rw[List.contains_eq_mem]
    simp only[decide_eq_false_iff_not,List.mem_append,not_or]
    exact⟨hpre,fun h2=>by have:=Byn ol r (j+1) _ h2;omega⟩
   rw[h1]
   have:=A7n (f:=f) ol r (j+1) pre (by intro x hx2;have:=hp x hx2;omega)
   simp only[cond_false,Bool.not_false,if_true,List.map_cons]
   rw[this]
theorem Akv {N:Nat} {c:CaseD} {o:Bool} {hr:Int} {j:Nat} {p:Err} {K7:Int→List AV→Option R} {K9:Int→Int→List AV→Option R} {K:List AV→Int→Option R} (hs:Small c N) (hN:4096≤N) (v:PreV c) (h:j<c.outs.l.length):∀ (m q fuel:Nat) (A:List Int),q+m=(A8 c hr).length→m<fuel→A.length≤q →
  A++Abw c.outs.l[j].lines.l ((A8 c hr).drop q) q=Abw c.outs.l[j].lines.l (A8 c hr) 0 →
  Ii N K7 K9 K (A8 c hr).length (A8 c hr).length o c.av (((A8 c hr).map (He c)).flatMap Bq) (Az (A8 c hr)) fuel hr (j:Int) A.length (q:Int) (Cq p) (Az A)=K9 hr ((j+1:Nat):Int) (Cq (B8k c hr j c.outs.l[j] p))
 | 0,q,fuel+1,A,hq,_,hA,hg=>by
  rw[Ii];unfold Rw
  have hal:=Ar5 hr c.lines.l 0
  have hnl:=v.nl
  have hnb:=v.nb
  have hfit:=hs.out
  have hnn:c.buses.l.length*c.buses.l.length≤32*32:=Nat.mul_le_mul hnb hnb
  have hlen:(A8 c hr).length≤64:=by unfold A8;omega
  rw[I8 (l:=A8 c hr) (by omega),Abw,List.append_nil] at hg
  have he:∀ e ∈ (A8 c hr).map (He c),e.1<c.buses.l.length∧e.2<c.buses.l.length:=by
   intro e he
   simp only[List.mem_map] at he
   obtain⟨l,hl,rfl⟩:=he
   obtain⟨x,hx⟩:=v.lnV hl
   rw[B3r hx];exact⟨hx.f1,hx.t1⟩
  rw[ltF (by omega),cf,Rs,List.take_of_length_le (by rw[Atj];simp),Nat.mul_one,List.take_of_length_le (by rw[Hx];exact Nat.le_refl _),
   Bly (by simp) rfl (by simp;omega) (by simp;omega) (by omega) (by omega) he ⟨by omega,by omega⟩,Af (by decide),El (by have:=hfit.2;omega)]
  have e1:A4t A ((A8 c hr).map (He c)) 0=(((A8 c hr).filter fun a=>!c.outs.l[j].lines.l.contains a).map (He c)):=by
   rw[hg]
   have:=A7n (f:=He c) c.outs.l[j].lines.l (A8 c hr) 0 [] (by simp)
   simpa using this
  rw[e1]
  have hmono:Wg c.buses.l.length ((A8 c hr).map (He c))≤Wg c.buses.l.length (((A8 c hr).filter fun a=>!c.outs.l[j].lines.l.contains a).map (He c)):=B11 (by
   intro e he2
   simp only[List.mem_map,List.mem_filter] at he2 ⊢
   obtain⟨l,⟨hl,_⟩,rfl⟩:=he2
   exact⟨l,hl,rfl⟩)
  have e2:(!decide ((Wg c.buses.l.length (((A8 c hr).filter fun a=>!c.outs.l[j].lines.l.contains a).map (He c)):Int)>(Wg c.buses.l.length ((A8 c hr).map (He c)):Int)))=B8j c hr c.outs.l[j]:=by
   unfold B8j
   generalize Wg c.buses.l.length ((A8 c hr).map (He c))=x at *
   generalize Wg c.buses.l.length (((A8 c hr).filter fun a=>!c.outs.l[j].lines.l.contains a).map (He c))=y at *
   by_cases hxy:x=y
   ·subst hxy;simp
   ·have a1:((y:Int)==(x:Int))=false:=by simp;omega
    rw[a1];simp;omega
  rw[e2];rfl
 | m+1,q,fuel+1,A,hq,hf,hA,hg=>by
  rw[Ii];unfold Rw
  have h1:q<(A8 c hr).length:=by omega
  have hal:=Ar5 hr c.lines.l 0
  have hnl:=v.nl
  have hlen:(A8 c hr).length≤64:=by unfold A8;omega
  have hm:c.outs.l[j] ∈ c.outs.l:=List.getElem_mem h
  have hd:=hs.oli _ hm
  have b4:∀ (f:List AV→Nat→Option R),rdL 1 (List.drop 1 (List.drop (j*4) (List.flatMap OutD.av c.outs.l))) f=f (Az c.outs.l[j].lines.l) c.outs.l[j].lines.l.length:=fun f=>by rw[Bn Mt _ _ h];simp[OutD.av,I7,F9]
  have b3:(Nat.ble (A.length+1) 140737488355328&&Nat.ble ((A.length+1)*8) 140737488355328)=true:=by rw[Ef,Ef];simp;omega
  have b5:List.take (A.length*1) (Az A)++[.int .i64 (q:Int)]=Az (A++[(q:Int)]):=Buj (B:=[(q:Int)]) rfl
  rw[ltT h1,ct,Y0,Ab h,ct,Int.toNat_natCast,b4,Ab h1,ct,B8h (by simpa using h1),Int.toNat_natCast,Aks h1,Akh rfl hd,b3,ct,b5,El (by omega)]
  rw[F4 h1,Abw] at hg
  cases hx:c.outs.l[j].lines.l.contains (A8 c hr)[q] with
  | true =>
   rw[hx] at hg
   have ih:=Akv (o:=o) (hr:=hr) (j:=j) (p:=p) (K7:=K7) (K9:=K9) (K:=K) hs hN v h m (q+1) fuel (A++[(q:Int)]) (by omega) (by omega) (by simp;omega) (by simpa using hg)
   rw[List.length_append] at ih
   simpa using ih
  | false =>
   rw[hx] at hg
   have ih:=Akv (o:=o) (hr:=hr) (j:=j) (p:=p) (K7:=K7) (K9:=K9) (K:=K) hs hN v h m (q+1) fuel A (by omega) (by omega) (by omega) (by simpa using hg)
   simpa using ih
theorem Bcm {N:Nat} {c:CaseD} {o:Bool} {hr:Int} {K7:Int→List AV→Option R} {K:List AV→Int→Option R} (hs:Small c N) (hN:4096≤N) (v:PreV c):∀ (m j fuel:Nat) (p:Err),j+m=c.outs.l.length→m<fuel →
  H3 N K7 K (A8 c hr).length (A8 c hr).length o c.av (((A8 c hr).map (He c)).flatMap Bq) (Az (A8 c hr)) fuel hr (j:Int) (Cq p)=K7 (IntKind.wrap .i64 (hr+1)) (Cq (Fj (B8k c hr) (c.outs.l.drop j) j p))
 | 0,j,fuel+1,p,hj,_=>by
  rw[H3];unfold U0
  rw[Y0,ltF (by omega),cf,I8 (l:=c.outs.l) (by omega),Fj]
 | m+1,j,fuel+1,p,hj,hf=>by
  rw[H3];unfold U0
  have h:j<c.outs.l.length:=by omega
  have hal:=Ar5 hr c.lines.l 0
  have hnl:=v.nl
  have ih:=Bcm (o:=o) (hr:=hr) (K7:=K7) (K:=K) hs hN v m (j+1) fuel (B8k c hr j c.outs.l[j] p) (by omega) (by omega)
  have l10:=Akv (R:=R) (N:=N) (c:=c) (o:=o) (hr:=hr) (j:=j) (p:=p) (K7:=K7) (K9:=H3 N K7 K (A8 c hr).length (A8 c hr).length o c.av (((A8 c hr).map (He c)).flatMap Bq) (Az (A8 c hr)) fuel) (K:=K) hs hN v h (A8 c hr).length 0 N [] (by omega) (by unfold A8;omega) (by simp) (by simp)
  rw[Y0,ltT h,ct,F4 (l:=c.outs.l) h,Fj,←ih,←l10]
  rfl
theorem Bcn {N H:Nat} {c:CaseD} {o:Bool} {K:List AV→Int→Option R} (hs:Small c N) (hN:4096≤N) (v:PreV c) (hH:c.hours=(H:Int)):∀ (m j fuel:Nat) (p:Err),j+m=H→m<fuel →
  Dr N K o c.av fuel (j:Int) (Cq p)=K (w3 (Az5 c m j p)) (G7 (Az5 c m j p))
 | 0,j,fuel+1,p,hj,_=>by
  rw[Dr];unfold Oo
  rw[Ahx,hH,ltF (by omega),Bu0,Az5];rfl
 | m+1,j,fuel+1,p,hj,hf=>by
  rw[Dr];unfold Oo Y1 Afe
  have hh:=v.hours
  rw[Ahx,hH,ltT (by omega),Afd,Bu0]
  rcases p with _ | ⟨x,e,he⟩
  ·simp only[G7,beq_self_eq_true,cond_true]
   have l9:=Bcm (R:=R) (N:=N) (c:=c) (o:=o) (hr:=(j:Int)) (K7:=Dr N K o c.av fuel) (K:=K) hs hN v c.outs.l.length 0 N none (by omega) hs.out.1
   rw[Mv,ct,E2,B13 hs (fun l hl=>v.lnV hl)]
   simp only[List.drop_zero,Int.natCast_zero] at l9
   rw[l9,El (by omega),Bcn hs hN v hH m (j+1) fuel _ (by omega) (by omega)];rfl
  ·have h2:(e==0)=false:=by simpa using he
   simp only[G7,h2,beq_self_eq_true,cond_true,cond_false]
   rw[Bce]
theorem Byo {N:Nat} {c:CaseD} {o:Bool} {y:(Int×Int×Int)×{ e:Int // e≠0 }} {K:List AV→Int→Option R} {fuel:Nat}:Dr N K o c.av (fuel+1) 0 (Cq (some y))=K (w3 (some y)) (G7 (some y)):=by
 rw[Dr];unfold Oo
 rw[Ahx,Afd,Bu0]
 have h2:(y.2.1==0)=false:=by simpa using y.2.2
 cases decide ((0:Int)<c.hours)<;>simp[G7,h2]
theorem Blz {N:Nat} {c:CaseD} {o:Bool} {K:List AV→Int→Option R} (hs:Small c N) (hN:4096≤N):Zg N c.av o K=K (w3 (Ar8 c)) (G7 (Ar8 c)):=by
 rw[Axt];unfold Akt
 have e0:[(.int .i64 (0:Int)),(.int .i64 (0:Int)),(.int .i64 (0:Int)),(.int .i64 (0:Int))]=Cq none:=rfl
 rw[Mv,ct,E2,e0,Akl hs]
 have l0:=fun p=>Bcg (R:=R) (N:=N) (c:=c) (o:=o) (K:=K) hs c.buses.l.length 0 N p (by omega) hs.bus.1
 have l2:=fun p=>Bch (R:=R) (N:=N) (c:=c) (o:=o) (K:=K) hs c.lines.l.length 0 N p (by omega) hs.lin.1
 have l3:=fun p=>Bci (R:=R) (N:=N) (c:=c) (o:=o) (K:=K) hs c.units.l.length 0 N p (by omega) hs.uni.1
 have l4:=fun p=>Bcj (R:=R) (N:=N) (c:=c) (o:=o) (K:=K) hs c.stores.l.length 0 N p (by omega) hs.sto.1
 have l5:=fun p=>Bck (R:=R) (N:=N) (c:=c) (o:=o) (K:=K) hs c.ties.l.length 0 N p (by omega) hs.tie.1
 have l6:=fun p=>Bcl (R:=R) (N:=N) (c:=c) (o:=o) (K:=K) hs c.outs.l.length 0 N p (by omega) hs.out.1
 simp only[List.drop_zero,Int.natCast_zero] at l0 l2 l3 l4 l5 l6
 try dsimp only
 rw[l0,l2,l3,l4,l5,l6]
 show Dr N K o c.av N 0 (Cq (B8i c))=_
 unfold Ar8
 cases hp:B8i c with
 | some y =>
  rcases N with _ | N
  ·omega
  ·exact Byo
 | none =>
  have v:=B6q hp
  have hh:=v.hours
  have:=Bcn (R:=R) (N:=N) (H:=c.hours.toNat) (c:=c) (o:=o) (K:=K) hs hN v (by omega) c.hours.toNat 0 N none (by omega) (by omega)
  simpa using this
end
end Gx.Cf

namespace Gx.Cf
open Go Go.Proofs
section
variable {R:Type}
theorem Ca7 (p:Err):(w3 p).length=3:=by rcases p with _ | ⟨⟨a,b,f⟩,e⟩<;>rfl
end
end Gx.Cf

namespace Gx.Cf
open Go Go.Proofs
section
variable {R:Type}
theorem B8m (v n:Int) (h1:1≤n) (h2:n≤4611686018427387904):(IntKind.wrap .u64 n==0)=false∧0≤IntKind.wrap .i64 (Int.tmod (IntKind.wrap .u64 v) (IntKind.wrap .u64 n))∧IntKind.wrap .i64 (Int.tmod (IntKind.wrap .u64 v) (IntKind.wrap .u64 n))<n:=by
 have hn:IntKind.wrap .u64 n=n:=IntWalk.u64_in _ (by omega)
 have hv:0≤IntKind.wrap .u64 v:=by rw[IntKind.wrap_u64];omega
 rw[hn]
 have h0:0≤Int.tmod (IntKind.wrap .u64 v) n:=Int.tmod_nonneg _ hv
 have h3:Int.tmod (IntKind.wrap .u64 v) n<n:=Int.tmod_lt_of_pos _ (by omega)
 rw[Vc _ (by omega)]
 exact⟨by simp;omega,h0,h3⟩
theorem nx {N:Nat} {l:List Int} {t o:Bool} (hl:l.length≤9223372036854775807) (n:Int) (h1:1≤n) (h2:n≤4611686018427387904) (k:Nat) (hk:k≤l.length) :
  ∃ (v:Int) (k':Nat),0≤v∧v<n∧k'≤l.length∧∀ K:Int→Int→Option R,Ae N n (Az l) l.length t o (k:Int) K=K v (k':Int):=by
 by_cases h:k<l.length
 ·obtain⟨a1,a2,a3⟩:=B8m l[k] n h1 h2
  refine⟨_,k+1,a2,a3,by omega,fun K=>?_⟩
  rw[Ts];unfold Uo
  have w0:IntKind.wrap .i64 ((k:Int)+1)=((k+1:Nat):Int):=by rw[Vc _ (by omega)];omega
  have w1:IntKind.wrap .i64 (IntKind.wrap .i64 ((k:Int)+1) - 1)=(k:Int):=by rw[w0,Vc _ (by omega)];omega
  rw[w1,w0,Ab h,ct,Blm h,Bky];unfold Btu
  rw[a1,cf,show decide ((k:Int)≥(l.length:Int))=false by simp;omega,cf]
 ·refine⟨0,k,by omega,by omega,hk,fun K=>?_⟩
  rw[Ts];unfold Uo
  rw[show decide ((k:Int)≥(l.length:Int))=true by simp;omega,ct]
theorem Bl0 {N m:Nat} {l:List Int} {t o:Bool} (hl:l.length≤9223372036854775807) (n:Int) (h1:1≤n) (h2:n≤4611686018427387904) (hm:m≤1000):∀ (r j fuel:Nat) (k:Nat) (A:List Int),j+r=m→r<fuel→k≤l.length→A.length=j →
  ∃ (B:List Int) (k':Nat),B.length=r∧(∀ x ∈ B,0≤x∧x<n)∧k'≤l.length∧∀ K:Nat→Int→List AV→Option R,Et N K (m:Int) n (Az l) l.length t o fuel j (j:Int) (k:Int) (Az A)=K m (k':Int) (Az (A++B))
 | 0,j,fuel+1,k,A,hj,_,hk,hA=>by
  refine⟨[],k,rfl,by simp,hk,fun K=>?_⟩
  rw[Et];unfold Lr
  have:j=m:=by omega
  subst this
  rw[ltF (Nat.le_refl _),cf,List.append_nil]
 | r+1,j,fuel+1,k,A,hj,hf,hk,hA=>by
  obtain⟨v,k1,v0,v1,hk1,hv⟩:=nx (R:=R) (N:=N) (t:=t) (o:=o) hl n h1 h2 k hk
  obtain⟨B,k2,b1,b2,b3,b4⟩:=Bl0 hl n h1 h2 hm r (j+1) fuel k1 (A++[v]) (by omega) (by omega) hk1 (by simp[hA])
  refine⟨v::B,k2,by simp[b1],?_,b3,fun K=>?_⟩
  ·intro x hx
   rcases List.mem_cons.1 hx with rfl | hx
   ·exact⟨v0,v1⟩
   ·exact b2 x hx
  ·rw[Et];unfold Lr
   have c3:(Nat.ble (j+1) 140737488355328&&Nat.ble ((j+1)*8) 140737488355328)=true:=by rw[Ef,Ef];simp;omega
   have c5:List.take (j*1) (Az A)++[.int .i64 v]=Az (A++[v]):=Buj (B:=[v]) hA.symm
   rw[ltT (by omega),ct,hv,c3,ct,c5,El (by omega),b4]
   simp
theorem Abx {N m:Nat} {l:List Int} {t o:Bool} (hN:1001≤N) (hl:l.length≤9223372036854775807) (n:Int) (h1:1≤n) (h2:n≤4611686018427387904) (hm:m≤1000) (k:Nat) (hk:k≤l.length) :
  ∃ (B:List Int) (k':Nat),B.length=m∧(∀ x ∈ B,0≤x∧x<n)∧k'≤l.length∧∀ K:Nat→Int→List AV→Option R,D1 N (m:Int) n (Az l) l.length t o (k:Int) K=K m (k':Int) (Az B):=by
 obtain⟨B,k',b1,b2,b3,b4⟩:=Bl0 (R:=R) (N:=N) (t:=t) (o:=o) hl n h1 h2 hm m 0 N k [] (by omega) (by omega) hk rfl
 refine⟨B,k',b1,b2,b3,fun K=>?_⟩
 rw[Adz];unfold Rh
 simpa[Az] using b4 K
theorem A7o {N:Nat} {l:List Int} {t o:Bool} (hl:l.length≤9223372036854775807) (H:Int) (h1:1≤H) (h2:H≤1000) (k:Nat) (hk:k≤l.length) :
  ∃ (B:List Int) (k':Nat),B.length≤1∧(∀ x ∈ B,0≤x∧x<H)∧k'≤l.length∧∀ K:Nat→Int→List AV→Option R,Hz N H (Az l) l.length t o (k:Int) K=K B.length (k':Int) (Az B):=by
 obtain⟨v,k1,v0,v1,hk1,hv⟩:=nx (R:=R) (N:=N) (t:=t) (o:=o) hl 6 (by omega) (by omega) k hk
 by_cases h5:v=5
 ·obtain⟨u,k2,u0,u1,hk2,hu⟩:=nx (R:=R) (N:=N) (t:=t) (o:=o) hl H h1 (by omega) k1 hk1
  refine⟨[u],k2,by simp,by intro x hx;simp at hx;subst hx;exact⟨u0,u1⟩,hk2,fun K=>?_⟩
  rw[Tt];unfold Up
  rw[hv,hu,h5];rfl
 ·refine⟨[],k1,by simp,by simp,hk1,fun K=>?_⟩
  rw[Tt];unfold Up
  have:(v==5)=false:=by simpa using h5
  rw[hv,this];rfl
def Cbu:List UInt8:=[48,49,50,51,52,53,54,55,56,57,97,98,99,100,101,102]
theorem Qa {N:Nat} {c:UInt8} {i:Nat} (hi:i<16) {K:List UInt8→Option R}:Yw N [c] (i:Int) K=K [c,Cbu.getD i 0]:=by
 rw[Bbr];unfold Bk1
 have e1:Int.tmod (i:Int) 16=(i:Int):=Int.tmod_eq_of_lt (by omega) (by omega)
 rw[e1,El (by omega)]
 have c1:(decide ((0:Int)≤(i:Int))&&(decide ((i:Int)≤((i+1:Nat):Int))&&(decide (((i+1:Nat):Int)≤(16:Int))&&decide ((16:Int)≤(16:Int)))))=true:=by simp;omega
 rw[c1,ct]
 simp only[Int.toNat_natCast,Nat.add_sub_cancel_left]
 have:List.take 1 (List.drop i ([48,49,50,51,52,53,54,55,56,57,97,98,99,100,101,102]:List UInt8))=[Cbu.getD i 0]:=by
  rw[F4 (by simpa using hi)]
  simp[Cbu,hi]
 rw[this];rfl
end
end Gx.Cf

namespace Gx.Cf
open Go Go.Proofs
section
variable {R:Type}
theorem Nu {a:Int} (h:-9223372036854775808≤a∧a≤9223372036854775807):IntKind.wrap .i64 a=a:=Vc a h
theorem Hf {lo hi n:Int} (h:lo≤n∧n≤hi):btw lo hi n=true:=by unfold btw;simp;omega
structure LineG (i:Nat) (fr to H:Int) (x:LineD):Prop where
 name:x.name=[108,Cbu.getD i 0]
 fr:x.fr=fr
 to:x.to=to
 re:(Pe x.re&&decide (x.re.num>0))=true
 smin:(Pe x.smin&&decide (x.smin.num≤0))=true
 smax:(Pe x.smax&&decide (x.smax.num≥0))=true
 lim:btw 0 1048576 x.limit=true
 em:btw x.limit 1048576 x.emer=true
 aw:x.away.l.length≤1
 awr:∀ y ∈ x.away.l,0≤y∧y<H
theorem Bre {f:FracD} (h:1≤f.den∧f.den≤1048576∧-1048576≤f.num∧f.num≤1048576):Pe f=true:=by unfold Pe;rw[Hf (by omega),Hf (by omega)];rfl
theorem Tz {B:List Int}:List.take (B.length*1) (Az B)=B.flatMap Ab2:=by rw[Nat.mul_one,List.take_of_length_le (by rw[Hx];exact Nat.le_refl _),F9]
theorem Brf {N:Nat} {l:List Int} {t o:Bool} (hl:l.length≤9223372036854775807) {i:Nat} (hi:i<16) (fr to:Int) {H:Int} (hH:1≤H∧H≤24) (k:Nat) (hk:k≤l.length) :
  ∃ (x:LineD) (k':Nat),LineG i fr to H x∧k'≤l.length∧∀ K:List AV→Int→Option R,Jz N (i:Int) fr to H (Az l) l.length t o (k:Int) K=K x.av (k':Int):=by
 obtain⟨y2,ky2,y20,y21,hky2,hy2⟩:=nx (R:=R) (N:=N) (t:=t) (o:=o) hl 4 (by omega) (by omega) k hk
 obtain⟨y4,ky4,y40,y41,hky4,hy4⟩:=nx (R:=R) (N:=N) (t:=t) (o:=o) hl 2 (by omega) (by omega) ky2 hky2
 obtain⟨y6,ky6,y60,y61,hky6,hy6⟩:=nx (R:=R) (N:=N) (t:=t) (o:=o) hl 40 (by omega) (by omega) ky4 hky4
 obtain⟨y8,ky8,y80,y81,hky8,hy8⟩:=nx (R:=R) (N:=N) (t:=t) (o:=o) hl 20 (by omega) (by omega) ky6 hky6
 obtain⟨y10,ky10,y100,y101,hky10,hy10⟩:=nx (R:=R) (N:=N) (t:=t) (o:=o) hl 5 (by omega) (by omega) ky8 hky8
 by_cases h4:y10=4
 ·have e4:(y10==4)=true:=by simpa using h4
  obtain⟨y12,ky12,y120,y121,hky12,hy12⟩:=nx (R:=R) (N:=N) (t:=t) (o:=o) hl 4 (by omega) (by omega) ky10 hky10
  obtain⟨y14,ky14,y140,y141,hky14,hy14⟩:=nx (R:=R) (N:=N) (t:=t) (o:=o) hl 2 (by omega) (by omega) ky12 hky12
  obtain⟨y16,ky16,y160,y161,hky16,hy16⟩:=nx (R:=R) (N:=N) (t:=t) (o:=o) hl 4 (by omega) (by omega) ky14 hky14
  obtain⟨B,kB,b1,b2,hkB,hB⟩:=A7o (R:=R) (N:=N) (t:=t) (o:=o) hl H hH.1 (by omega) ky16 hky16
  refine⟨⟨[108,Cbu.getD i 0],fr,to,⟨1+y2,1+y4⟩,⟨0 - y12,1+y14⟩,⟨y16,1⟩,4+y6,4+y6+y8,.of B false false⟩,kB,⟨rfl,rfl,rfl,?_,?_,?_,Hf (by simp only;omega),Hf (by simp only;omega),b1,b2⟩,hkB,fun K=>?_⟩
  ·rw[Bre (by simp only;omega)];simp;omega
  ·rw[Bre (by simp only;omega)];simp;omega
  ·rw[Bre (by simp only;omega)];simp;omega
  ·rw[Tu];unfold Uq
   rw[Qa hi,hy2,hy4,hy6,hy8,hy10,e4,ct,hy12,hy14,hy16,hB,Tz,Nu (a:=1+y2) (by omega),Nu (a:=1+y4) (by omega),Nu (a:=0 - y12) (by omega),Nu (a:=1+y14) (by omega),Nu (a:=4+y6) (by omega),Nu (a:=4+y6+y8) (by omega)]
   rfl
 ·have e4:(y10==4)=false:=by simpa using h4
  obtain⟨B,kB,b1,b2,hkB,hB⟩:=A7o (R:=R) (N:=N) (t:=t) (o:=o) hl H hH.1 (by omega) ky10 hky10
  refine⟨⟨[108,Cbu.getD i 0],fr,to,⟨1+y2,1+y4⟩,⟨0,1⟩,⟨0,1⟩,4+y6,4+y6+y8,.of B false false⟩,kB,⟨rfl,rfl,rfl,?_,?_,?_,Hf (by simp only;omega),Hf (by simp only;omega),b1,b2⟩,hkB,fun K=>?_⟩
  ·rw[Bre (by simp only;omega)];simp;omega
  ·rw[Bre (by simp only;omega)];simp
  ·rw[Bre (by simp only;omega)];simp
  ·rw[Tu];unfold Uq
   rw[Qa hi,hy2,hy4,hy6,hy8,hy10,e4,cf,hB,Tz,Nu (a:=1+y2) (by omega),Nu (a:=1+y4) (by omega),Nu (a:=4+y6) (by omega),Nu (a:=4+y6+y8) (by omega)]
   rfl
structure UnitG (i:Nat) (nb H:Int) (u:UnitD):Prop where
 name:u.name=[117,Cbu.getD i 0]
 bus:0≤u.bus∧u.bus<nb
 min:btw 0 1048576 u.min=true
 max:btw u.min 1048576 u.max=true
 sl:1≤u.segs.l.length∧u.segs.l.length≤8
 sok:u.segs.l.all Ek=true
 sord:Ar1 u.segs.l=true
 ssum:(Aki 0 u.segs.l==IntKind.wrap .i64 (u.max - u.min))=true
 noLoad:btw 0 1048576 u.noLoad=true
 rampUp:btw 0 1048576 u.rampUp=true
 rampDown:btw 0 1048576 u.rampDown=true
 startRamp:btw u.min u.max u.startRamp=true
 stopRamp:btw u.min u.max u.stopRamp=true
 upTime:btw 0 24 u.upTime=true
 downTime:btw 0 24 u.downTime=true
 startTime:btw 0 24 u.startTime=true
 hotCost:btw 0 1048576 u.hotCost=true
 coldCost:btw 0 1048576 u.coldCost=true
 hotHours:btw 0 24 u.hotHours=true
 reserve:btw 0 1048576 u.reserve=true
 reservePrice:btw 0 1048576 u.reservePrice=true
 aw:u.away.l.length≤1
 awr:∀ y ∈ u.away.l,0≤y∧y<H
 state:btw 0 2 u.state=true
 starting:(u.state != 1||u.startTime != 0)=true
 hours:btw 1 48 u.hours=true
 started:(u.state != 1||decide (u.hours≤u.startTime))=true
 output:cond (u.state==2) (btw u.min u.max u.output) (btw 0 0 u.output)=true
theorem Brg {s:SegD}:∀ {S:List SegD},Ar1 S=true→(∀ x ∈ S,x.price≤s.price)→Ar1 (S++[s])=true
 | [],_,_=>Blq s
 | [a],_,h=>by
  rw[List.cons_append,List.nil_append,Akj,Blq]
  have:=h a (by simp);simp;omega
 | a::b::r,ho,h=>by
  rw[Akj] at ho
  simp only[Bool.and_eq_true] at ho
  rw[List.cons_append,List.cons_append,Akj,ho.1]
  have:=Brg (S:=b::r) ho.2 (fun x hx=>h x (by rcases List.mem_cons.1 hx with h1 | h1<;>simp[h1]))
  simpa using this
theorem Brh {s:SegD}:∀ {S:List SegD} {a:Int},Aki a (S++[s])=IntKind.wrap .i64 (Aki a S+s.width)
 | [],a=>rfl
 | x::r,a=>by rw[List.cons_append,Aki,Aki];exact Brh
theorem B9t (S:List SegD):(S.flatMap SegD.av).length=S.length*2:=by
 induction S with
 | nil=>rfl
 | cons e r ih=>rw[List.flatMap_cons,List.length_append,ih,Abp];simp;omega
theorem A7p {S:List SegD} {n:Nat} (h:n=S.length):List.take (n*2) (S.flatMap SegD.av)=S.flatMap SegD.av:=List.take_of_length_le (by rw[B9t,h];exact Nat.le_refl _)
theorem Bri {N:Nat} {l:List Int} {t o:Bool} (hl:l.length≤9223372036854775807) {i:Nat} {nb H bus mn noLoad:Int} (hb:0≤bus∧bus<nb) (hmn:0≤mn∧mn<8) (hno:0≤noLoad∧noLoad<20) (hH:1≤H∧H≤24):∀ (n fuel:Nat) (p:Int) (k:Nat) (M:Int) (S:List SegD),n<fuel→k≤l.length→S.length+n≤2→1≤S.length+n→(∀ x ∈ S,x.price≤p∧Ek x=true)→Ar1 S=true→Aki 0 S=M - mn→0≤M - mn→M - mn≤15*S.length→-10≤p→p≤20+10*S.length →
  ∃ (u:UnitD) (k':Nat),UnitG i nb H u∧k'≤l.length∧∀ K:List AV→Int→Option R,Ej N K H (Az l) l.length t o [117,Cbu.getD i 0] bus mn noLoad fuel p (n:Int) (k:Int) M S.length (S.flatMap SegD.av)=K u.av (k':Int)
 | 0,fuel+1,p,k,M,S,_,hk,hS,hS1,hp,ho,hw,hM0,hM1,_,_=>by
  obtain⟨y16,ky16,y160,y161,hky16,hy16⟩:=nx (R:=R) (N:=N) (t:=t) (o:=o) hl 20 (by omega) (by omega) k hk
  obtain⟨y18,ky18,y180,y181,hky18,hy18⟩:=nx (R:=R) (N:=N) (t:=t) (o:=o) hl 20 (by omega) (by omega) ky16 hky16
  obtain⟨y20,ky20,y200,y201,hky20,hy20⟩:=nx (R:=R) (N:=N) (t:=t) (o:=o) hl (M - mn+1) (by omega) (by omega) ky18 hky18
  obtain⟨y22,ky22,y220,y221,hky22,hy22⟩:=nx (R:=R) (N:=N) (t:=t) (o:=o) hl (M - mn+1) (by omega) (by omega) ky20 hky20
  obtain⟨y24,ky24,y240,y241,hky24,hy24⟩:=nx (R:=R) (N:=N) (t:=t) (o:=o) hl 3 (by omega) (by omega) ky22 hky22
  obtain⟨y26,ky26,y260,y261,hky26,hy26⟩:=nx (R:=R) (N:=N) (t:=t) (o:=o) hl 3 (by omega) (by omega) ky24 hky24
  obtain⟨y28,ky28,y280,y281,hky28,hy28⟩:=nx (R:=R) (N:=N) (t:=t) (o:=o) hl 2 (by omega) (by omega) ky26 hky26
  obtain⟨y30,ky30,y300,y301,hky30,hy30⟩:=nx (R:=R) (N:=N) (t:=t) (o:=o) hl 30 (by omega) (by omega) ky28 hky28
  obtain⟨y32,ky32,y320,y321,hky32,hy32⟩:=nx (R:=R) (N:=N) (t:=t) (o:=o) hl 30 (by omega) (by omega) ky30 hky30
  obtain⟨y34,ky34,y340,y341,hky34,hy34⟩:=nx (R:=R) (N:=N) (t:=t) (o:=o) hl 4 (by omega) (by omega) ky32 hky32
  obtain⟨y36,ky36,y360,y361,hky36,hy36⟩:=nx (R:=R) (N:=N) (t:=t) (o:=o) hl 8 (by omega) (by omega) ky34 hky34
  obtain⟨y38,ky38,y380,y381,hky38,hy38⟩:=nx (R:=R) (N:=N) (t:=t) (o:=o) hl 4 (by omega) (by omega) ky36 hky36
  obtain⟨B,kB,b1,b2,hkB,hB⟩:=A7o (R:=R) (N:=N) (t:=t) (o:=o) hl H hH.1 (by omega) ky38 hky38
  obtain⟨y43,ky43,y430,y431,hky43,hy43⟩:=nx (R:=R) (N:=N) (t:=t) (o:=o) hl (2+y28) (by omega) (by omega) kB hkB
  obtain⟨y46,ky46,y460,y461,hky46,hy46⟩:=nx (R:=R) (N:=N) (t:=t) (o:=o) hl 4 (by omega) (by omega) ky43 hky43
  have i43:Aj y43 3=true:=Brd y430 (by omega)
  obtain⟨x45,hx45,hst⟩:∃ x45:Int,(∀ f:Int→Option R,rdI .i64 (List.drop (0+((Int.toNat y43)*1)) [(.int .i64 (0:Int)),(.int .i64 (2:Int)),(.int .i64 (1:Int))]) f=f x45)∧(x45=0∨x45=2∨(x45=1∧y28=1)):=by
   have e:[(.int .i64 (0:Int)),(.int .i64 (2:Int)),(.int .i64 (1:Int))]=Az [0,2,1]:=rfl
   refine⟨([0,2,1]:List Int).getD y43.toNat 0,fun f=>by rw[e,B8h (by simp;omega)],?_⟩
   have:y43=0∨y43=1∨y43=2:=by omega
   rcases this with rfl | rfl | rfl
   ·left;rfl
   ·right;left;rfl
   ·right;right;exact⟨rfl,by omega⟩
  have wM:IntKind.wrap .i64 (IntKind.wrap .i64 (M - mn)+1)=M - mn+1:=by rw[Nu (a:=M - mn) (by omega),Nu (by omega)]
  have head:∀ K:List AV→Int→Option R,Ej N K H (Az l) l.length t o [117,Cbu.getD i 0] bus mn noLoad (fuel+1) p ((0:Nat):Int) (k:Int) M S.length (S.flatMap SegD.av) =
    Kx N K (Az l) l.length t o (ky46:Int) [117,Cbu.getD i 0] bus mn M S.length noLoad y16 y18 y24 y26 y28 y30 y34 y36 y38 B.length x45 (S.flatMap SegD.av) (Az B) (mn+y20) (mn+y22) (y30+y32) (cond (x45==1) 1 (1+y46)):=fun K=>by
   rw[Ej];unfold Np
   rw[show decide (((0:Nat):Int)>0)=false from rfl,cf,wM,hy16,hy18,hy20,hy22,hy24,hy26,hy28,hy30,hy32,hy34,hy36,hy38,hB,Nu (a:=2+y28) (by omega),hy43,i43,ct,hx45,hy46,Nu (a:=mn+y20) (by omega),Nu (a:=mn+y22) (by omega),Nu (a:=y30+y32) (by omega),Nu (a:=1+y46) (by omega)]
   cases x45==1<;>rfl
  have hhr:1≤(cond (x45==1) (1:Int) (1+y46))∧(cond (x45==1) (1:Int) (1+y46))≤4:=by cases x45==1<;>simp<;>omega
  have hst1:x45=1→cond (x45==1) (1:Int) (1+y46)=1:=by intro e;subst e;rfl
  have sall:S.all Ek=true:=by rw[List.all_eq_true];exact fun x hx=>(hp x hx).2
  have ssum:(Aki 0 S==IntKind.wrap .i64 (M - mn))=true:=by rw[Nu (a:=M - mn) (by omega),hw];simp
  have starting:(x45 != 1||y28 != 0)=true:=by
   rcases hst with h | h | ⟨h,h'⟩
   ·rw[h];rfl
   ·rw[h];rfl
   ·rw[h,h'];rfl
  have started:(x45 != 1||decide ((cond (x45==1) (1:Int) (1+y46))≤y28))=true:=by
   rcases hst with h | h | ⟨h,h'⟩
   ·rw[h];rfl
   ·rw[h];rfl
   ·rw[h,h'];rfl
  have stR:btw 0 2 x45=true:=Hf (by omega)
  by_cases hon:x45=2
  ·obtain⟨y48,ky48,y480,y481,hky48,hy48⟩:=nx (R:=R) (N:=N) (t:=t) (o:=o) hl (M - mn+1) (by omega) (by omega) ky46 hky46
   refine⟨⟨[117,Cbu.getD i 0],bus,mn,M,.of S false false,noLoad,y16,y18,mn+y20,mn+y22,y24,y26,y28,y30,y30+y32,y34,y36,y38,.of B false false,x45,cond (x45==1) 1 (1+y46),mn+y48⟩,ky48,
    ⟨rfl,hb,Hf (by simp only;omega),Hf (by simp only;omega),by simp only[Sl.l];omega,sall,ho,ssum,Hf (by simp only;omega),Hf (by simp only;omega),Hf (by simp only;omega),Hf (by simp only;omega),Hf (by simp only;omega),Hf (by simp only;omega),Hf (by simp only;omega),Hf (by simp only;omega),Hf (by simp only;omega),Hf (by simp only;omega),Hf (by simp only;omega),Hf (by simp only;omega),Hf (by simp only;omega),b1,b2,stR,starting,Hf (by simp only;omega),started,?_⟩,hky48,fun K=>?_⟩
   ·have:(x45==2)=true:=by simpa using hon
    simp only[this,cond_true];exact Hf (by omega)
   ·rw[head];unfold Kx
    have:(x45==2)=true:=by simpa using hon
    rw[this,ct,wM,hy48,Nu (a:=mn+y48) (by omega),A7p rfl,Tz]
    rfl
  ·refine⟨⟨[117,Cbu.getD i 0],bus,mn,M,.of S false false,noLoad,y16,y18,mn+y20,mn+y22,y24,y26,y28,y30,y30+y32,y34,y36,y38,.of B false false,x45,cond (x45==1) 1 (1+y46),0⟩,ky46,
    ⟨rfl,hb,Hf (by simp only;omega),Hf (by simp only;omega),by simp only[Sl.l];omega,sall,ho,ssum,Hf (by simp only;omega),Hf (by simp only;omega),Hf (by simp only;omega),Hf (by simp only;omega),Hf (by simp only;omega),Hf (by simp only;omega),Hf (by simp only;omega),Hf (by simp only;omega),Hf (by simp only;omega),Hf (by simp only;omega),Hf (by simp only;omega),Hf (by simp only;omega),Hf (by simp only;omega),b1,b2,stR,starting,Hf (by simp only;omega),started,?_⟩,hky46,fun K=>?_⟩
   ·have:(x45==2)=false:=by simpa using hon
    simp only[this,cond_false];exact Hf (by omega)
   ·rw[head];unfold Kx
    have:(x45==2)=false:=by simpa using hon
    rw[this,cf,A7p rfl,Tz]
    rfl
 | n+1,fuel+1,p,k,M,S,hf,hk,hS,hS1,hp,ho,hw,hM0,hM1,hp0,hp1=>by
  obtain⟨y12,ky12,y120,y121,hky12,hy12⟩:=nx (R:=R) (N:=N) (t:=t) (o:=o) hl 15 (by omega) (by omega) k hk
  obtain⟨y14,ky14,y140,y141,hky14,hy14⟩:=nx (R:=R) (N:=N) (t:=t) (o:=o) hl 10 (by omega) (by omega) ky12 hky12
  obtain⟨u,k',g1,g2,g3⟩:=Bri (N:=N) (t:=t) (o:=o) (i:=i) (nb:=nb) (H:=H) (bus:=bus) (mn:=mn) (noLoad:=noLoad) hl hb hmn hno hH n fuel (p+y14) ky14 (M+(1+y12)) (S++[(⟨1+y12,p⟩:SegD)]) (by omega) hky14 (by simp;omega) (by simp;omega) (by
   intro x hx
   rcases List.mem_append.1 hx with h | h
   ·have:=hp x h;exact⟨by omega,this.2⟩
   ·simp at h;subst h
    refine⟨by simp only;omega,?_⟩
    unfold Ek;rw[Hf (by simp only;omega),Hf (by simp only;omega)];rfl) (Brg ho (fun x hx=>(hp x hx).1)) (by rw[Brh,hw,Nu (by simp only;omega)];simp only;omega) (by omega) (by simp;omega) (by omega) (by simp;omega)
  refine⟨u,k',g1,g2,fun K=>?_⟩
  rw[Ej];unfold Np
  have c3:(Nat.ble (S.length+1) 140737488355328&&Nat.ble ((S.length+1)*16) 140737488355328)=true:=by rw[Ef,Ef];simp;omega
  have c5:List.take (S.length*2) (S.flatMap SegD.av)++[.int .i64 (1+y12),.int .i64 p]=(S++[(⟨1+y12,p⟩:SegD)]).flatMap SegD.av:=by rw[A7p rfl];simp[SegD.av]
  have wn:IntKind.wrap .i64 (((n+1:Nat):Int) - 1)=(n:Int):=Bln (by omega)
  rw[show decide (((n+1:Nat):Int)>0)=true from decide_eq_true (by omega),ct,hy12,c3,ct,hy14,Nu (a:=1+y12) (by omega),Nu (a:=p+y14) (by omega),wn,Nu (a:=M+(1+y12)) (by omega),c5]
  have:=g3 K
  rw[List.length_append] at this
  exact this
theorem B6r {N:Nat} {l:List Int} {t o:Bool} (hN:8≤N) (hl:l.length≤9223372036854775807) {i:Nat} (hi:i<16) {nb H:Int} (hnb:1≤nb∧nb≤1000) (hH:1≤H∧H≤24) (k:Nat) (hk:k≤l.length) :
  ∃ (u:UnitD) (k':Nat),UnitG i nb H u∧k'≤l.length∧∀ K:List AV→Int→Option R,Nq N (i:Int) nb H (Az l) l.length t o (k:Int) K=K u.av (k':Int):=by
 obtain⟨y2,ky2,y20,y21,hky2,hy2⟩:=nx (R:=R) (N:=N) (t:=t) (o:=o) hl nb (by omega) (by omega) k hk
 obtain⟨y4,ky4,y40,y41,hky4,hy4⟩:=nx (R:=R) (N:=N) (t:=t) (o:=o) hl 8 (by omega) (by omega) ky2 hky2
 obtain⟨y6,ky6,y60,y61,hky6,hy6⟩:=nx (R:=R) (N:=N) (t:=t) (o:=o) hl 20 (by omega) (by omega) ky4 hky4
 obtain⟨y8,ky8,y80,y81,hky8,hy8⟩:=nx (R:=R) (N:=N) (t:=t) (o:=o) hl 20 (by omega) (by omega) ky6 hky6
 obtain⟨y10,ky10,y100,y101,hky10,hy10⟩:=nx (R:=R) (N:=N) (t:=t) (o:=o) hl 2 (by omega) (by omega) ky8 hky8
 obtain⟨n,hn⟩:∃ n:Nat,1+y10=(n:Int):=⟨(1+y10).toNat,by omega⟩
 obtain⟨u,k',g1,g2,g3⟩:=Bri (R:=R) (N:=N) (l:=l) (t:=t) (o:=o) hl (i:=i) (nb:=nb) (H:=H) (bus:=y2) (mn:=y4) (noLoad:=y6) ⟨y20,y21⟩ ⟨y40,y41⟩ ⟨y60,y61⟩ hH n N (y8 - 2) ky10 y4 [] (by omega) hky10 (by simp;omega) (by simp;omega) (by simp) Byi (by simp[Aki]) (by omega) (by simp) (by omega) (by simp;omega)
 refine⟨u,k',g1,g2,fun K=>?_⟩
 rw[Ahg];unfold Ur
 rw[Qa hi,hy2,hy4,hy6,hy8,hy10,Nu (a:=y8 - 2) (by omega),Nu (a:=1+y10) (by omega),hn]
 simpa using g3 K
structure OutG (i:Nat) (nl nu:Nat) (x:OutD):Prop where
 name:x.name=[111,Cbu.getD i 0]
 ll:x.lines.l.length=1∨x.lines.l.length=2
 lr:∀ y ∈ x.lines.l,0≤y∧y<(nl:Int)
 la:asc x.lines.l=true
 ml:x.moves.l.length≤nu
 mc:((x.moves.l.length:Int)==0||x.corr)=true
 mr:∀ m ∈ x.moves.l,0≤m.unit∧m.unit<(nu:Int)
 ma:asc (x.moves.l.map (·.unit))=true
 mi:x.moves.l.all B6m=true
theorem Byp {s:Int}:∀ {S:List Int},asc S=true→(∀ x ∈ S,x<s)→asc (S++[s])=true
 | [],_,_=>A4m s
 | [a],_,h=>by
  rw[List.cons_append,List.nil_append,Ahw,A4m]
  have:=h a (by simp);simp;omega
 | a::b::r,ho,h=>by
  rw[Ahw] at ho
  simp only[Bool.and_eq_true] at ho
  rw[List.cons_append,List.cons_append,Ahw,ho.1]
  have:=Byp (S:=b::r) ho.2 (fun x hx=>h x (by rcases List.mem_cons.1 hx with h1 | h1<;>simp[h1]))
  simpa using this
theorem B8n (S:List MoveD):(S.flatMap MoveD.av).length=S.length*3:=by
 induction S with
 | nil=>rfl
 | cons e r ih=>rw[List.flatMap_cons,List.length_append,ih,Nt];simp;omega
theorem A7q {N:Nat} {l:List Int} {t o:Bool} (hl:l.length≤9223372036854775807) {i nl nu:Nat} (hnu:nu≤16) {B:List Int} (hB1:B.length=1∨B.length=2) (hB2:∀ y ∈ B,0≤y∧y<(nl:Int)) (hB3:asc B=true):∀ (m j fuel:Nat) (k:Nat) (S:List MoveD),j+m=nu→m<fuel→k≤l.length→S.length≤j→(∀ x ∈ S,0≤x.unit∧x.unit<(j:Int))→asc (S.map (·.unit))=true→S.all B6m=true →
  ∃ (x:OutD) (k':Nat),OutG i nl nu x∧k'≤l.length∧∀ K:List AV→Int→Option R,D8 N K (nu:Int) (Az l) l.length t o [111,Cbu.getD i 0] B.length (Az B) fuel (j:Int) (k:Int) S.length (S.flatMap MoveD.av)=K x.av (k':Int)
 | 0,j,fuel+1,k,S,hj,_,hk,hS,hr,ha,hi=>by
  have hju:j=nu:=by omega
  subst hju
  refine⟨⟨[111,Cbu.getD i 0],.of B false false,true,.of S false false⟩,k,⟨rfl,hB1,hB2,hB3,hS,by simp,hr,ha,hi⟩,hk,fun K=>?_⟩
  rw[D8];unfold Gu
  rw[ltF (Nat.le_refl _),cf,Tz,List.take_of_length_le (by rw[B8n];exact Nat.le_refl _)]
  rfl
 | m+1,j,fuel+1,k,S,hj,hf,hk,hS,hr,ha,hi=>by
  obtain⟨y10,ky10,y100,y101,hky10,hy10⟩:=nx (R:=R) (N:=N) (t:=t) (o:=o) hl 2 (by omega) (by omega) k hk
  by_cases h1:y10=1
  ·obtain⟨y12,ky12,y120,y121,hky12,hy12⟩:=nx (R:=R) (N:=N) (t:=t) (o:=o) hl 8 (by omega) (by omega) ky10 hky10
   obtain⟨y14,ky14,y140,y141,hky14,hy14⟩:=nx (R:=R) (N:=N) (t:=t) (o:=o) hl 8 (by omega) (by omega) ky12 hky12
   obtain⟨x,k',g1,g2,g3⟩:=A7q (N:=N) (t:=t) (o:=o) (i:=i) (nl:=nl) (nu:=nu) hl hnu hB1 hB2 hB3 m (j+1) fuel ky14 (S++[(⟨j,y12,y14⟩:MoveD)]) (by omega) (by omega) hky14 (by simp;omega) (by
    intro x hx
    rcases List.mem_append.1 hx with h | h
    ·have:=hr x h;omega
    ·simp at h;subst h;simp only;omega) (by
    rw[List.map_append];exact Byp ha (by
     intro x hx
     simp only[List.mem_map] at hx
     obtain⟨y,hy,rfl⟩:=hx
     exact(hr y hy).2)) (by
    rw[List.all_append,hi]
    simp only[List.all_cons,List.all_nil,Bool.and_true,Bool.true_and]
    unfold B6m;rw[Hf (by simp only;omega),Hf (by simp only;omega)];rfl)
   refine⟨x,k',g1,g2,fun K=>?_⟩
   rw[D8];unfold Gu
   have e1:(y10==1)=true:=by simpa using h1
   have c3:(Nat.ble (S.length+1) 140737488355328&&Nat.ble ((S.length+1)*24) 140737488355328)=true:=by rw[Ef,Ef];simp;omega
   have c5:List.take (S.length*3) (S.flatMap MoveD.av)++[.int .i64 (j:Int),.int .i64 y12,.int .i64 y14]=(S++[(⟨j,y12,y14⟩:MoveD)]).flatMap MoveD.av:=by
    rw[List.take_of_length_le (by rw[B8n];exact Nat.le_refl _)];simp[MoveD.av]
   rw[ltT (by omega),ct,hy10,e1,ct,hy12,hy14,c3,ct,c5,El (by omega)]
   have:=g3 K
   rw[List.length_append] at this
   exact this
  ·obtain⟨x,k',g1,g2,g3⟩:=A7q (N:=N) (t:=t) (o:=o) (i:=i) (nl:=nl) (nu:=nu) hl hnu hB1 hB2 hB3 m (j+1) fuel ky10 S (by omega) (by omega) hky10 (by omega) (by intro x hx;have:=hr x hx;omega) ha hi
   refine⟨x,k',g1,g2,fun K=>?_⟩
   rw[D8];unfold Gu
   have e1:(y10==1)=false:=by simpa using h1
   rw[ltT (by omega),ct,hy10,e1,cf,El (by omega),g3]
theorem Brj {N:Nat} {l:List Int} {t o:Bool} (hN:64≤N) (hl:l.length≤9223372036854775807) {i nl nu:Nat} (hnu:nu≤16) {B:List Int} (hB1:B.length=1∨B.length=2) (hB2:∀ y ∈ B,0≤y∧y<(nl:Int)) (hB3:asc B=true) (k:Nat) (hk:k≤l.length) :
  ∃ (x:OutD) (k':Nat),OutG i nl nu x∧k'≤l.length∧∀ K:List AV→Int→Option R,D9 N K (nu:Int) (Az l) l.length t o [111,Cbu.getD i 0] (k:Int) B.length (Az B)=K x.av (k':Int):=by
 obtain⟨y8,ky8,y80,y81,hky8,hy8⟩:=nx (R:=R) (N:=N) (t:=t) (o:=o) hl 2 (by omega) (by omega) k hk
 by_cases h1:y8=1
 ·obtain⟨x,k',g1,g2,g3⟩:=A7q (R:=R) (N:=N) (t:=t) (o:=o) (i:=i) (nl:=nl) (nu:=nu) hl hnu hB1 hB2 hB3 nu 0 N ky8 [] (by omega) (by omega) hky8 (by simp) (by simp) Buf rfl
  refine⟨x,k',g1,g2,fun K=>?_⟩
  unfold D9 J3
  have e1:(y8==1)=true:=by simpa using h1
  rw[hy8,e1,ct]
  simpa using g3 K
 ·refine⟨⟨[111,Cbu.getD i 0],.of B false false,false,.of [] false false⟩,ky8,⟨rfl,hB1,hB2,hB3,by simp[Sl.l],by simp[Sl.l],by simp[Sl.l],Buf,rfl⟩,hky8,fun K=>?_⟩
  unfold D9 J3
  have e1:(y8==1)=false:=by simpa using h1
  rw[hy8,e1,cf,Tz]
  rfl
theorem Byq {N:Nat} {l:List Int} {t o:Bool} (hN:64≤N) (hl:l.length≤9223372036854775807) {i nl nu:Nat} (hi:i<16) (hnl:1≤nl∧nl≤1000) (hnu:nu≤16) (k:Nat) (hk:k≤l.length) :
  ∃ (x:OutD) (k':Nat),OutG i nl nu x∧k'≤l.length∧∀ K:List AV→Int→Option R,Jb N (i:Int) (nl:Int) (nu:Int) (Az l) l.length t o (k:Int) K=K x.av (k':Int):=by
 obtain⟨y2,ky2,y20,y21,hky2,hy2⟩:=nx (R:=R) (N:=N) (t:=t) (o:=o) hl (nl:Int) (by omega) (by omega) k hk
 obtain⟨y4,ky4,y40,y41,hky4,hy4⟩:=nx (R:=R) (N:=N) (t:=t) (o:=o) hl (nl:Int) (by omega) (by omega) ky2 hky2
 have one:∀ k0,k0≤l.length→∃ (x:OutD) (k':Nat),OutG i nl nu x∧k'≤l.length∧∀ K:List AV→Int→Option R,D9 N K (nu:Int) (Az l) l.length t o [111,Cbu.getD i 0] (k0:Int) 1 [.int .i64 y2]=K x.av (k':Int):=fun k0 hk0 =>
  Brj (i:=i) (nl:=nl) hN hl hnu (B:=[y2]) (.inl rfl) (by intro y hy;simp at hy;subst hy;exact⟨y20,y21⟩) (A4m _) k0 hk0
 by_cases h1:y4>y2
 ·obtain⟨y6,ky6,y60,y61,hky6,hy6⟩:=nx (R:=R) (N:=N) (t:=t) (o:=o) hl 3 (by omega) (by omega) ky4 hky4
  by_cases h2:y6=2
  ·obtain⟨x,k',g1,g2,g3⟩:=Brj (R:=R) (N:=N) (t:=t) (o:=o) (i:=i) (nl:=nl) (nu:=nu) hN hl hnu (B:=[y2,y4]) (.inr rfl) (by intro y hy;simp at hy;rcases hy with rfl | rfl<;>omega) (by rw[Ahw,A4m];simp;omega) ky6 hky6
   refine⟨x,k',g1,g2,fun K=>?_⟩
   rw[J4];unfold Ho
   have e1:decide (y4>y2)=true:=by simpa using h1
   have e2:(y6==2)=true:=by simpa using h2
   rw[Qa hi,hy2,hy4,e1,hy6,e2]
   simpa[Az] using g3 K
  ·obtain⟨x,k',g1,g2,g3⟩:=one ky6 hky6
   refine⟨x,k',g1,g2,fun K=>?_⟩
   rw[J4];unfold Ho
   have e1:decide (y4>y2)=true:=by simpa using h1
   have e2:(y6==2)=false:=by simpa using h2
   rw[Qa hi,hy2,hy4,e1,hy6,e2]
   exact g3 K
 ·obtain⟨x,k',g1,g2,g3⟩:=one ky4 hky4
  refine⟨x,k',g1,g2,fun K=>?_⟩
  rw[J4];unfold Ho
  have e1:decide (y4>y2)=false:=by simpa using h1
  rw[Qa hi,hy2,hy4,e1]
  exact g3 K
end
end Gx.Cf

namespace Gx
open Go Go.Proofs
open IntKind (wrap)
set_option maxRecDepth 100000
noncomputable section
variable {R:Type} (N:Nat)
def Akw (k2:Int→Int→Nat→LA→O R) (r0:LA→O R) (l:Int) (a:LA) (b:Nat) (c:Bool) (e:Int) (f d:Nat) (i g:LA) (ar au:Int) (am:Nat) (av:LA):O R :=
 (Ae N l a b false c au (fun bb bp=>(Ae N (wrap .i64 (l - 1)) a b false c bp (fun bq br=>(cond (l==0) none (Jz N ((am:Nat):Int) bb (Int.tmod (wrap .i64 ((wrap .i64 (bb+1))+bq)) l) e a b false c br (fun bc bs=>(cond ((Nat.beq (bc.length) 12)&&(Nat.ble 12 12)) (cond ((Nat.ble (am+1) 140737488355328)&&(Nat.ble ((am+1)*120) 140737488355328)) (k2 (wrap .i64 (ar - 1)) bs (am+1) ((av.take (am*12))++((setCells [(.str ([]:List UInt8)),(.int .i64 0),(.int .i64 0),(.int .i64 0),(.int .i64 0),(.int .i64 0),(.int .i64 0),(.int .i64 0),(.int .i64 0),(.int .i64 0),(.int .i64 0),.nsl] 0 bc).take 12))) none) none))))))))
def Akx (k7:Int→Int→Nat→LA→O R) (r0:LA→O R) (a:LA) (b:Nat) (c:Bool) (e:Int) (f d o m r t:Nat) (i g p q s u:LA) (aq aw:Int) (v:Nat) (an:LA):O R :=
 (Jb N ((v:Nat):Int) ((o:Nat):Int) ((m:Nat):Int) a b false c aw (fun ay bd=>(cond ((Nat.beq 0 0)&&((Nat.beq (ay.length) 4)&&(Nat.beq 4 4))) (cond ((Nat.ble (0+v) 140737488355328)&&(Nat.ble ((0+v)*72) 140737488355328)) (cond (Nat.ble 4 (ay.length)) (cond ((Nat.beq ((ay.take 4).length) 4)&&(Nat.ble 4 4)) (cond ((Nat.ble ((0+v)+1) 140737488355328)&&(Nat.ble (((0+v)+1)*72) 140737488355328)) (Zg N [(.int .i64 e),(.imm (i.take (f*1)) f 1 false true),(.imm (g.take (d*3)) d 3 false true),(.imm (p.take (o*12)) o 12 false true),(.imm (q.take (m*22)) m 22 false true),(.imm (s.take (r*9)) r 9 false true),(.imm (u.take (t*5)) t 5 false true),(.imm (List.take (((0+v)+1)*4) (((an.take (v*4)).take ((0+v)*4))++((setCells [(.str ([]:List UInt8)),.nsl,(.bool false),.nsl] 0 (ay.take 4)).take 4))) ((0+v)+1) 4 false true)] true (fun bt bu=>(cond ((Nat.beq (bt.length) 3)&&((Nat.ble 3 3)&&(!false))) (cond (bu==0) (k7 (wrap .i64 (aq - 1)) bd ((0+v)+1) (((an.take (v*4)).take ((0+v)*4))++((setCells [(.str ([]:List UInt8)),.nsl,(.bool false),.nsl] 0 (ay.take 4)).take 4))) (k7 (wrap .i64 (aq - 1)) bd v an)) none))) none) none) none) none) none)))
def Wh (N:Nat) (r0:LA→O R) (a:LA) (b:Nat) (c:Bool) (e:Int) (f d o m r t:Nat) (i g p q s u:LA) (k7:Int→Int→Nat→LA→O R) (q8:Int→Int→Nat→LA→O R) (ad ah:Int) (w:Nat) (y:LA):O R :=
 (cond ((decide (ad>0))==true) (cond (cond true (decide (((o:Nat):Int)>0)) false) (q8 ad ah w y) (r0 [(.int .i64 e),(.imm (i.take (f*1)) f 1 false false),(.imm (g.take (d*3)) d 3 false false),(.imm (p.take (o*12)) o 12 false false),(.imm (q.take (m*22)) m 22 false false),(.imm (s.take (r*9)) r 9 false false),(.imm (u.take (t*5)) t 5 false false),(.imm (y.take (w*4)) w 4 false false)])) (r0 [(.int .i64 e),(.imm (i.take (f*1)) f 1 false false),(.imm (g.take (d*3)) d 3 false false),(.imm (p.take (o*12)) o 12 false false),(.imm (q.take (m*22)) m 22 false false),(.imm (s.take (r*9)) r 9 false false),(.imm (u.take (t*5)) t 5 false false),(.imm (y.take (w*4)) w 4 false false)]))
def G0 (r0:LA→O R) (a:LA) (b:Nat) (c:Bool) (e:Int) (f d o m r t:Nat) (i g p q s u:LA):Nat→Int→Int→Nat→LA→O R
 | 0,_,_,_,_=>none
 | n+1,ad,ah,w,y=>(Wh N r0 a b c e f d o m r t i g p q s u (G0 r0 a b c e f d o m r t i g p q s u n) (fun aq aw v an=>(Akx N (G0 r0 a b c e f d o m r t i g p q s u n) r0 a b c e f d o m r t i g p q s u aq aw v an)) ad ah w y)
def Ar9 (r0:LA→O R) (a:LA) (b:Nat) (c:Bool) (e:Int) (f d o m r:Nat) (i g p q s:LA) (q7:Int→Int→Nat→LA→O R) (ao:Int) (t:Nat) (u:LA):O R :=
 (Ae N 4 a b false c ao (fun bv bw=>(q7 bv bw 0 [])))
def Aky (r0:LA→O R) (a:LA) (b:Nat) (c:Bool) (e:Int) (f d o m r:Nat) (i g p q s:LA) (ao:Int) (t:Nat) (u:LA):O R:=(Ar9 N r0 a b c e f d o m r i g p q s (fun ad ah w y=>(G0 N r0 a b c e f d o m r t i g p q s u N ad ah w y)) ao t u)
def Ael (r0:LA→O R) (l:Int) (a:LA) (b:Nat) (c:Bool) (e:Int) (f d o m:Nat) (i g p q:LA) (q6:Int→Nat→LA→O R) (ap:Int) (r:Nat) (s:LA):O R :=
 (Ae N 3 a b false c ap (fun bx be=>(cond (bx==2) (Ae N l a b false c be (fun bz ca=>(D1 N e 12 a b false c ca (fun bf cb cc=>(D1 N e 12 a b false c cb (fun bg cd ce=>(D1 N e 40 a b false c cd (fun bh cf cg=>(q6 cf 1 [(.str ([116,48]:List UInt8)),(.int .i64 bz),(.imm (cc.take (bf*1)) bf 1 false false),(.imm (ce.take (bg*1)) bg 1 false false),(.imm (cg.take (bh*1)) bh 1 false false)]))))))))) (q6 be 0 []))))
def Aby (r0:LA→O R) (l:Int) (a:LA) (b:Nat) (c:Bool) (e:Int) (f d o m:Nat) (i g p q:LA) (ap:Int) (r:Nat) (s:LA):O R:=(Ael N r0 l a b c e f d o m i g p q (fun ao t u=>(Aky N r0 a b c e f d o m r i g p q s ao t u)) ap r s)
def Wi (r0:LA→O R) (l:Int) (a:LA) (b:Nat) (c:Bool) (e:Int) (f d:Nat) (i g:LA) (k4:Int→Int→Nat→Nat→LA→LA→O R) (q5:Int→Nat→LA→O R) (ai aj:Int) (o m:Nat) (p q:LA):O R :=
 (cond (decide (ai>0)) (Nq N ((m:Nat):Int) l e a b false c aj (fun bi ch=>(cond ((Nat.beq (bi.length) 22)&&(Nat.ble 22 22)) (cond ((Nat.ble (m+1) 140737488355328)&&(Nat.ble ((m+1)*216) 140737488355328)) (k4 (wrap .i64 (ai - 1)) ch o (m+1) p ((q.take (m*22))++((setCells [(.str ([]:List UInt8)),(.int .i64 0),(.int .i64 0),(.int .i64 0),.nsl,(.int .i64 0),(.int .i64 0),(.int .i64 0),(.int .i64 0),(.int .i64 0),(.int .i64 0),(.int .i64 0),(.int .i64 0),(.int .i64 0),(.int .i64 0),(.int .i64 0),(.int .i64 0),(.int .i64 0),.nsl,(.int .i64 0),(.int .i64 0),(.int .i64 0)] 0 bi).take 22))) none) none))) (Ae N 3 a b false c aj (fun ci bj=>(cond (ci==2) (Ae N l a b false c bj (fun cj ck=>(Ae N 20 a b false c ck (fun ba cl=>(Ae N 8 a b false c cl (fun cm cn=>(Ae N 8 a b false c cn (fun co cp=>(Ae N 4 a b false c cp (fun cq cr=>(Ae N (wrap .i64 (ba+1)) a b false c cr (fun cs ct=>(Ae N (wrap .i64 (ba+1)) a b false c ct (fun cu cv=>(q5 cv 1 [(.str ([115,48]:List UInt8)),(.int .i64 cj),(.int .i64 ba),(.int .i64 cs),(.int .i64 cu),(.int .i64 cm),(.int .i64 co),(.int .i64 (wrap .i64 (1+cq))),(.int .i64 4)]))))))))))))))) (q5 bj 0 [])))))
def M6 (r0:LA→O R) (l:Int) (a:LA) (b:Nat) (c:Bool) (e:Int) (f d:Nat) (i g:LA):Nat→Int→Int→Nat→Nat→LA→LA→O R
 | 0,_,_,_,_,_,_=>none
 | n+1,ai,aj,o,m,p,q=>(Wi N r0 l a b c e f d i g (M6 r0 l a b c e f d i g n) (fun ap r s=>(Aby N r0 l a b c e f d o m i g p q ap r s)) ai aj o m p q)
def Wj (r0:LA→O R) (l:Int) (a:LA) (b:Nat) (c:Bool) (e:Int) (f d:Nat) (i g:LA) (k2:Int→Int→Nat→LA→O R) (q3:Int→Int→Nat→LA→O R) (q4:Int→Int→Nat→Nat→LA→LA→O R) (ae z:Int) (aa:Nat) (ab:LA):O R :=
 (cond ((decide (ae>0))==true) (cond (cond true (decide (l>1)) false) (q3 ae z aa ab) (Ae N 3 a b false c z (fun cw cx=>(q4 (wrap .i64 (1+cw)) cx aa 0 ab [])))) (Ae N 3 a b false c z (fun cy cz=>(q4 (wrap .i64 (1+cy)) cz aa 0 ab []))))
def M7 (r0:LA→O R) (l:Int) (a:LA) (b:Nat) (c:Bool) (e:Int) (f d:Nat) (i g:LA):Nat→Int→Int→Nat→LA→O R
 | 0,_,_,_,_=>none
 | n+1,ae,z,aa,ab=>(Wj N r0 l a b c e f d i g (M7 r0 l a b c e f d i g n) (fun ar au am av=>(Akw N (M7 r0 l a b c e f d i g n) r0 l a b c e f d i g ar au am av)) (fun ai aj o m p q=>(M6 N r0 l a b c e f d i g N ai aj o m p q)) ae z aa ab)
def Aem (r0:LA→O R) (a:LA) (b:Nat) (c:Bool) (e:Int) (f d:Nat) (i g:LA) (k1:Int→Int→Int→Nat→LA→O R) (q2:Int→Int→Nat→LA→O R) (l af ak:Int) (x:Nat) (al:LA):O R :=
 (cond (decide (af<l)) (Ae N af a b false c ak (fun da db=>(Jz N ((x:Nat):Int) da af e a b false c db (fun bk dc=>(cond ((Nat.beq (bk.length) 12)&&(Nat.ble 12 12)) (cond ((Nat.ble (x+1) 140737488355328)&&(Nat.ble ((x+1)*120) 140737488355328)) (k1 l (wrap .i64 (af+1)) dc (x+1) ((al.take (x*12))++((setCells [(.str ([]:List UInt8)),(.int .i64 0),(.int .i64 0),(.int .i64 0),(.int .i64 0),(.int .i64 0),(.int .i64 0),(.int .i64 0),(.int .i64 0),(.int .i64 0),(.int .i64 0),.nsl] 0 bk).take 12))) none) none))))) (Ae N 5 a b false c ak (fun dd de=>(q2 dd de x al))))
def T0 (r0:LA→O R) (a:LA) (b:Nat) (c:Bool) (e:Int) (f d:Nat) (i g:LA):Nat→Int→Int→Int→Nat→LA→O R
 | 0,_,_,_,_,_=>none
 | n+1,l,af,ak,x,al=>(Aem N r0 a b c e f d i g (T0 r0 a b c e f d i g n) (fun ae z aa ab=>(M7 N r0 l a b c e f d i g N ae z aa ab)) l af ak x al)
def Wk (r0:LA→O R) (a:LA) (b:Nat) (c:Bool) (f:Nat) (i:LA) (k0:Int→Int→Int→Nat→LA→O R) (q1:Int→Int→Int→Nat→LA→O R) (ac ag e:Int) (d:Nat) (g:LA):O R :=
 (cond (decide (ac>0)) (Yw N ([98]:List UInt8) ((d:Nat):Int) (fun bl=>(D1 N e 14 a b false c ag (fun az df bm=>(Ae N 2 a b false c df (fun dg bn=>(cond (dg==1) (Ae N 200 a b false c bn (fun dh di=>(cond ((Nat.ble (d+1) 140737488355328)&&(Nat.ble ((d+1)*48) 140737488355328)) (k0 (wrap .i64 (ac - 1)) di e (d+1) ((g.take (d*3))++[(.str bl),(.imm (bm.take (az*1)) az 1 false false),(.int .i64 (wrap .i64 (100+dh)))])) none))) (cond ((Nat.ble (d+1) 140737488355328)&&(Nat.ble ((d+1)*48) 140737488355328)) (k0 (wrap .i64 (ac - 1)) bn e (d+1) ((g.take (d*3))++[(.str bl),(.imm (bm.take (az*1)) az 1 false false),(.int .i64 0)])) none)))))))) (q1 ((d:Nat):Int) 1 ag 0 []))
def Km (r0:LA→O R) (a:LA) (b:Nat) (c:Bool) (f:Nat) (i:LA):Nat→Int→Int→Int→Nat→LA→O R
 | 0,_,_,_,_,_=>none
 | n+1,ac,ag,e,d,g=>(Wk N r0 a b c f i (Km r0 a b c f i n) (fun l af ak x al=>(T0 N r0 a b c e f d i g N l af ak x al)) ac ag e d g)
def A42 (r0:LA→O R) (q0:Nat→LA→Int→Int→Int→Nat→LA→O R) (a:LA) (b:Nat) (ax c:Bool):O R :=
 (Bku N a b false c (Ae N 3 a b false c 0 (fun bo dj=>(D1 N (wrap .i64 (1+bo)) 5 a b false c dj (fun f dk i=>(Ae N 4 a b false c dk (fun dl dm=>(q0 f i (wrap .i64 (1+dl)) dm (wrap .i64 (1+bo)) 0 []))))))))
def Atk:=(Ak (fun (N:Nat) (a:LA) (b:Nat) (ax c:Bool) (r0:LA→O R)=>(A42 N r0 (fun f i ac ag e d g=>(Km N r0 a b c f i N ac ag e d g)) a b ax c))).1
theorem Bco (a b ax c r0):(@Atk R N a b ax c r0)=(A42 N r0 (fun f i ac ag e d g=>(Km N r0 a b c f i N ac ag e d g)) a b ax c):=by rw[Atk,(Ak _).2]
def Bl1:Hints:={ H:=(hS hL (hS hL (hS hL (hS hL (hS (hS hL (hS (hP [2,3,4,5] hL) hL)) (hS hL (hS (hS hL (hS (hP [2,3,4,7,8] hL) hL)) (hS (hS hL (hS (hP [2,3,4,7,9] (hJ [2,3,4,7,9] hL hL)) hL)) (hS (hS hL (hS (hP [2,3,4,7,11] hL) hL)) (hJ [2,3,4,7] hL (hJ [2,3,4] hL (hS (hS hL (hS (hP [2,3,4,13] (hJ [2,3,4,13] hL hL)) hL)) hL)))))))))))),modes:=[(3,0)],cob:=[23,44,192] }
def Brk:Tbl:=[(105,Bq4 N),(106,Fr N),(107,Ahd N),(108,Abe N),(109,Amq N),(110,Amv N),(111,Ad5 N),(112,A41 N)]
def Kn (F:KF R):=atM Tryz.f61 Bl1 (Brk N) [] N F
def Bz (F:KF R):LA→O R:=(fun dn=>F (.pagg dn false) [])
def B15 (l:Int) (a:LA) (b:Nat) (c:Bool) (e:Int) (f d:Nat) (i g:LA) (ar au:Int) (am:Nat) (av:LA):St:=⟨[(2,(.optr 300000 0)),(3,(.optr 300001 0)),(4,(.optr 300002 0)),(7,(.int .i64 l)),(9,(.int .i64 ar))],[(300000,⟨false,false,false,false,0,[(.int .i64 0),.nsl,.nsl,.nsl,.nsl,.nsl,.nsl,.nsl],false⟩),(300001,⟨false,false,false,false,0,[(.imm a b 1 false c),(.int .i64 au)],false⟩),(300002,⟨false,false,false,false,0,[(.int .i64 e),(.own 300003 0 f),(.own 300004 0 d),(.own 300005 0 am),(.own 300006 0 0),(.own 300007 0 0),(.own 300008 0 0),(.own 300009 0 0)],false⟩),(300003,(bQ 1 i)),(300004,(bQ 3 g)),(300005,(bQ 12 av)),(300006,(bQ 22 [])),(300007,(bQ 9 [])),(300008,(bQ 5 [])),(300009,(bQ 4 []))]⟩
def B16 (F:KF R) (Q2:St→O R):=Kn N F [1,1,1,1,1,1,1,0,1,0,0,1] [Q2]
def B17 (a:LA) (b:Nat) (c:Bool) (e:Int) (f d o m r t:Nat) (i g p q s u:LA) (aq aw:Int) (v:Nat) (an:LA):St:=⟨[(2,(.optr 300000 0)),(3,(.optr 300001 0)),(4,(.optr 300002 0)),(13,(.int .i64 aq))],[(300000,⟨false,false,false,false,0,[(.int .i64 0),.nsl,.nsl,.nsl,.nsl,.nsl,.nsl,.nsl],false⟩),(300001,⟨false,false,false,false,0,[(.imm a b 1 false c),(.int .i64 aw)],false⟩),(300002,⟨false,false,false,false,0,[(.int .i64 e),(.own 300003 0 f),(.own 300004 0 d),(.own 300005 0 o),(.own 300006 0 m),(.own 300007 0 r),(.own 300008 0 t),(.own 300009 0 v)],false⟩),(300003,(bQ 1 i)),(300004,(bQ 3 g)),(300005,(bQ 12 p)),(300006,(bQ 22 q)),(300007,(bQ 9 s)),(300008,(bQ 5 u)),(300009,(bQ 4 an))]⟩
def B18 (F:KF R) (Q7:St→O R):=Kn N F [1,1,1,1,1,1,1,1,1,1,1,0,1,0,0,1] [Q7]
def Bl2 (a:LA) (b:Nat) (c:Bool) (e:Int) (f d o m r t:Nat) (i g p q s u:LA) (ad ah:Int) (w:Nat) (y:LA):St:=⟨[(2,(.optr 300000 0)),(3,(.optr 300001 0)),(4,(.optr 300002 0)),(13,(.int .i64 ad))],[(300000,⟨false,false,false,false,0,[(.int .i64 0),.nsl,.nsl,.nsl,.nsl,.nsl,.nsl,.nsl],false⟩),(300001,⟨false,false,false,false,0,[(.imm a b 1 false c),(.int .i64 ah)],false⟩),(300002,⟨false,false,false,false,0,[(.int .i64 e),(.own 300003 0 f),(.own 300004 0 d),(.own 300005 0 o),(.own 300006 0 m),(.own 300007 0 r),(.own 300008 0 t),(.own 300009 0 w)],false⟩),(300003,(bQ 1 i)),(300004,(bQ 3 g)),(300005,(bQ 12 p)),(300006,(bQ 22 q)),(300007,(bQ 9 s)),(300008,(bQ 5 u)),(300009,(bQ 4 y))]⟩
def Bl3 (F:KF R):=Kn N F [1,1,1,1,1,1,1,1,1,1,1,0,1,0] []
def B19 (a:LA) (b:Nat) (c:Bool) (e:Int) (f d o m r:Nat) (i g p q s:LA) (ao:Int) (t:Nat) (u:LA):St:=⟨[(2,(.optr 300000 0)),(3,(.optr 300001 0)),(4,(.optr 300002 0))],[(300000,⟨false,false,false,false,0,[(.int .i64 0),.nsl,.nsl,.nsl,.nsl,.nsl,.nsl,.nsl],false⟩),(300001,⟨false,false,false,false,0,[(.imm a b 1 false c),(.int .i64 ao)],false⟩),(300002,⟨false,false,false,false,0,[(.int .i64 e),(.own 300003 0 f),(.own 300004 0 d),(.own 300005 0 o),(.own 300006 0 m),(.own 300007 0 r),(.own 300008 0 t),(.own 300009 0 0)],false⟩),(300003,(bQ 1 i)),(300004,(bQ 3 g)),(300005,(bQ 12 p)),(300006,(bQ 22 q)),(300007,(bQ 9 s)),(300008,(bQ 5 u)),(300009,(bQ 4 []))]⟩
def B2a (F:KF R):=Kn N F [1,1,1,1,1,1,1,1,1,1,1] []
def B2b (l:Int) (a:LA) (b:Nat) (c:Bool) (e:Int) (f d o m:Nat) (i g p q:LA) (ap:Int) (r:Nat) (s:LA):St:=⟨[(2,(.optr 300000 0)),(3,(.optr 300001 0)),(4,(.optr 300002 0)),(7,(.int .i64 l))],[(300000,⟨false,false,false,false,0,[(.int .i64 0),.nsl,.nsl,.nsl,.nsl,.nsl,.nsl,.nsl],false⟩),(300001,⟨false,false,false,false,0,[(.imm a b 1 false c),(.int .i64 ap)],false⟩),(300002,⟨false,false,false,false,0,[(.int .i64 e),(.own 300003 0 f),(.own 300004 0 d),(.own 300005 0 o),(.own 300006 0 m),(.own 300007 0 r),(.own 300008 0 0),(.own 300009 0 0)],false⟩),(300003,(bQ 1 i)),(300004,(bQ 3 g)),(300005,(bQ 12 p)),(300006,(bQ 22 q)),(300007,(bQ 9 s)),(300008,(bQ 5 [])),(300009,(bQ 4 []))]⟩
def B2c (F:KF R):=Kn N F [1,1,1,1,1,1,1,1,1,1] []
def B2d (l:Int) (a:LA) (b:Nat) (c:Bool) (e:Int) (f d:Nat) (i g:LA) (ai aj:Int) (o m:Nat) (p q:LA):St:=⟨[(2,(.optr 300000 0)),(3,(.optr 300001 0)),(4,(.optr 300002 0)),(7,(.int .i64 l)),(11,(.int .i64 ai))],[(300000,⟨false,false,false,false,0,[(.int .i64 0),.nsl,.nsl,.nsl,.nsl,.nsl,.nsl,.nsl],false⟩),(300001,⟨false,false,false,false,0,[(.imm a b 1 false c),(.int .i64 aj)],false⟩),(300002,⟨false,false,false,false,0,[(.int .i64 e),(.own 300003 0 f),(.own 300004 0 d),(.own 300005 0 o),(.own 300006 0 m),(.own 300007 0 0),(.own 300008 0 0),(.own 300009 0 0)],false⟩),(300003,(bQ 1 i)),(300004,(bQ 3 g)),(300005,(bQ 12 p)),(300006,(bQ 22 q)),(300007,(bQ 9 [])),(300008,(bQ 5 [])),(300009,(bQ 4 []))]⟩
def B2e (F:KF R):=Kn N F [1,1,1,1,1,1,1,1,0,1,0] []
def Bl4 (l:Int) (a:LA) (b:Nat) (c:Bool) (e:Int) (f d:Nat) (i g:LA) (ae z:Int) (aa:Nat) (ab:LA):St:=⟨[(2,(.optr 300000 0)),(3,(.optr 300001 0)),(4,(.optr 300002 0)),(7,(.int .i64 l)),(9,(.int .i64 ae))],[(300000,⟨false,false,false,false,0,[(.int .i64 0),.nsl,.nsl,.nsl,.nsl,.nsl,.nsl,.nsl],false⟩),(300001,⟨false,false,false,false,0,[(.imm a b 1 false c),(.int .i64 z)],false⟩),(300002,⟨false,false,false,false,0,[(.int .i64 e),(.own 300003 0 f),(.own 300004 0 d),(.own 300005 0 aa),(.own 300006 0 0),(.own 300007 0 0),(.own 300008 0 0),(.own 300009 0 0)],false⟩),(300003,(bQ 1 i)),(300004,(bQ 3 g)),(300005,(bQ 12 ab)),(300006,(bQ 22 [])),(300007,(bQ 9 [])),(300008,(bQ 5 [])),(300009,(bQ 4 []))]⟩
def Bl5 (F:KF R):=Kn N F [1,1,1,1,1,1,1,0,1,0] []
def B2f (a:LA) (b:Nat) (c:Bool) (e:Int) (f d:Nat) (i g:LA) (l af ak:Int) (x:Nat) (al:LA):St:=⟨[(2,(.optr 300000 0)),(3,(.optr 300001 0)),(4,(.optr 300002 0)),(7,(.int .i64 l)),(8,(.int .i64 af))],[(300000,⟨false,false,false,false,0,[(.int .i64 0),.nsl,.nsl,.nsl,.nsl,.nsl,.nsl,.nsl],false⟩),(300001,⟨false,false,false,false,0,[(.imm a b 1 false c),(.int .i64 ak)],false⟩),(300002,⟨false,false,false,false,0,[(.int .i64 e),(.own 300003 0 f),(.own 300004 0 d),(.own 300005 0 x),(.own 300006 0 0),(.own 300007 0 0),(.own 300008 0 0),(.own 300009 0 0)],false⟩),(300003,(bQ 1 i)),(300004,(bQ 3 g)),(300005,(bQ 12 al)),(300006,(bQ 22 [])),(300007,(bQ 9 [])),(300008,(bQ 5 [])),(300009,(bQ 4 []))]⟩
def B2g (F:KF R):=Kn N F [1,1,1,1,1,1,0,1,0] []
def B2h (a:LA) (b:Nat) (c:Bool) (f:Nat) (i:LA) (ac ag e:Int) (d:Nat) (g:LA):St:=⟨[(2,(.optr 300000 0)),(3,(.optr 300001 0)),(4,(.optr 300002 0)),(5,(.int .i64 ac))],[(300000,⟨false,false,false,false,0,[(.int .i64 0),.nsl,.nsl,.nsl,.nsl,.nsl,.nsl,.nsl],false⟩),(300001,⟨false,false,false,false,0,[(.imm a b 1 false c),(.int .i64 ag)],false⟩),(300002,⟨false,false,false,false,0,[(.int .i64 e),(.own 300003 0 f),(.own 300004 0 d),(.own 300005 0 0),(.own 300006 0 0),(.own 300007 0 0),(.own 300008 0 0),(.own 300009 0 0)],false⟩),(300003,(bQ 1 i)),(300004,(bQ 3 g)),(300005,(bQ 12 [])),(300006,(bQ 22 [])),(300007,(bQ 9 [])),(300008,(bQ 5 [])),(300009,(bQ 4 []))]⟩
def B2i (F:KF R):=Kn N F [1,1,1,1,0,1,0] []
theorem Boe (Q2:St→O R) (F:KF R) (l:Int) (a:LA) (b:Nat) (c:Bool) (e:Int) (f d:Nat) (i g:LA):∀ (ar au:Int) (am:Nat) (av:LA),Bh (B16 N F Q2) (B15 l a b c e f d i g ar au am av)=(Akw N (fun ae z aa ab=>Q2 (Bl4 l a b c e f d i g ae z aa ab)) (Bz F) l a b c e f d i g ar au am av):=by
 intro ar au am av
 kernel_rfl
theorem Bof (Q7:St→O R) (F:KF R) (a:LA) (b:Nat) (c:Bool) (e:Int) (f d o m r t:Nat) (i g p q s u:LA):∀ (aq aw:Int) (v:Nat) (an:LA),Bh (B18 N F Q7) (B17 a b c e f d o m r t i g p q s u aq aw v an)=(Akx N (fun ad ah w y=>Q7 (Bl2 a b c e f d o m r t i g p q s u ad ah w y)) (Bz F) a b c e f d o m r t i g p q s u aq aw v an):=by
 intro aq aw v an
 kernel_rfl
theorem Axv (F:KF R) (a:LA) (b:Nat) (c:Bool) (e:Int) (f d o m r t:Nat) (i g p q s u:LA):∀ (n:Nat) (ad ah:Int) (w:Nat) (y:LA),As (Bl3 N F) n (Bl2 a b c e f d o m r t i g p q s u ad ah w y)=(G0 N (Bz F) a b c e f d o m r t i g p q s u n ad ah w y)
 | 0,_,_,_,_=>by kernel_rfl
 | n+1,ad,ah,w,y=>have e0:=(funext fun ad=>funext fun ah=>funext fun w=>funext fun y=>(Axv F a b c e f d o m r t i g p q s u n ad ah w y))
  Eq.trans (by kernel_rfl) (cgB (Wh N (Bz F) a b c e f d o m r t i g p q s u · · ad ah w y) e0 (funext fun aq=>funext fun aw=>funext fun v=>funext fun an=>(Au ..).trans ((Bof N (As (Bl3 N F) n) F a b c e f d o m r t i g p q s u aq aw v an).trans (cgA (Akx N · (Bz F) a b c e f d o m r t i g p q s u aq aw v an) e0))):_)
theorem Bog (F:KF R) (a:LA) (b:Nat) (c:Bool) (e:Int) (f d o m r:Nat) (i g p q s:LA):∀ (ao:Int) (t:Nat) (u:LA),Bh (B2a N F) (B19 a b c e f d o m r i g p q s ao t u)=(Aky N (Bz F) a b c e f d o m r i g p q s ao t u):=by
 intro ao t u
 exact Eq.trans (by kernel_rfl) (cgA (Ar9 N (Bz F) a b c e f d o m r i g p q s · ao t u) (funext fun ad=>funext fun ah=>funext fun w=>funext fun y=>(Am ..).trans (Axv N F a b c e f d o m r t i g p q s u N ad ah w y)):_)
theorem Boh (F:KF R) (l:Int) (a:LA) (b:Nat) (c:Bool) (e:Int) (f d o m:Nat) (i g p q:LA):∀ (ap:Int) (r:Nat) (s:LA),Bh (B2c N F) (B2b l a b c e f d o m i g p q ap r s)=(Aby N (Bz F) l a b c e f d o m i g p q ap r s):=by
 intro ap r s
 exact Eq.trans (by kernel_rfl) (cgA (Ael N (Bz F) l a b c e f d o m i g p q · ap r s) (funext fun ao=>funext fun t=>funext fun u=>(Au ..).trans (Bog N F a b c e f d o m r i g p q s ao t u)):_)
theorem Axw (F:KF R) (l:Int) (a:LA) (b:Nat) (c:Bool) (e:Int) (f d:Nat) (i g:LA):∀ (n:Nat) (ai aj:Int) (o m:Nat) (p q:LA),As (B2e N F) n (B2d l a b c e f d i g ai aj o m p q)=(M6 N (Bz F) l a b c e f d i g n ai aj o m p q)
 | 0,_,_,_,_,_,_=>by kernel_rfl
 | n+1,ai,aj,o,m,p,q=>Eq.trans (by kernel_rfl) (cgB (Wi N (Bz F) l a b c e f d i g · · ai aj o m p q) (funext fun ai=>funext fun aj=>funext fun o=>funext fun m=>funext fun p=>funext fun q=>(Axw F l a b c e f d i g n ai aj o m p q)) (funext fun ap=>funext fun r=>funext fun s=>(Au ..).trans (Boh N F l a b c e f d o m i g p q ap r s)):_)
theorem Axx (F:KF R) (l:Int) (a:LA) (b:Nat) (c:Bool) (e:Int) (f d:Nat) (i g:LA):∀ (n:Nat) (ae z:Int) (aa:Nat) (ab:LA),As (Bl5 N F) n (Bl4 l a b c e f d i g ae z aa ab)=(M7 N (Bz F) l a b c e f d i g n ae z aa ab)
 | 0,_,_,_,_=>by kernel_rfl
 | n+1,ae,z,aa,ab=>have e0:=(funext fun ae=>funext fun z=>funext fun aa=>funext fun ab=>(Axx F l a b c e f d i g n ae z aa ab))
  Eq.trans (by kernel_rfl) (cgC (Wj N (Bz F) l a b c e f d i g · · · ae z aa ab) e0 (funext fun ar=>funext fun au=>funext fun am=>funext fun av=>(Au ..).trans ((Boe N (As (Bl5 N F) n) F l a b c e f d i g ar au am av).trans (cgA (Akw N · (Bz F) l a b c e f d i g ar au am av) e0))) (funext fun ai=>funext fun aj=>funext fun o=>funext fun m=>funext fun p=>funext fun q=>(Am ..).trans (Axw N F l a b c e f d i g N ai aj o m p q)):_)
theorem Axy (F:KF R) (a:LA) (b:Nat) (c:Bool) (e:Int) (f d:Nat) (i g:LA):∀ (n:Nat) (l af ak:Int) (x:Nat) (al:LA),As (B2g N F) n (B2f a b c e f d i g l af ak x al)=(T0 N (Bz F) a b c e f d i g n l af ak x al)
 | 0,_,_,_,_,_=>by kernel_rfl
 | n+1,l,af,ak,x,al=>Eq.trans (by kernel_rfl) (cgB (Aem N (Bz F) a b c e f d i g · · l af ak x al) (funext fun l=>funext fun af=>funext fun ak=>funext fun x=>funext fun al=>(Axy F a b c e f d i g n l af ak x al)) (funext fun ae=>funext fun z=>funext fun aa=>funext fun ab=>(Am ..).trans (Axx N F l a b c e f d i g N ae z aa ab)):_)
theorem Axz (F:KF R) (a:LA) (b:Nat) (c:Bool) (f:Nat) (i:LA):∀ (n:Nat) (ac ag e:Int) (d:Nat) (g:LA),As (B2i N F) n (B2h a b c f i ac ag e d g)=(Km N (Bz F) a b c f i n ac ag e d g)
 | 0,_,_,_,_,_=>by kernel_rfl
 | n+1,ac,ag,e,d,g=>Eq.trans (by kernel_rfl) (cgB (Wk N (Bz F) a b c f i · · ac ag e d g) (funext fun ac=>funext fun ag=>funext fun e=>funext fun d=>funext fun g=>(Axz F a b c f i n ac ag e d g)) (funext fun l=>funext fun af=>funext fun ak=>funext fun x=>funext fun al=>(Am ..).trans (Axy N F a b c e f d i g N l af ak x al)):_)
theorem Bl6 (a:LA) (b:Nat) (ax c:Bool) (F:KF R):exM (Brk N) Bl1 N 61 [(.imm a b 1 ax c)] [] F=(Atk N a b ax c (Bz F)):=by
 rw[Bco]
 exact Eq.trans (by kernel_rfl) (cgA (A42 N (Bz F) · a b ax c) (funext fun f=>funext fun i=>funext fun ac=>funext fun ag=>funext fun e=>funext fun d=>funext fun g=>(Am ..).trans (Axz N F a b c f i N ac ag e d g)):_)
def Bcp (args:List AV) (h:Al) (k:KF R):O R :=
 match args,h with
 | [(.imm a b 1 ax c)],[]=>(Atk N a b ax c (Bz k))
 | _,_=>none
theorem Bl7:Aq N 61 @Bcp:=by
 intro R Q args h k j;unfold Bcp;split
 exact A0 (Bl6 ..) (Bl6 ..) ⟨B6i N,Hm N,A68 N,Aka N,Bdg N,Bdl N,A33 N,Buz N,trivial⟩
 exact A2
def Bl8:=A1 (Bl7 N)
theorem B2j:Ay Tryz.prog 61 (Bl8 N):=A3 (Bl7 N) follows
def Bl9 (r0:LA→Int→O R) (a:LA) (b:Nat) (d c:Bool):O R :=
 (Atk N a b false c (fun f=>(cond ((Nat.beq 0 0)&&((Nat.beq (f.length) 8)&&(Nat.beq 8 8))) (rdL 22 (f.drop 4) fun e g=>(cond (Aj 0 g) (cond (Nat.ble 22 (e.length)) (rdI .i64 f fun i=>(cond ((Nat.beq 0 0)&&((Nat.beq ((e.take 22).length) 22)&&(Nat.beq 22 22))) (cond (Nat.ble 22 ((e.take 22).length)) (r0 ((e.take 22).take 22) i) none) none)) none) none)) none)))
def Atl:=(Ak (fun (N:Nat) (a:LA) (b:Nat) (d c:Bool) (r0:LA→Int→O R)=>(Bl9 N r0 a b d c))).1
theorem Bcq (a b d c r0):(@Atl R N a b d c r0)=(Bl9 N r0 a b d c):=by rw[Atl,(Ak _).2]
def B2k:Hints:={ H:=hL,modes:=[(3,0),(0,0)] }
def B6s:Tbl:=[(61,Bl8 N)]
def Bma (F:KF R):LA→Int→O R:=(fun l m=>F (.tup [(.pagg l false),(.int .i64 m)]) [])
theorem Bmb (a:LA) (b:Nat) (d c:Bool) (F:KF R):exM (B6s N) B2k N 27 [(.imm a b 1 d c)] [] F=(Atl N a b d c (Bma F)):=by
 rw[Bcq]
 kernel_rfl
def Bcr (args:List AV) (h:Al) (k:KF R):O R :=
 match args,h with
 | [(.imm a b 1 d c)],[]=>(Atl N a b d c (Bma k))
 | _,_=>none
theorem Bmc:Aq N 27 @Bcr:=by
 intro R Q args h k j;unfold Bcr;split
 exact A0 (Bmb ..) (Bmb ..) ⟨B2j N,trivial⟩
 exact A2
def Bmd:=A1 (Bmc N)
theorem B2l:Ay Tryz.prog 27 (Bmd N):=A3 (Bmc N) follows
def Fl (r0:Bool→O R) (i l:Bool) (a b c d f g:LA):O R :=
 (cond (Nat.ble 3 (b.length)) (cond (Nat.ble 3 (a.length)) (Uk N (b.take 3) false (a.take 3) false (fun s=>(cond ((Nat.beq 0 0)&&((Nat.beq (s.length) 3)&&(Nat.beq 3 3))) (cond (Nat.ble 3 (s.length)) (Q5 N (s.take 3) false (fun v=>(cond (v==1) (cond (l==true) (cond (Nat.ble 3 (d.length)) (cond (Nat.ble 3 (c.length)) (Uk N (d.take 3) false (c.take 3) false (fun y=>(cond (Nat.ble 3 (g.length)) (cond (Nat.ble 3 (s.length)) (Adf N (g.take 3) false (s.take 3) false (fun z=>(Dw N y false z false (fun aa=>(r0 (cond true (decide (aa≥0)) false)))))) none) none))) none) none) (r0 false)) (cond (v==(-1)) (cond (i==true) (cond (Nat.ble 3 (d.length)) (cond (Nat.ble 3 (c.length)) (Uk N (d.take 3) false (c.take 3) false (fun ab=>(cond (Nat.ble 3 (f.length)) (cond (Nat.ble 3 (s.length)) (Adf N (f.take 3) false (s.take 3) false (fun ac=>(Dw N ab false ac false (fun ad=>(r0 (cond true (decide (ad≥0)) false)))))) none) none))) none) none) (r0 false)) (r0 true))))) none) none))) none) none)
def Ij (r0:Bool→O R) (e a b c d:LA) (q1:Bool→Bool→LA→LA→O R):O R :=
 (cond (Nat.ble 22 (e.length)) (cond (Nat.ble 3 (a.length)) (Mf N (e.take 22) false (a.take 3) false (fun f g i l=>(cond ((Nat.beq 0 0)&&((Nat.beq (f.length) 3)&&(Nat.beq 3 3))) (cond ((Nat.beq 0 0)&&((Nat.beq (g.length) 3)&&(Nat.beq 3 3))) (cond (i==true) (cond ((cond true l false)==true) (cond (Nat.ble 3 (f.length)) (cond (Nat.ble 3 (g.length)) (Dw N (f.take 3) false (g.take 3) false (fun ae=>(cond (cond true (decide (ae>0)) false) (r0 false) (q1 i l f g)))) none) none) (q1 i l f g)) (q1 i l f g)) none) none))) none) none)
def Fm (r0:Bool→O R) (e a b c d:LA):O R:=(Ij N r0 e a b c d (fun i l f g=>(Fl N r0 i l a b c d f g)))
def G5 (r0:Bool→O R) (q0:LA→LA→LA→LA→LA→O R) (n:LA) (m:Nat) (r o:Bool) (p q:Int):O R :=
 (cond (decide (((m:Nat):Int)>200)) (r0 true) (Atl N n m false o (fun e av=>(cond ((Nat.beq 0 0)&&((Nat.beq (e.length) 22)&&(Nat.beq 22 22))) (rdI .i64 (e.drop 3) fun w=>(rdI .i64 (e.drop 2) fun x=>(rdI .i64 (e.drop 2) fun af=>(Tg N p (wrap .i64 ((wrap .i64 (2*(wrap .i64 (w - x))))+1)) (fun ag=>(Azm N (wrap .i64 ((wrap .i64 (2*af))+ag)) 2 (fun a=>(rdI .i64 (e.drop 2) fun ah=>(Tg N q (wrap .i64 ((wrap .i64 (2*(wrap .i64 (w - x))))+1)) (fun ai=>(Azm N (wrap .i64 ((wrap .i64 (2*ah))+ai)) 2 (fun b=>(cond ((Nat.beq 0 0)&&((Nat.beq (a.length) 3)&&(Nat.beq 3 3))) (cond ((Nat.beq 0 0)&&((Nat.beq (b.length) 3)&&(Nat.beq 3 3))) (cond (Nat.ble 3 (a.length)) (cond (Nat.ble 3 (b.length)) (Uj N (a.take 3) false (b.take 3) false (fun aj=>(Eg N 2 (fun ak=>(Ag2 N aj false ak false (fun u=>(cond ((Nat.beq 0 0)&&((Nat.beq (u.length) 3)&&(Nat.beq 3 3))) (cond (Nat.ble 22 (e.length)) (cond (Nat.ble 3 (a.length)) (D5 N (e.take 22) false (a.take 3) false (fun c al=>(cond ((Nat.beq 0 0)&&((Nat.beq (c.length) 3)&&(Nat.beq 3 3))) (cond (Nat.ble 22 (e.length)) (cond (Nat.ble 3 (b.length)) (D5 N (e.take 22) false (b.take 3) false (fun d am=>(cond ((Nat.beq 0 0)&&((Nat.beq (d.length) 3)&&(Nat.beq 3 3))) (cond (Nat.ble 22 (e.length)) (cond (Nat.ble 3 (u.length)) (D5 N (e.take 22) false (u.take 3) false (fun t an=>(cond ((Nat.beq 0 0)&&((Nat.beq (t.length) 3)&&(Nat.beq 3 3))) (Pz N (fun ao=>(cond ((!ao)==false) (cond ((cond false true (al != 0))==false) (cond ((cond false true (am != 0))==false) (cond ((cond false true (an != 0))==false) (cond (Nat.ble 3 (t.length)) (cond (Nat.ble 3 (t.length)) (Uj N (t.take 3) false (t.take 3) false (fun ap=>(cond (Nat.ble 3 (c.length)) (cond (Nat.ble 3 (d.length)) (Uj N (c.take 3) false (d.take 3) false (fun aq=>(Dw N ap false aq false (fun ar=>(cond (cond false true (decide (ar>0))) (r0 false) (q0 e a b c d)))))) none) none))) none) none) (r0 false)) (r0 false)) (r0 false)) (r0 false)))) none))) none) none) none))) none) none) none))) none) none) none))))))) none) none) none) none))))))))))))) none))))
def Fd:=(Ak (fun (N:Nat) (n:LA) (m:Nat) (r o:Bool) (p q:Int) (r0:Bool→O R)=>(G5 N r0 (fun e a b c d=>(Fm N r0 e a b c d)) n m r o p q))).1
theorem Oq (n m r o p q r0):(@Fd R N n m r o p q r0)=(G5 N r0 (fun e a b c d=>(Fm N r0 e a b c d)) n m r o p q):=by rw[Fd,(Ak _).2]
def Qb:Hints:={ H:=(hS hL (hS hL (hS hL (hS hL (hS hL (hS hL (hS hL (hS hL (hS hL (hJ [7,10,11,13,15] hL (hS hL (hJ [10,11,13,15,19,20,21,22] hL hL)))))))))))) }
def Rx:Tbl:=[(27,Bmd N),(12,A16 N),(19,Bqk N),(32,Azk N),(20,Z2 N),(31,Baz N),(21,Q6 N),(15,Aq8 N),(25,Aa2 N),(23,Aa8 N),(33,Azl N),(34,Ade N),(35,Bix N)]
def Qc (F:KF R):=atM Tryz.f6 Qb (Rx N) [] N F
def Cp (F:KF R):Bool→O R:=(fun au=>F (.bool au) [])
def Aib (i l:Bool) (a b c d f g:LA):St:=⟨[(10,(.optr 300000 0)),(11,(.optr 300001 0)),(13,(.optr 300002 0)),(15,(.optr 300003 0)),(19,(.optr 300004 0)),(20,(.optr 300005 0)),(21,(.bool i)),(22,(.bool l))],[(300000,(bQ 0 a)),(300001,(bQ 0 b)),(300002,(bQ 0 c)),(300003,(bQ 0 d)),(300004,(bQ 0 f)),(300005,(bQ 0 g))]⟩
def Aic (F:KF R):=Qc N F [1,1,1,1,1,1,1,1,1,1,1,1] []
def Aid (e a b c d:LA):St:=⟨[(7,(.optr 300000 0)),(10,(.optr 300001 0)),(11,(.optr 300002 0)),(13,(.optr 300003 0)),(15,(.optr 300004 0))],[(300000,(bQ 0 e)),(300001,(bQ 0 a)),(300002,(bQ 0 b)),(300003,(bQ 0 c)),(300004,(bQ 0 d))]⟩
def Aie (F:KF R):=Qc N F [1,1,1,1,1,1,1,1,1,1] []
theorem Abz (F:KF R) (i l:Bool) (a b c d f g:LA):Bh (Aic N F) (Aib i l a b c d f g)=(Fl N (Cp F) i l a b c d f g):=by
 kernel_rfl
theorem Ab0 (F:KF R) (e a b c d:LA):Bh (Aie N F) (Aid e a b c d)=(Fm N (Cp F) e a b c d):=by
 exact Eq.trans (by kernel_rfl) (cgA (Ij N (Cp F) e a b c d ·) (funext fun i=>funext fun l=>funext fun f=>funext fun g=>(Au ..).trans (Abz N F i l a b c d f g)):_)
theorem Qd (n:LA) (m:Nat) (r o:Bool) (p q:Int) (F:KF R):exM (Rx N) Qb N 6 [(.imm n m 1 r o),(.int .i64 p),(.int .i64 q)] [] F=(Fd N n m r o p q (Cp F)):=by
 rw[Oq]
 exact Eq.trans (by kernel_rfl) (cgA (G5 N (Cp F) · n m r o p q) (funext fun e=>funext fun a=>funext fun b=>funext fun c=>funext fun d=>(Au ..).trans (Ab0 N F e a b c d)):_)
def Or (args:List AV) (h:Al) (k:KF R):O R :=
 match args,h with
 | [(.imm n m 1 r o),(.int .i64 p),(.int .i64 q)],[]=>(Fd N n m r o p q (Cp k))
 | _,_=>none
theorem Qe:Aq N 6 @Or:=by
 intro R Q args h k j;unfold Or;split
 exact A0 (Qd ..) (Qd ..) ⟨B2l N,Bs1 N,B5z N,Bik N,Ao5 N,Bxj N,Adp N,Bj8 N,Ap8 N,Aqg N,Bip N,Ap4 N,B0v N,trivial⟩
 exact A2
def Qf:=A1 (Qe N)
theorem Aif:Ay Tryz.prog 6 (Qf N):=A3 (Qe N) follows
end
end Gx

namespace Gx.Cf
open Go Go.Proofs
section
variable {R:Type}
def mkc (f:Bool) (H:Nat) (res:List Int) (bs:List BusD) (ls:List LineD) (us:List UnitD) (ss:List StoreD) (ts:List TieD) (os:List OutD):CaseD :=
 ⟨(H:Int),.of res false f,.of bs false f,.of ls false f,.of us false f,.of ss false f,.of ts false f,.of os false f⟩
structure BusG (i H:Nat) (b:BusD):Prop where
 name:b.name=[98,Cbu.getD i 0]
 dl:b.demand.l.length=H
 dr:∀ x ∈ b.demand.l,0≤x∧x<14
 shed:0≤b.shed∧b.shed<300
structure StoreG (nb:Nat) (x:StoreD):Prop where
 name:x.name=[115,48]
 bus:0≤x.bus∧x.bus<(nb:Int)
 cap:0≤x.capacity∧x.capacity<20
 ini:0≤x.initial∧x.initial≤x.capacity
 fin:0≤x.final∧x.final≤x.capacity
 ch:0≤x.charge∧x.charge<8
 dis:0≤x.discharge∧x.discharge<8
 eff:1≤x.eff.num∧x.eff.num≤4∧x.eff.den=4
structure TieG (nb H:Nat) (x:TieD):Prop where
 name:x.name=[116,48]
 bus:0≤x.bus∧x.bus<(nb:Int)
 il:x.imp.l.length=H
 ir:∀ y ∈ x.imp.l,0≤y∧y<12
 el:x.exp.l.length=H
 er:∀ y ∈ x.exp.l,0≤y∧y<12
 pl:x.price.l.length=H
 pr:∀ y ∈ x.price.l,0≤y∧y<40
structure LineH (nb:Nat) (i:Nat) (H:Int) (x:LineD):Prop where
 g:LineG i x.fr x.to H x
 fr:0≤x.fr∧x.fr<(nb:Int)
 to:0≤x.to∧x.to<(nb:Int)
 ne:x.fr≠x.to
structure BaseG (H:Nat) (res:List Int) (bs:List BusD) (ls:List LineD) (us:List UnitD) (ss:List StoreD) (ts:List TieD):Prop where
 h:1≤H∧H≤3
 rl:res.length=H
 rr:∀ x ∈ res,0≤x∧x<5
 bl:1≤bs.length∧bs.length≤4
 bg:∀ i (h:i<bs.length),BusG i H bs[i]
 ll:ls.length≤7
 lg:∀ i (h:i<ls.length),LineH bs.length i H ls[i]
 ul:1≤us.length∧us.length≤3
 ug:∀ i (h:i<us.length),UnitG i bs.length H us[i]
 sl:ss.length≤1
 sg:∀ x ∈ ss,StoreG bs.length x
 tl:ts.length≤1
 tg:∀ x ∈ ts,TieG bs.length H x
structure OutsG (nl nu:Nat) (os:List OutD):Prop where
 l:os.length≤3
 g:∀ i (h:i<os.length),OutG i nl nu os[i]
theorem B6t {N:Nat} (hN:4096≤N) {f:Bool} {H:Nat} {res:List Int} {bs:List BusD} {ls:List LineD} {us:List UnitD} {ss:List StoreD} {ts:List TieD} {os:List OutD} (b:BaseG H res bs ls us ss ts) (g:OutsG ls.length us.length os):Small (mkc f H res bs ls us ss ts os) N:=by
 have h:=b.h;have rl:=b.rl;have bl:=b.bl;have ll:=b.ll;have ul:=b.ul;have sl:=b.sl;have tl:=b.tl;have ol:=g.l
 have fit:∀ n:Nat,n≤100→Pd n N:=fun n hn=>⟨by omega,by omega⟩
 refine⟨by omega,fit _ (by simp only[mkc,Sl.l];omega),fit _ (by simp only[mkc,Sl.l];omega),fit _ (by simp only[mkc,Sl.l];omega),fit _ (by simp only[mkc,Sl.l];omega),fit _ (by simp only[mkc,Sl.l];omega),fit _ (by simp only[mkc,Sl.l];omega),fit _ (by simp only[mkc,Sl.l];omega),
  fun x hx=>?_,fun x hx=>?_,fun x hx=>?_,fun x hx=>?_,fun x hx=>?_,fun x hx=>?_,fun x hx=>?_,fun x hx=>?_,fun x hx=>?_,fun x hx=>?_,by simp only[mkc,Sl.l];omega⟩
 all_goals simp only[mkc,Sl.l] at hx
 ·obtain⟨i,hi,rfl⟩:=List.getElem_of_mem hx;have:=(b.bg i hi).dl;exact fit _ (by omega)
 ·obtain⟨i,hi,rfl⟩:=List.getElem_of_mem hx;have:=(b.lg i hi).g.aw;exact fit _ (by omega)
 ·obtain⟨i,hi,rfl⟩:=List.getElem_of_mem hx;have:=(b.ug i hi).sl;exact fit _ (by omega)
 ·obtain⟨i,hi,rfl⟩:=List.getElem_of_mem hx;have:=(b.ug i hi).aw;exact fit _ (by omega)
 ·have:=(b.tg x hx).il;exact fit _ (by omega)
 ·have:=(b.tg x hx).el;exact fit _ (by omega)
 ·have:=(b.tg x hx).pl;exact fit _ (by omega)
 ·obtain⟨i,hi,rfl⟩:=List.getElem_of_mem hx;have:=(g.g i hi).ll;exact fit _ (by omega)
 ·obtain⟨i,hi,rfl⟩:=List.getElem_of_mem hx;have:=(g.g i hi).ml;exact fit _ (by omega)
 ·obtain⟨i,hi,rfl⟩:=List.getElem_of_mem hx;have:=(g.g i hi).ml;omega
theorem B8o {α:Type} {e:α→List AV} {sz:Nat} (he:∀ a,(e a).length=sz) (l:List α):(l.flatMap e).length=l.length*sz:=by
 induction l with
 | nil=>simp
 | cons a r ih=>rw[List.flatMap_cons,List.length_append,ih,he,List.length_cons,Nat.add_mul];omega
theorem B0 {α:Type} {e:α→List AV} {sz n:Nat} (he:∀ a,(e a).length=sz) (l:List α) (hn:n=l.length):List.take (n*sz) (l.flatMap e)=l.flatMap e:=List.take_of_length_le (by rw[B8o he,hn];exact Nat.le_refl _)
theorem M8 {B:List Int} {n:Nat} (h:n=B.length):List.take (n*1) (Az B)=B.flatMap Ab2:=by rw[h];exact Tz
theorem Asa {α:Type} {P:Nat→α→Prop} {l:List α} {x:α} (h:∀ i (h:i<l.length),P i l[i]) (hx:P l.length x):∀ i (h:i<(l++[x]).length),P i (l++[x])[i]:=by
 intro i hi
 by_cases h1:i<l.length
 ·rw[List.getElem_append_left h1];exact h i h1
 ·have:i=l.length:=by simp at hi;omega
  subst this
  simpa using hx
theorem B2m {p:Err} (h:(G7 p==0)=true):p=none:=by
 rcases p with _ | ⟨x,e,he⟩
 ·rfl
 ·simp[G7] at h;exact absurd h he
theorem Bu1 {N:Nat} {l:List Int} {o:Bool} (hN:4096≤N) (hl:l.length≤9223372036854775807) {H:Nat} {res:List Int} {bs:List BusD} {ls:List LineD} {us:List UnitD} {ss:List StoreD} {ts:List TieD} (b:BaseG H res bs ls us ss ts):∀ (n fuel k:Nat) (os:List OutD),n<fuel→k≤l.length→os.length+n≤3→OutsG ls.length us.length os→(os=[]∨Ar8 (mkc true H res bs ls us ss ts os)=none) →
  ∃ os',OutsG ls.length us.length os'∧(os'=[]∨Ar8 (mkc true H res bs ls us ss ts os')=none)∧∀ K:List AV→Option R,G0 N K (Az l) l.length o (H:Int) res.length bs.length ls.length us.length ss.length ts.length (Az res) (bs.flatMap BusD.av) (ls.flatMap LineD.av) (us.flatMap UnitD.av) (ss.flatMap StoreD.av) (ts.flatMap TieD.av) fuel (n:Int) (k:Int) os.length (os.flatMap OutD.av)=K (mkc false H res bs ls us ss ts os').av
 | 0,fuel+1,k,os,_,hk,_,g,hc=>by
  refine⟨os,g,hc,fun K=>?_⟩
  rw[G0];unfold Wh
  rw[show decide (((0:Nat):Int)>0)=false from rfl,M8 rfl,B0 Ahy _ rfl,B0 Gc _ rfl,B0 Ns _ rfl,B0 Ms _ rfl,B0 V5 _ rfl,B0 Mt _ rfl]
  rfl
 | n+1,fuel+1,k,os,hf,hk,hn,g,hc=>by
  by_cases hl0:ls.length=0
  ·refine⟨os,g,hc,fun K=>?_⟩
   rw[G0];unfold Wh
   rw[show decide ((ls.length:Int)>0)=false from decide_eq_false (by omega),show decide (((n+1:Nat):Int)>0)=true from decide_eq_true (by omega),M8 rfl,B0 Ahy _ rfl,B0 Gc _ rfl,B0 Ns _ rfl,B0 Ms _ rfl,B0 V5 _ rfl,B0 Mt _ rfl]
   rfl
  ·have hul:=b.ul;have hll:=b.ll
   obtain⟨x,k1,gx,hk1,hx⟩:=Byq (R:=R) (N:=N) (t:=false) (o:=o) (by omega) hl (i:=os.length) (nl:=ls.length) (nu:=us.length) (by omega) (by omega) (by omega) k hk
   have g':OutsG ls.length us.length (os++[x]):=⟨by simp;omega,Asa g.g gx⟩
   have sm:=B6t (f:=true) hN b g'
   have wn:IntKind.wrap .i64 (((n+1:Nat):Int) - 1)=(n:Int):=Bln (by omega)
   have step:∀ K:List AV→Option R,G0 N K (Az l) l.length o (H:Int) res.length bs.length ls.length us.length ss.length ts.length (Az res) (bs.flatMap BusD.av) (ls.flatMap LineD.av) (us.flatMap UnitD.av) (ss.flatMap StoreD.av) (ts.flatMap TieD.av) (fuel+1) ((n+1:Nat):Int) (k:Int) os.length (os.flatMap OutD.av) =
     cond (G7 (Ar8 (mkc true H res bs ls us ss ts (os++[x])))==0)
      (G0 N K (Az l) l.length o (H:Int) res.length bs.length ls.length us.length ss.length ts.length (Az res) (bs.flatMap BusD.av) (ls.flatMap LineD.av) (us.flatMap UnitD.av) (ss.flatMap StoreD.av) (ts.flatMap TieD.av) fuel (n:Int) (k1:Int) (os++[x]).length ((os++[x]).flatMap OutD.av))
      (G0 N K (Az l) l.length o (H:Int) res.length bs.length ls.length us.length ss.length ts.length (Az res) (bs.flatMap BusD.av) (ls.flatMap LineD.av) (us.flatMap UnitD.av) (ss.flatMap StoreD.av) (ts.flatMap TieD.av) fuel (n:Int) (k1:Int) os.length (os.flatMap OutD.av)):=fun K=>by
    rw[G0];unfold Wh Akx
    have c1:(Nat.ble (0+os.length) 140737488355328&&Nat.ble ((0+os.length)*72) 140737488355328)=true:=by rw[Ef,Ef];simp;omega
    have c2:(Nat.ble ((0+os.length)+1) 140737488355328&&Nat.ble (((0+os.length)+1)*72) 140737488355328)=true:=by rw[Ef,Ef];simp;omega
    have c3:List.take ((0+os.length)*4) (List.take (os.length*4) (os.flatMap OutD.av))++List.take 4 (setCells [(.str ([]:List UInt8)),.nsl,(.bool false),.nsl] 0 (List.take 4 x.av))=(os++[x]).flatMap OutD.av:=by
     rw[Nat.zero_add,B0 Mt _ rfl,B0 Mt _ rfl]
     simp only[List.flatMap_append,List.flatMap_cons,List.flatMap_nil,List.append_nil]
     rfl
    have c4:List.take (((0+os.length)+1)*4) ((os++[x]).flatMap OutD.av)=(os++[x]).flatMap OutD.av:=B0 Mt _ (by simp)
    have c5:(0+os.length)+1=(os++[x]).length:=by simp
    rw[show decide ((ls.length:Int)>0)=true from decide_eq_true (by omega),show decide (((n+1:Nat):Int)>0)=true from decide_eq_true (by omega)]
    simp only[beq_self_eq_true,cond_true]
    rw[hx,show((Nat.beq 0 0)&&((Nat.beq (List.length x.av) 4)&&(Nat.beq 4 4)))=true from rfl,ct,c1,ct,show Nat.ble 4 (List.length x.av)=true from rfl,ct,show((Nat.beq (List.length (List.take 4 x.av)) 4)&&(Nat.ble 4 4))=true from rfl,ct,c2,ct,c3,c4,c5,M8 rfl,B0 Ahy _ rfl,B0 Gc _ rfl,B0 Ns _ rfl,B0 Ms _ rfl,B0 V5 _ rfl]
    refine Eq.trans (Blz (R:=R) (N:=N) (c:=mkc true H res bs ls us ss ts (os++[x])) (o:=true) sm hN) ?_
    rw[Ca7,show((Nat.beq 3 3)&&((Nat.ble 3 3)&&(!false)))=true from rfl,ct,wn]
   cases hq:G7 (Ar8 (mkc true H res bs ls us ss ts (os++[x])))==0 with
   | true =>
    obtain⟨os',a1,a2,a3⟩:=Bu1 hN hl b n fuel k1 (os++[x]) (by omega) hk1 (by simp;omega) g' (.inr (B2m hq))
    exact⟨os',a1,a2,fun K=>by rw[step,hq,ct,a3]⟩
   | false =>
    obtain⟨os',a1,a2,a3⟩:=Bu1 hN hl b n fuel k1 os (by omega) hk1 (by omega) g hc
    exact⟨os',a1,a2,fun K=>by rw[step,hq,cf,a3]⟩
end
end Gx.Cf

namespace Gx.Cf
open Go Go.Proofs
section
variable {R:Type}
def A43 (c:CaseD):Prop:=∃ (H:Nat) (res:List Int) (bs:List BusD) (ls:List LineD) (us:List UnitD) (ss:List StoreD) (ts:List TieD) (os:List OutD),
 BaseG H res bs ls us ss ts∧OutsG ls.length us.length os∧(os=[]∨Ar8 (mkc true H res bs ls us ss ts os)=none)∧c=mkc false H res bs ls us ss ts os
theorem B3t {N:Nat} {l:List Int} {o:Bool} (hN:4096≤N) (hl:l.length≤9223372036854775807) {H:Nat} {res:List Int} {bs:List BusD} {ls:List LineD} {us:List UnitD} {ss:List StoreD} {ts:List TieD} (b:BaseG H res bs ls us ss ts) (k:Nat) (hk:k≤l.length) :
  ∃ c,A43 c∧∀ K:List AV→Option R,Aky N K (Az l) l.length o (H:Int) res.length bs.length ls.length us.length ss.length (Az res) (bs.flatMap BusD.av) (ls.flatMap LineD.av) (us.flatMap UnitD.av) (ss.flatMap StoreD.av) (k:Int) ts.length (ts.flatMap TieD.av)=K c.av:=by
 obtain⟨y,k1,y0,y1,hk1,hy⟩:=nx (R:=R) (N:=N) (t:=false) (o:=o) hl 4 (by omega) (by omega) k hk
 obtain⟨n,hn⟩:∃ n:Nat,y=(n:Int):=⟨y.toNat,by omega⟩
 subst hn
 obtain⟨os,a1,a2,a3⟩:=Bu1 (R:=R) (o:=o) hN hl b n N k1 [] (by omega) hk1 (by simp;omega) ⟨by simp,by simp⟩ (.inl rfl)
 refine⟨_,⟨H,res,bs,ls,us,ss,ts,os,b,a1,a2,rfl⟩,fun K=>?_⟩
 unfold Aky Ar9
 rw[hy]
 simpa using a3 K
theorem B3u {N:Nat} {l:List Int} {o:Bool} (hN:4096≤N) (hl:l.length≤9223372036854775807) {H:Nat} {res:List Int} {bs:List BusD} {ls:List LineD} {us:List UnitD} {ss:List StoreD} (b:BaseG H res bs ls us ss []) (k:Nat) (hk:k≤l.length) :
  ∃ c,A43 c∧∀ K:List AV→Option R,Aby N K (bs.length:Int) (Az l) l.length o (H:Int) res.length bs.length ls.length us.length (Az res) (bs.flatMap BusD.av) (ls.flatMap LineD.av) (us.flatMap UnitD.av) (k:Int) ss.length (ss.flatMap StoreD.av)=K c.av:=by
 have hb:=b.bl;have hH:=b.h
 obtain⟨y50,k50,y500,y501,hk50,hy50⟩:=nx (R:=R) (N:=N) (t:=false) (o:=o) hl 3 (by omega) (by omega) k hk
 by_cases h2:y50=2
 ·have e2:(y50==2)=true:=by simpa using h2
  obtain⟨y52,k52,y520,y521,hk52,hy52⟩:=nx (R:=R) (N:=N) (t:=false) (o:=o) hl (bs.length:Int) (by omega) (by omega) k50 hk50
  obtain⟨B1,k1,b11,b12,hk1,hB1⟩:=Abx (R:=R) (N:=N) (m:=H) (t:=false) (o:=o) (by omega) hl 12 (by omega) (by omega) (by omega) k52 hk52
  obtain⟨B2,k2,b21,b22,hk2,hB2⟩:=Abx (R:=R) (N:=N) (m:=H) (t:=false) (o:=o) (by omega) hl 12 (by omega) (by omega) (by omega) k1 hk1
  obtain⟨B3,k3,b31,b32,hk3,hB3⟩:=Abx (R:=R) (N:=N) (m:=H) (t:=false) (o:=o) (by omega) hl 40 (by omega) (by omega) (by omega) k2 hk2
  obtain⟨c,g1,g2⟩:=B3t (R:=R) (o:=o) hN hl (ts:=[⟨[116,48],y52,.of B1 false false,.of B2 false false,.of B3 false false⟩]) ⟨b.h,b.rl,b.rr,b.bl,b.bg,b.ll,b.lg,b.ul,b.ug,b.sl,b.sg,by simp,by
   intro x hx;simp at hx;subst hx
   exact⟨rfl,⟨y520,y521⟩,b11,b12,b21,b22,b31,b32⟩⟩ k3 hk3
  refine⟨c,g1,fun K=>?_⟩
  unfold Aby Ael
  rw[hy50,e2,ct,hy52,hB1,hB2,hB3,M8 b11.symm,M8 b21.symm,M8 b31.symm,←g2 K,←b11]
  simp only[b11]
  have e:List.flatMap TieD.av [⟨[116,48],y52,.of B1 false false,.of B2 false false,.of B3 false false⟩]=[(.str ([116,48]:List UInt8)),(.int .i64 y52),(.imm (B1.flatMap Ab2) H 1 false false),(.imm (B2.flatMap Ab2) H 1 false false),(.imm (B3.flatMap Ab2) H 1 false false)]:=by
   simp[TieD.av,Sl.av,b11,b21,b31]
  rw[e];rfl
 ·have e2:(y50==2)=false:=by simpa using h2
  obtain⟨c,g1,g2⟩:=B3t (R:=R) (o:=o) hN hl b k50 hk50
  refine⟨c,g1,fun K=>?_⟩
  unfold Aby Ael
  rw[hy50,e2,cf,←g2 K];rfl
theorem B3v {N:Nat} {l:List Int} {o:Bool} (hN:4096≤N) (hl:l.length≤9223372036854775807) {H:Nat} {res:List Int} {bs:List BusD} {ls:List LineD} (h:1≤H∧H≤3) (rl:res.length=H) (rr:∀ x ∈ res,0≤x∧x<5) (bl:1≤bs.length∧bs.length≤4) (bg:∀ i (h:i<bs.length),BusG i H bs[i]) (ll:ls.length≤7) (lg:∀ i (h:i<ls.length),LineH bs.length i H ls[i]) :
  ∀ (n fuel k:Nat) (us:List UnitD),n<fuel→k≤l.length→us.length+n≤3→1≤us.length+n→(∀ i (h:i<us.length),UnitG i bs.length H us[i]) →
  ∃ c,A43 c∧∀ K:List AV→Option R,M6 N K (bs.length:Int) (Az l) l.length o (H:Int) res.length bs.length (Az res) (bs.flatMap BusD.av) fuel (n:Int) (k:Int) ls.length us.length (ls.flatMap LineD.av) (us.flatMap UnitD.av)=K c.av
 | 0,fuel+1,k,us,_,hk,hn,hn1,ug=>by
  obtain⟨y34,k34,y340,y341,hk34,hy34⟩:=nx (R:=R) (N:=N) (t:=false) (o:=o) hl 3 (by omega) (by omega) k hk
  by_cases h2:y34=2
  ·have e2:(y34==2)=true:=by simpa using h2
   obtain⟨y36,k36,y360,y361,hk36,hy36⟩:=nx (R:=R) (N:=N) (t:=false) (o:=o) hl (bs.length:Int) (by omega) (by omega) k34 hk34
   obtain⟨y38,k38,y380,y381,hk38,hy38⟩:=nx (R:=R) (N:=N) (t:=false) (o:=o) hl 20 (by omega) (by omega) k36 hk36
   obtain⟨y40,k40,y400,y401,hk40,hy40⟩:=nx (R:=R) (N:=N) (t:=false) (o:=o) hl 8 (by omega) (by omega) k38 hk38
   obtain⟨y42,k42,y420,y421,hk42,hy42⟩:=nx (R:=R) (N:=N) (t:=false) (o:=o) hl 8 (by omega) (by omega) k40 hk40
   obtain⟨y44,k44,y440,y441,hk44,hy44⟩:=nx (R:=R) (N:=N) (t:=false) (o:=o) hl 4 (by omega) (by omega) k42 hk42
   obtain⟨y46,k46,y460,y461,hk46,hy46⟩:=nx (R:=R) (N:=N) (t:=false) (o:=o) hl (y38+1) (by omega) (by omega) k44 hk44
   obtain⟨y48,k48,y480,y481,hk48,hy48⟩:=nx (R:=R) (N:=N) (t:=false) (o:=o) hl (y38+1) (by omega) (by omega) k46 hk46
   obtain⟨c,g1,g2⟩:=B3u (R:=R) (o:=o) hN hl (us:=us) (ss:=[⟨[115,48],y36,y38,y46,y48,y40,y42,⟨1+y44,4⟩⟩]) ⟨h,rl,rr,bl,bg,ll,lg,⟨by omega,by omega⟩,ug,by simp,by
    intro x hx;simp at hx;subst hx
    exact⟨rfl,⟨y360,y361⟩,⟨y380,y381⟩,⟨y460,by simp only;omega⟩,⟨y480,by simp only;omega⟩,⟨y400,y401⟩,⟨y420,y421⟩,by simp only;omega,by simp only;omega,rfl⟩,by simp,by simp⟩ k48 hk48
   refine⟨c,g1,fun K=>?_⟩
   rw[M6];unfold Wi
   rw[show decide (((0:Nat):Int)>0)=false from rfl,cf,hy34,e2,ct,hy36,hy38,hy40,hy42,hy44,Nu (a:=y38+1) (by omega),hy46,hy48,Nu (a:=1+y44) (by omega),←g2 K]
   rfl
  ·have e2:(y34==2)=false:=by simpa using h2
   obtain⟨c,g1,g2⟩:=B3u (R:=R) (o:=o) hN hl (us:=us) (ss:=[]) ⟨h,rl,rr,bl,bg,ll,lg,⟨by omega,by omega⟩,ug,by simp,by simp,by simp,by simp⟩ k34 hk34
   refine⟨c,g1,fun K=>?_⟩
   rw[M6];unfold Wi
   rw[show decide (((0:Nat):Int)>0)=false from rfl,cf,hy34,e2,cf,←g2 K]
   rfl
 | n+1,fuel+1,k,us,hf,hk,hn,hn1,ug=>by
  obtain⟨u,k1,gu,hk1,hu⟩:=B6r (R:=R) (N:=N) (t:=false) (o:=o) (by omega) hl (i:=us.length) (by omega) (nb:=(bs.length:Int)) (H:=(H:Int)) (by omega) (by omega) k hk
  obtain⟨c,g1,g2⟩:=B3v (o:=o) hN hl h rl rr bl bg ll lg n fuel k1 (us++[u]) (by omega) hk1 (by simp;omega) (by simp;omega) (Asa (P:=fun i u=>UnitG i bs.length H u) ug gu)
  refine⟨c,g1,fun K=>?_⟩
  rw[M6];unfold Wi
  have wn:IntKind.wrap .i64 (((n+1:Nat):Int) - 1)=(n:Int):=Bln (by omega)
  have c2:(Nat.ble (us.length+1) 140737488355328&&Nat.ble ((us.length+1)*216) 140737488355328)=true:=by rw[Ef,Ef];simp;omega
  have c3:List.take (us.length*22) (us.flatMap UnitD.av)++u.av=(us++[u]).flatMap UnitD.av:=by rw[B0 Ns _ rfl];simp
  rw[show decide (((n+1:Nat):Int)>0)=true from decide_eq_true (by omega),ct,hu,show((Nat.beq (List.length u.av) 22)&&(Nat.ble 22 22))=true from rfl,ct,c2,ct,wn,←g2 K,←c3,List.length_append]
  rfl
theorem B9u {N:Nat} {l:List Int} {o:Bool} (hN:4096≤N) (hl:l.length≤9223372036854775807) {H:Nat} {res:List Int} {bs:List BusD} (h:1≤H∧H≤3) (rl:res.length=H) (rr:∀ x ∈ res,0≤x∧x<5) (bl:1≤bs.length∧bs.length≤4) (bg:∀ i (h:i<bs.length),BusG i H bs[i]) :
  ∀ (n fuel k:Nat) (ls:List LineD),n<fuel→k≤l.length→ls.length+n≤7→(∀ i (h:i<ls.length),LineH bs.length i H ls[i]) →
  ∃ c,A43 c∧∀ K:List AV→Option R,M7 N K (bs.length:Int) (Az l) l.length o (H:Int) res.length bs.length (Az res) (bs.flatMap BusD.av) fuel (n:Int) (k:Int) ls.length (ls.flatMap LineD.av)=K c.av:=by
 have fin:∀ (k:Nat) (ls:List LineD),k≤l.length→ls.length≤7→(∀ i (h:i<ls.length),LineH bs.length i H ls[i])→∃ c,A43 c∧∀ K:List AV→Option R,(Ae N (3:Int) (Az l) l.length false o (k:Int) (fun y22 y23=>(M6 N K (bs.length:Int) (Az l) l.length o (H:Int) res.length bs.length (Az res) (bs.flatMap BusD.av) N (IntKind.wrap .i64 ((1:Int)+y22)) y23 ls.length 0 (ls.flatMap LineD.av) [])))=K c.av:=by
  intro k ls hk ll lg
  obtain⟨y,k1,y0,y1,hk1,hy⟩:=nx (R:=R) (N:=N) (t:=false) (o:=o) hl 3 (by omega) (by omega) k hk
  obtain⟨n,hn⟩:∃ n:Nat,1+y=(n:Int):=⟨(1+y).toNat,by omega⟩
  obtain⟨c,g1,g2⟩:=B3v (R:=R) (o:=o) hN hl h rl rr bl bg ll lg n N k1 [] (by omega) hk1 (by simp;omega) (by simp;omega) (by simp)
  refine⟨c,g1,fun K=>?_⟩
  rw[hy,Nu (a:=1+y) (by omega),hn]
  simpa using g2 K
 intro n
 induction n with
 | zero =>
  intro fuel k ls hf hk hn lg
  obtain⟨c,g1,g2⟩:=fin k ls hk (by omega) lg
  refine⟨c,g1,fun K=>?_⟩
  obtain⟨fuel,rfl⟩:∃ f,fuel=f+1:=⟨fuel - 1,by omega⟩
  rw[M7];unfold Wj
  rw[show decide (((0:Nat):Int)>0)=false from rfl,←g2 K]
  rfl
 | succ n ih =>
  intro fuel k ls hf hk hn lg
  obtain⟨fuel,rfl⟩:∃ f,fuel=f+1:=⟨fuel - 1,by omega⟩
  by_cases hb1:bs.length=1
  ·obtain⟨c,g1,g2⟩:=fin k ls hk (by omega) lg
   refine⟨c,g1,fun K=>?_⟩
   rw[M7];unfold Wj
   rw[show decide (((n+1:Nat):Int)>0)=true from decide_eq_true (by omega),show decide ((bs.length:Int)>1)=false from decide_eq_false (by omega),←g2 K]
   rfl
  ·obtain⟨y26,k26,y260,y261,hk26,hy26⟩:=nx (R:=R) (N:=N) (t:=false) (o:=o) hl (bs.length:Int) (by omega) (by omega) k hk
   obtain⟨y28,k28,y280,y281,hk28,hy28⟩:=nx (R:=R) (N:=N) (t:=false) (o:=o) hl ((bs.length:Int) - 1) (by omega) (by omega) k26 hk26
   have tm:∃ to:Int,Int.tmod (y26+1+y28) (bs.length:Int)=to∧0≤to∧to<(bs.length:Int)∧y26≠to:=by
    refine⟨_,rfl,Int.tmod_nonneg _ (by omega),Int.tmod_lt_of_pos _ (by omega),?_⟩
    by_cases hlt:y26+1+y28<(bs.length:Int)
    ·rw[Int.tmod_eq_of_lt (by omega) hlt];omega
    ·have:Int.tmod (y26+1+y28) (bs.length:Int)=y26+1+y28 - (bs.length:Int):=by
      have e:y26+1+y28=(y26+1+y28 - (bs.length:Int))+1*(bs.length:Int):=by omega
      rw[Int.tmod_eq_emod_of_nonneg (by omega)]
      conv=>lhs;rw[e]
      rw[Int.add_mul_emod_self_right,Int.emod_eq_of_lt (by omega) (by omega)]
     rw[this];omega
   obtain⟨to,ht,t0,t1,tne⟩:=tm
   obtain⟨x,k1,gx,hk1,hx⟩:=Brf (R:=R) (N:=N) (t:=false) (o:=o) hl (i:=ls.length) (by omega) y26 to (H:=(H:Int)) (by omega) k28 hk28
   obtain⟨c,g1,g2⟩:=ih fuel k1 (ls++[x]) (by omega) hk1 (by simp;omega) (Asa (P:=fun i x=>LineH bs.length i H x) lg ⟨by rw[gx.fr,gx.to];exact gx,by rw[gx.fr];exact⟨y260,y261⟩,by rw[gx.to];exact⟨t0,t1⟩,by rw[gx.fr,gx.to];exact tne⟩)
   refine⟨c,g1,fun K=>?_⟩
   rw[M7];unfold Wj Akw
   have wn:IntKind.wrap .i64 (((n+1:Nat):Int) - 1)=(n:Int):=Bln (by omega)
   have c2:(Nat.ble (ls.length+1) 140737488355328&&Nat.ble ((ls.length+1)*120) 140737488355328)=true:=by rw[Ef,Ef];simp;omega
   have c3:List.take (ls.length*12) (ls.flatMap LineD.av)++x.av=(ls++[x]).flatMap LineD.av:=by rw[B0 Gc _ rfl];simp
   rw[show decide (((n+1:Nat):Int)>0)=true from decide_eq_true (by omega),show decide ((bs.length:Int)>1)=true from decide_eq_true (by omega)]
   simp only[beq_self_eq_true,cond_true]
   rw[hy26,Nu (a:=(bs.length:Int) - 1) (by omega),hy28,show((bs.length:Int)==0)=false from beq_eq_false_iff_ne.2 (by omega),cf,Nu (a:=y26+1) (by omega),Nu (a:=y26+1+y28) (by omega),ht,hx,show((Nat.beq (List.length x.av) 12)&&(Nat.ble 12 12))=true from rfl,ct,c2,ct,wn,←g2 K,←c3,List.length_append]
   rfl
theorem B3w {N:Nat} {l:List Int} {o:Bool} (hN:4096≤N) (hl:l.length≤9223372036854775807) {H:Nat} {res:List Int} {bs:List BusD} (h:1≤H∧H≤3) (rl:res.length=H) (rr:∀ x ∈ res,0≤x∧x<5) (bl:1≤bs.length∧bs.length≤4) (bg:∀ i (h:i<bs.length),BusG i H bs[i]) :
  ∀ (m j fuel k:Nat) (ls:List LineD),j+1+m=bs.length→m<fuel→k≤l.length→ls.length=j→(∀ i (h:i<ls.length),LineH bs.length i H ls[i]) →
  ∃ c,A43 c∧∀ K:List AV→Option R,T0 N K (Az l) l.length o (H:Int) res.length bs.length (Az res) (bs.flatMap BusD.av) fuel (bs.length:Int) ((j+1:Nat):Int) (k:Int) ls.length (ls.flatMap LineD.av)=K c.av
 | 0,j,fuel+1,k,ls,hj,_,hk,hls,lg=>by
  obtain⟨y,k1,y0,y1,hk1,hy⟩:=nx (R:=R) (N:=N) (t:=false) (o:=o) hl 5 (by omega) (by omega) k hk
  obtain⟨n,hn⟩:∃ n:Nat,y=(n:Int):=⟨y.toNat,by omega⟩
  subst hn
  obtain⟨c,g1,g2⟩:=B9u (R:=R) (o:=o) hN hl h rl rr bl bg n N k1 ls (by omega) hk1 (by omega) lg
  refine⟨c,g1,fun K=>?_⟩
  rw[T0];unfold Aem
  rw[ltF (by omega),cf,hy];exact g2 K
 | m+1,j,fuel+1,k,ls,hj,hf,hk,hls,lg=>by
  obtain⟨y,k1,y0,y1,hk1,hy⟩:=nx (R:=R) (N:=N) (t:=false) (o:=o) hl ((j+1:Nat):Int) (by omega) (by omega) k hk
  obtain⟨x,k2,gx,hk2,hx⟩:=Brf (R:=R) (N:=N) (t:=false) (o:=o) hl (i:=ls.length) (by omega) y ((j+1:Nat):Int) (H:=(H:Int)) (by omega) k1 hk1
  obtain⟨c,g1,g2⟩:=B3w (o:=o) hN hl h rl rr bl bg m (j+1) fuel k2 (ls++[x]) (by omega) (by omega) hk2 (by simp[hls]) (Asa (P:=fun i x=>LineH bs.length i H x) lg ⟨by rw[gx.fr,gx.to];exact gx,by rw[gx.fr];omega,by rw[gx.to];omega,by rw[gx.fr,gx.to];omega⟩)
  refine⟨c,g1,fun K=>?_⟩
  rw[T0];unfold Aem
  have c2:(Nat.ble (ls.length+1) 140737488355328&&Nat.ble ((ls.length+1)*120) 140737488355328)=true:=by rw[Ef,Ef];simp;omega
  have c3:List.take (ls.length*12) (ls.flatMap LineD.av)++x.av=(ls++[x]).flatMap LineD.av:=by rw[B0 Gc _ rfl];simp
  rw[ltT (by omega),ct,hy,hx,show((Nat.beq (List.length x.av) 12)&&(Nat.ble 12 12))=true from rfl,ct,c2,ct,El (by omega),←g2 K,←c3,List.length_append]
  rfl
theorem B3x {N:Nat} {l:List Int} {o:Bool} (hN:4096≤N) (hl:l.length≤9223372036854775807) {H:Nat} {res:List Int} (h:1≤H∧H≤3) (rl:res.length=H) (rr:∀ x ∈ res,0≤x∧x<5) :
  ∀ (n fuel k:Nat) (bs:List BusD),n<fuel→k≤l.length→bs.length+n≤4→1≤bs.length+n→(∀ i (h:i<bs.length),BusG i H bs[i]) →
  ∃ c,A43 c∧∀ K:List AV→Option R,Km N K (Az l) l.length o res.length (Az res) fuel (n:Int) (k:Int) (H:Int) bs.length (bs.flatMap BusD.av)=K c.av
 | 0,fuel+1,k,bs,_,hk,hn,hn1,bg=>by
  obtain⟨c,g1,g2⟩:=B3w (R:=R) (o:=o) hN hl h rl rr ⟨by omega,by omega⟩ bg (bs.length - 1) 0 N k [] (by omega) (by omega) hk rfl (by simp)
  refine⟨c,g1,fun K=>?_⟩
  rw[Km];unfold Wk
  rw[show decide (((0:Nat):Int)>0)=false from rfl,cf,←g2 K]
  rfl
 | n+1,fuel+1,k,bs,hf,hk,hn,hn1,bg=>by
  obtain⟨B,k1,b1,b2,hk1,hB⟩:=Abx (R:=R) (N:=N) (m:=H) (t:=false) (o:=o) (by omega) hl 14 (by omega) (by omega) (by omega) k hk
  obtain⟨y12,k12,y120,y121,hk12,hy12⟩:=nx (R:=R) (N:=N) (t:=false) (o:=o) hl 2 (by omega) (by omega) k1 hk1
  have wn:IntKind.wrap .i64 (((n+1:Nat):Int) - 1)=(n:Int):=Bln (by omega)
  have c2:(Nat.ble (bs.length+1) 140737488355328&&Nat.ble ((bs.length+1)*48) 140737488355328)=true:=by rw[Ef,Ef];simp;omega
  have c3:∀ s:Int,List.take (bs.length*3) (bs.flatMap BusD.av)++[(.str [98,Cbu.getD bs.length 0]),(.imm (B.flatMap Ab2) H 1 false false),(.int .i64 s)]=(bs++[(⟨[98,Cbu.getD bs.length 0],.of B false false,s⟩:BusD)]).flatMap BusD.av:=fun s=>by
   rw[B0 Ahy _ rfl];simp[BusD.av,Sl.av,b1]
  have go:∀ (s:Int) (kk:Nat),0≤s→s<300→kk≤l.length→∃ c,A43 c∧∀ K:List AV→Option R,Km N K (Az l) l.length o res.length (Az res) fuel (n:Int) (kk:Int) (H:Int) (bs.length+1) (List.take (bs.length*3) (bs.flatMap BusD.av)++[(.str [98,Cbu.getD bs.length 0]),(.imm (B.flatMap Ab2) H 1 false false),(.int .i64 s)])=K c.av:=by
   intro s kk s0 s1 hkk
   have gb:BusG bs.length H (⟨[98,Cbu.getD bs.length 0],.of B false false,s⟩:BusD):=⟨rfl,b1,b2,s0,s1⟩
   obtain⟨c,g1,g2⟩:=B3x (o:=o) hN hl h rl rr n fuel kk (bs++[(⟨[98,Cbu.getD bs.length 0],.of B false false,s⟩:BusD)]) (by omega) hkk (by simp;omega) (by simp;omega) (Asa (P:=fun i x=>BusG i H x) bg gb)
   refine⟨c,g1,fun K=>?_⟩
   rw[c3,←g2 K,List.length_append]
   rfl
  by_cases h1:y12=1
  ·have e1:(y12==1)=true:=by simpa using h1
   obtain⟨y14,k14,y140,y141,hk14,hy14⟩:=nx (R:=R) (N:=N) (t:=false) (o:=o) hl 200 (by omega) (by omega) k12 hk12
   obtain⟨c,g1,g2⟩:=go (100+y14) k14 (by omega) (by omega) hk14
   refine⟨c,g1,fun K=>?_⟩
   rw[Km];unfold Wk
   rw[show decide (((n+1:Nat):Int)>0)=true from decide_eq_true (by omega),ct,Qa (by omega),hB,hy12,e1,ct,hy14,c2,ct,wn,Nu (a:=100+y14) (by omega),M8 b1.symm,g2]
  ·have e1:(y12==1)=false:=by simpa using h1
   obtain⟨c,g1,g2⟩:=go 0 k12 (by omega) (by omega) hk12
   refine⟨c,g1,fun K=>?_⟩
   rw[Km];unfold Wk
   rw[show decide (((n+1:Nat):Int)>0)=true from decide_eq_true (by omega),ct,Qa (by omega),hB,hy12,e1,cf,c2,ct,wn,M8 b1.symm,g2]
theorem Bu2 {N:Nat} {l:List Int} {n:Nat} {t o:Bool} (hn:n=l.length) (hN:4096≤N) (hl:l.length≤9223372036854775807):∃ c,A43 c∧∀ K:List AV→Option R,Atk N (Az l) n t o K=K c.av:=by
 subst hn
 obtain⟨y1,k1,y10,y11,hk1,hy1⟩:=nx (R:=R) (N:=N) (t:=false) (o:=o) hl 3 (by omega) (by omega) 0 (by omega)
 obtain⟨H,hH⟩:∃ H:Nat,1+y1=(H:Int):=⟨(1+y1).toNat,by omega⟩
 obtain⟨B,k2,b1,b2,hk2,hB⟩:=Abx (R:=R) (N:=N) (m:=H) (t:=false) (o:=o) (by omega) hl 5 (by omega) (by omega) (by omega) k1 hk1
 obtain⟨y6,k3,y60,y61,hk3,hy6⟩:=nx (R:=R) (N:=N) (t:=false) (o:=o) hl 4 (by omega) (by omega) k2 hk2
 obtain⟨m,hm⟩:∃ m:Nat,1+y6=(m:Int):=⟨(1+y6).toNat,by omega⟩
 obtain⟨c,g1,g2⟩:=B3x (R:=R) (o:=o) hN hl (H:=H) (by omega) b1 b2 m N k3 [] (by omega) hk3 (by simp;omega) (by simp;omega) (by simp)
 refine⟨c,g1,fun K=>?_⟩
 rw[Bco];unfold A42
 rw[Bkv];unfold Btt
 have z:Ae N 3 (Az l) l.length false o 0=Ae (R:=R) N 3 (Az l) l.length false o ((0:Nat):Int):=rfl
 rw[z,hy1,Nu (a:=1+y1) (by omega),hH,hB,hy6,Nu (a:=1+y6) (by omega),hm,←g2 K,b1]
 rfl
end
end Gx.Cf

namespace Gx
open Go Go.Proofs
section
variable {R:Type}
def cvS (s:Cf.SegD):SegD:=⟨s.width,s.price⟩
def Asb:Cf.Sl Cf.SegD→Sl SegD
 | .nil=>.nil
 | .of l t o=>.of (l.map cvS) t o
def A7r:Cf.Sl Int→Sl Int
 | .nil=>.nil
 | .of l t o=>.of l t o
def cvU (u:Cf.UnitD):UnitD:=⟨u.name,u.bus,u.min,u.max,Asb u.segs,u.noLoad,u.rampUp,u.rampDown,u.startRamp,u.stopRamp,u.upTime,u.downTime,u.startTime,u.hotCost,u.coldCost,u.hotHours,u.reserve,u.reservePrice,A7r u.away,u.state,u.hours,u.output⟩
theorem Byr:∀ l:List Cf.SegD,(l.map cvS).flatMap SegD.av=l.flatMap Cf.SegD.av
 | []=>rfl
 | a::r=>by rw[List.map_cons,List.flatMap_cons,List.flatMap_cons,Byr r];rfl
theorem B6u (s:Cf.Sl Cf.SegD):(Asb s).av 2 SegD.av=s.av 2 Cf.SegD.av:=by
 cases s with
 | nil=>rfl
 | of l t o=>simp only[Asb,Sl.av,Cf.Sl.av,Byr,List.length_map]
theorem B6v (s:Cf.Sl Int):(A7r s).av 1 Ab2=s.av 1 Cf.Ab2:=by cases s<;>rfl
theorem Ca8 (u:Cf.UnitD):(cvU u).av=u.av:=by
 unfold UnitD.av Cf.UnitD.av
 rw[show(cvU u).segs=Asb u.segs from rfl,show(cvU u).away=A7r u.away from rfl,B6u,B6v];rfl
theorem Bme (s:Cf.Sl Cf.SegD):(Asb s).l=s.l.map cvS:=by cases s<;>rfl
theorem Bys (s:Cf.Sl Int):(A7r s).l=s.l:=by cases s<;>rfl
theorem A44 (a b n:Int):Cf.btw a b n=inR a b n:=by
 rw[Bool.eq_iff_iff];simp[Cf.btw,inR]<;>omega
theorem Brl:∀ (l:List Cf.SegD) (p:Int),l.all Cf.Ek=true→Cf.Ar1 l=true→(∀ s ∈ l.head?,p≤s.price)→Ek p (l.map cvS)=true
 | [],_,_,_,_=>rfl
 | [a],p,h1,_,h3=>by
  simp[Cf.Ek,A44] at h1
  have:=h3 a (by simp)
  simp[Ek,cvS,h1,this]
 | a::b::r,p,h1,h2,h3=>by
  have h4:=h3 a (by simp)
  simp only[List.all_cons,Bool.and_eq_true] at h1
  simp only[Cf.Ar1,Bool.and_eq_true] at h2
  have ih:=Brl (b::r) a.price (by simp only[List.all_cons,Bool.and_eq_true];exact h1.2) h2.2 (by intro s hs;simp at hs;subst hs;have:=h2.1;simp at this;exact this)
  have h5:=h1.1
  simp[Cf.Ek,A44] at h5
  rw[List.map_cons,Ek,show(cvS a).price=a.price from rfl,ih]
  simp[cvS,h5,h4]
theorem Brm:∀ (l:List Cf.SegD) (a:Int),l.all Cf.Ek=true→l.length≤100→-1000000000000≤a - 1048576*(100 - (l.length:Int))→(0≤a∧a≤1048576*(100 - (l.length:Int)))→Cf.Aki a l=a+Ae5 (l.map cvS)
 | [],a,_,_,_,_=>by simp[Cf.Aki,Ae5]
 | s::r,a,h1,h2,h3,h4=>by
  simp only[List.all_cons,Bool.and_eq_true] at h1
  have h5:=h1.1
  simp[Cf.Ek,A44,inR] at h5
  rw[List.length_cons] at h2 h3 h4
  rw[Cf.Aki,i64 (by omega),Brm r (a+s.width) h1.2 (by omega) (by omega) (by omega),List.map_cons,Ae5]
  simp[cvS];omega
theorem Bmf {i:Nat} {nb H c:Int} {u:Cf.UnitD} (g:Cf.UnitG i nb H u) (hH:1≤H∧H≤c) (hc:c≤24):Fq (cvU u) c=true:=by
 have e:=g
 obtain⟨_,_,h1,h2,h3,h4,h5,h6,h7,h8,h9,h10,h11,h12,h13,h14,h15,h16,h17,h18,h19,h20,h21,h22,_,h24,h25,h26⟩:=e
 simp only[A44] at h1 h2 h7 h8 h9 h10 h11 h12 h13 h14 h15 h16 h17 h18 h19 h22 h24 h26
 have hw:=Brm u.segs.l 0 h4 (by omega) (by omega) (by omega)
 have hm1:=h1;have hm2:=h2
 simp only[inR,Bool.and_eq_true,decide_eq_true_eq] at hm1 hm2
 have hsum:Ae5 (cvU u).segs.l=u.max - u.min:=by
  have:Cf.Aki 0 u.segs.l=IntKind.wrap .i64 (u.max - u.min):=by simpa using h6
  rw[hw,i64 (by omega)] at this
  show Ae5 (Asb u.segs).l=_
  rw[Bme];omega
 have hseg:Ek (-1048576) (cvU u).segs.l=true:=by
  show Ek _ (Asb u.segs).l=true
  rw[Bme]
  refine Brl _ _ h4 h5 fun s hs=>?_
  have hs':s ∈ u.segs.l:=List.mem_of_mem_head? hs
  have:=List.all_eq_true.1 h4 s hs'
  simp[Cf.Ek,A44,inR] at this;omega
 have hlen:(cvU u).segs.l.length≤8:=by
  show(Asb u.segs).l.length≤8
  rw[Bme,List.length_map];omega
 have haw:Aj1 (c - 1) (-1) (cvU u).away.l=true:=by
  show Aj1 _ _ (A7r u.away).l=true
  rw[Bys]
  cases hl:u.away.l with
  | nil=>rfl
  | cons x r =>
   have hr:r=[]:=by
    have:=h20;rw[hl] at this;simp at this;exact this
   subst hr
   have:=h21 x (by rw[hl];simp)
   simp[Aj1,inR];omega
 have hst:Bka (cvU u)=true:=by
  unfold Bka
  show(inR 0 24 u.upTime&&(inR 0 24 u.downTime&&(inR 0 24 u.startTime&&(inR 0 24 u.hotHours&&((u.state==0||(u.state==1||u.state==2))&&(inR 1 48 u.hours&&(!(u.state==1)||decide (u.hours≤u.startTime))))))))=true
  have hs3:(u.state==0||(u.state==1||u.state==2))=true:=by
   simp only[inR,Bool.and_eq_true,decide_eq_true_eq] at h22
   simp;omega
  rw[h12,h13,h14,h17,h24,hs3]
  exact h25
 have hsB:Bkc (cvU u)=true:=by
  unfold Bkc;rw[hseg,hsum];simp[hlen];rfl
 have hoB:B8z (cvU u)=true:=by
  unfold B8z
  show cond (u.state==2) (inR u.min u.max u.output) (u.output==0)=true
  cases hb:(u.state==2) with
  | true=>rw[hb] at h26;exact h26
  | false=>rw[hb] at h26;simp[inR] at h26;simp;omega
 have hmx:inR 0 1048576 u.max=true:=by simp[inR];omega
 have hle:decide (u.min≤u.max)=true:=by simp;omega
 have hcc:inR 1 24 c=true:=by simp[inR];omega
 unfold Fq
 rw[hst,haw,hsB,hoB]
 show(inR 1 24 c&&(true&&(inR 0 1048576 u.min&&(inR 0 1048576 u.max&&(inR 0 1048576 u.rampUp&&(inR 0 1048576 u.rampDown&&(inR 0 1048576 u.reserve&&(decide (u.min≤u.max)&&(inR u.min u.max u.startRamp&&(inR u.min u.max u.stopRamp&&(inR 0 1048576 u.noLoad&&(inR 0 1048576 u.hotCost&&(inR 0 1048576 u.coldCost&&(inR 0 1048576 u.reservePrice&&(true&&(true&&true))))))))))))))))=true
 rw[hcc,h1,hmx,h8,h9,h18,hle,h10,h11,h7,h15,h16,h19];rfl
theorem B2n {N:Nat} {X:Option R} {K:LA→Int→Option R} {l:List Int} {n:Nat} {t o:Bool} (hn:n=l.length) (hN:4096≤N) (hl:l.length≤9223372036854775807)
  (h:∀ (u:UnitD) (H:Int),1≤H→H≤3→Fq u H=true→Fq u 24=true→u.away.l.length≤1→K u.av H=X):Atl N (Az l) n t o K=X:=by
 rw[Bcq];unfold Bl9
 obtain⟨c,hc,e⟩:=Cf.Bu2 (R:=R) (N:=N) (l:=l) (n:=n) (t:=false) (o:=o) hn hN hl
 rw[show Az l=Cf.Az l from rfl,e]
 obtain⟨H,res,bs,ls,us,ss,ts,os,hB,_,_,rfl⟩:=hc
 obtain⟨u0,us',rfl⟩:∃ u0 us',us=u0::us':=by
  cases us with
  | nil=>have:=hB.ul;simp at this
  | cons a r=>exact⟨a,r,rfl⟩
 have g:=hB.ug 0 (by simp)
 simp only[List.getElem_cons_zero] at g
 have hH:=hB.h
 have:=h (cvU u0) (H:Int) (by omega) (by omega) (Bmf g (by omega) (by omega)) (Bmf g (by omega) (by omega)) (by show(A7r u0.away).l.length≤1;rw[Bys];exact g.aw)
 rw[Ca8] at this
 refine Eq.trans ?_ this
 rw[show List.drop 4 (Cf.mkc false H res bs ls (u0::us') ss ts os).av=(Cf.Sl.of (u0::us') false false).av 22 Cf.UnitD.av::List.drop 5 (Cf.mkc false H res bs ls (u0::us') ss ts os).av from rfl,Cf.I7]
 rw[show(Cf.Sl.of (u0::us') false false).l=u0::us' from rfl,List.flatMap_cons,show Aj (0:Int) (u0::us').length=true from Ab (i:=0) (by simp),show Nat.ble 22 (List.length (u0.av++us'.flatMap Cf.UnitD.av))=true from rfl,show List.take 22 (u0.av++us'.flatMap Cf.UnitD.av)=u0.av from rfl]
 rw[show ∀ F:Int→Option R,rdI .i64 (Cf.mkc false H res bs ls (u0::us') ss ts os).av F=F (H:Int) from fun F=>Ax]
 rfl
end
end Gx

namespace Gx
open Go Go.Proofs
section
variable {R:Type}
theorem Ca9 {a b:Rat} (h:0<b.num):mkRat (a.num*(b.den:Int)) (((a.den:Nat):Int)*b.num).natAbs=a/b:=by
 obtain⟨n,hn⟩:∃ n:Nat,b.num=n:=⟨b.num.toNat,by omega⟩
 rw[Rat.div_def,Rat.inv_def,hn,Rat.divInt_ofNat,Int.natAbs_mul,Int.natAbs_natCast,Int.natAbs_natCast]
 have:=Rat.mkRat_mul_mkRat a.num (b.den:Int) a.den n
 rw[←this,Rat.mkRat_self]
theorem B2o {N:Nat} {x y:RatD} {o o':Bool} {K:LA→Option R} (hx:x.ok) (hy:y.ok) (hp:0<y.q.num) (hf:fit (16*(x.m+y.m)+80) N):Ag2 N x.av o y.av o' K=K (cqD (x.q/y.q)).av:=by
 have hqx:=Ame x hx
 have hqy:=Ame y hy
 have x1:=Ae9 x.q
 have x2:((x.q.den:Nat):Int).natAbs<4294967296 ^ qm x.q:=by rw[Int.natAbs_natCast];exact Wu _
 have y1:=Ae9 y.q
 have y2:((y.q.den:Nat):Int).natAbs<4294967296 ^ qm y.q:=by rw[Int.natAbs_natCast];exact Wu _
 have L1:=B5 x1
 have L2:=B5 x2
 have L3:=B5 y1
 have L4:=B5 y2
 have M1:=B5 (Gr x1 y2)
 have M4:=B5 (Gr x2 y1)
 rw[A21];unfold A6s
 rw[Hd,ct,Hd,ct,C8,C8,Bau];unfold Biy
 simp only[Hd,C8,ct]
 rw[Arh hy (hf.le (by omega)),show(y.q.num.sign==0)=false by rw[Int.sign_eq_one_of_pos hp];rfl,cf,Hy hx (hf.le (by omega)),Bbm,ct,No hy (hf.le (by omega)),Arg,B1m (hf.le (show(dig x.q.num.natAbs).length+(dig ((y.q.den:Nat):Int).natAbs).length≤_ by omega)),No hx (hf.le (by omega)),Hy hy (hf.le (by omega)),Bbm,ct,Arg,B1m (hf.le (show(dig ((x.q.den:Nat):Int).natAbs).length+(dig y.q.num.natAbs).length≤_ by omega)),Bqz (Int.mul_nonneg (by omega) (by omega)) (hf.le (show 4*((dig (x.q.num*((y.q.den:Nat):Int)).natAbs).length+(dig (((x.q.den:Nat):Int)*y.q.num).natAbs).length)+10≤_ by omega))]
 rw[Ca9 hp]
 rfl
end
end Gx

namespace Gx
open Go Go.Proofs
def hiS:Rat→List SegD→Bool×Rat
 | _,[]=>(false,0)
 | t,s::r=>cond (decide (0≤t)&&decide (t<(s.width:Rat))) (true,(s.price:Rat)) (hiS (t - (s.width:Rat)) r)
def loS:Rat→List SegD→Bool×Rat
 | _,[]=>(false,0)
 | t,s::r=>cond (decide (0<t)&&decide (t≤(s.width:Rat))) (true,(s.price:Rat)) (loS (t - (s.width:Rat)) r)
def B2p (l:List SegD):Prop:=∀ s ∈ l,(0:Rat)<(s.width:Rat)
theorem B8p:∀ {l:List SegD} {t:Rat},B2p l→t<0→(hiS t l).1=false
 | [],_,_,_=>rfl
 | s::r,t,h,ht=>by
  rw[hiS,decide_eq_false (by grind),Bool.false_and,cond_false]
  exact B8p (fun s hs=>h s (by simp[hs])) (by have:=h s (by simp);grind)
theorem B2q:∀ {l:List SegD} {t:Rat},B2p l→t≤0→(loS t l).1=false
 | [],_,_,_=>rfl
 | s::r,t,h,ht=>by
  rw[loS,decide_eq_false (by grind),Bool.false_and,cond_false]
  exact B2q (fun s hs=>h s (by simp[hs])) (by have:=h s (by simp);grind)
theorem B9v {p q:Rat}:decide (Rf p q≥0)=decide (0≤p - q):=by rw[Bto,decide_eq_decide];grind
theorem B9w {p q:Rat}:decide (Rf p q<0)=decide (p<q):=by
 rw[decide_eq_decide];unfold Rf
 by_cases h:p<q
 ·simp[h]
 ·rw[if_neg h];simp only[h,iff_false];split<;>omega
theorem Bu3 {p q:Rat}:decide (Rf p q>0)=decide (q<p):=by
 rw[decide_eq_decide];unfold Rf
 by_cases h:p<q
 ·rw[if_pos h];simp;grind
 ·rw[if_neg h];split<;>simp[*]
theorem Asc (a b:Int):((a+b:Int):Rat)=(a:Rat)+(b:Rat):=Rat.intCast_add a b
theorem Bu4:∀ {l:List SegD} {p:Rat} {a:Int} {b:Bool} {q:Rat},B2p l→Bdc p a b q l=cond (hiS (p - (a:Rat)) l).1 (hiS (p - (a:Rat)) l) (b,q)
 | [],_,_,_,_,_=>rfl
 | s::r,p,a,b,q,h=>by
  have hr:B2p r:=fun s hs=>h s (by simp[hs])
  rw[Bdc,hiS,Bu4 hr,Bu4 hr,B9v,B9w,Asc]
  have e1:decide (p<(a:Rat)+(s.width:Rat))=decide (p - (a:Rat)<(s.width:Rat)):=by rw[decide_eq_decide];grind
  have e2:p - ((a:Rat)+(s.width:Rat))=p - (a:Rat) - (s.width:Rat):=by grind
  rw[e1,e2]
  cases hc:(decide (0≤p - (a:Rat))&&decide (p - (a:Rat)<(s.width:Rat))) with
  | true =>
   simp only[Bool.and_eq_true,decide_eq_true_eq] at hc
   have:=B8p hr (t:=p - (a:Rat) - (s.width:Rat)) (by grind)
   simp only[cond_true,this,cond_false]
  | false=>simp only[cond_false]
theorem Bu5:∀ {l:List SegD} {p:Rat} {a:Int} {b:Bool} {q:Rat},B2p l→Bn7 p a b q l=cond (loS (p - (a:Rat)) l).1 (loS (p - (a:Rat)) l) (b,q)
 | [],_,_,_,_,_=>rfl
 | s::r,p,a,b,q,h=>by
  have hr:B2p r:=fun s hs=>h s (by simp[hs])
  rw[Bn7,loS,Bu5 hr,Bu5 hr,Bu3,B8a,Asc]
  have e0:decide ((a:Rat)<p)=decide (0<p - (a:Rat)):=by rw[decide_eq_decide];grind
  have e1:decide (p≤(a:Rat)+(s.width:Rat))=decide (p - (a:Rat)≤(s.width:Rat)):=by rw[decide_eq_decide];grind
  have e2:p - ((a:Rat)+(s.width:Rat))=p - (a:Rat) - (s.width:Rat):=by grind
  rw[e0,e1,e2]
  cases hc:(decide (0<p - (a:Rat))&&decide (p - (a:Rat)≤(s.width:Rat))) with
  | true =>
   simp only[Bool.and_eq_true,decide_eq_true_eq] at hc
   have:=B2q hr (t:=p - (a:Rat) - (s.width:Rat)) (by grind)
   simp only[cond_true,this,cond_false]
  | false=>simp only[cond_false]
theorem Bu6 {p:Int} {l:List SegD} (h:Ek p l=true):B2p l:=fun s hs=>by
 have:=Btp h s hs
 have h1:(0:Int)<s.width:=by omega
 exact Rat.intCast_pos.2 h1
theorem Atm {p:Int} {s:SegD} {r:List SegD} (h:Ek p (s::r)=true):(p:Rat)≤(s.price:Rat)∧Ek s.price r=true∧(0:Rat)<(s.width:Rat):=by
 have hw:=Bu6 h s (by simp)
 simp only[Ek,Bool.and_eq_true,decide_eq_true_eq] at h
 exact⟨Rat.intCast_le_intCast.2 h.2.2.1,h.2.2.2,hw⟩
theorem Atn {w:Rat} {s:SegD} {r:List SegD} {t:Rat} (hw:w=(s.width:Rat)) (h0:0≤t) (h1:t≤w):I9 t (s::r)=(s.price:Rat)*t:=by
 subst hw
 rw[I9]
 by_cases h2:t≤0
 ·have:t=0:=Rat.le_antisymm h2 h0
  subst this;simp
 ·rw[if_neg h2,if_pos h1,Rat.sub_self]
  have:I9 0 r=0:=by cases r with
   | nil=>rfl
   | cons a b=>rw[I9,if_pos Rat.le_refl]
  rw[this,Rat.add_zero]
theorem Ato {s:SegD} {r:List SegD} {t:Rat} (hw:(0:Rat)<(s.width:Rat)) (h1:(s.width:Rat)≤t):I9 t (s::r)=(s.price:Rat)*(s.width:Rat)+I9 (t - (s.width:Rat)) r:=by
 rw[I9,if_neg (by grind)]
 by_cases h2:t≤(s.width:Rat)
 ·have:t=(s.width:Rat):=Rat.le_antisymm h2 h1
  rw[if_pos h2,this]
 ·rw[if_neg h2]
theorem B6w (l:List SegD):I9 0 l=0:=by cases l with
 | nil=>rfl
 | cons a b=>rw[I9,if_pos Rat.le_refl]
theorem B3y:∀ {l:List SegD} {p:Int} {t:Rat},Ek p l=true→0≤t→t≤(Ae5 l:Rat)→(p:Rat)*t≤I9 t l
 | [],p,t,_,h0,h1=>by
  have:t=0:=Rat.le_antisymm (by simpa[Ae5] using h1) h0
  subst this;simp[I9]
 | s::r,p,t,h,h0,h1=>by
  obtain⟨hp,hr,hw⟩:=Atm h
  by_cases h2:t≤(s.width:Rat)
  ·rw[Atn rfl h0 h2];exact Rat.mul_le_mul_of_nonneg_right hp h0
  ·have h3:(s.width:Rat)≤t:=by grind
   rw[Ato hw h3]
   rw[Ae5,Asc] at h1
   have ih:=B3y hr (t:=t - (s.width:Rat)) (by grind) (by grind)
   have:=Rat.mul_le_mul_of_nonneg_right hp h0
   grind
theorem Caa:∀ {l:List SegD} {p:Int} {t:Rat},Ek p l=true→(hiS t l).1=true→(p:Rat)≤(hiS t l).2
 | [],_,_,_,h=>by cases h
 | s::r,p,t,h,ht=>by
  obtain⟨hp,hr,hw⟩:=Atm h
  rw[hiS] at ht ⊢
  cases hc:(decide (0≤t)&&decide (t<(s.width:Rat))) with
  | true=>rw[hc] at ht;simpa using hp
  | false =>
   rw[hc] at ht
   have:=Caa hr ht
   simp only[cond_false]
   grind
theorem Cab:∀ {l:List SegD} {p:Int} {t:Rat},Ek p l=true→(loS t l).1=true→(p:Rat)≤(loS t l).2
 | [],_,_,_,h=>by cases h
 | s::r,p,t,h,ht=>by
  obtain⟨hp,hr,hw⟩:=Atm h
  rw[loS] at ht ⊢
  cases hc:(decide (0<t)&&decide (t≤(s.width:Rat))) with
  | true=>rw[hc] at ht;simpa using hp
  | false =>
   rw[hc] at ht
   have:=Cab hr ht
   simp only[cond_false]
   grind
theorem Byt:∀ {l:List SegD} {p:Int} {t s:Rat},Ek p l=true→0≤t→t<s→s≤(Ae5 l:Rat)→(hiS t l).1=true∧(hiS t l).2*(s - t)≤I9 s l - I9 t l
 | [],p,t,s,_,h0,h1,h2=>by simp[Ae5] at h2;grind
 | a::r,p,t,s,h,h0,h1,h2=>by
  obtain⟨hp,hr,hw⟩:=Atm h
  rw[Ae5,Asc] at h2
  rw[hiS]
  by_cases h3:t<(a.width:Rat)
  ·rw[decide_eq_true h0,decide_eq_true h3]
   refine⟨rfl,?_⟩
   show(a.price:Rat)*(s - t)≤_
   rw[Atn rfl h0 (Rat.le_of_lt h3)]
   by_cases h4:s≤(a.width:Rat)
   ·rw[Atn rfl (by grind) h4];grind
   ·rw[Ato hw (by grind)]
    have:=B3y hr (t:=s - (a.width:Rat)) (by grind) (by grind)
    grind
  ·rw[decide_eq_false h3,Bool.and_false,cond_false,Ato hw (show(a.width:Rat)≤t by grind),Ato hw (show(a.width:Rat)≤s by grind)]
   have ih:=Byt hr (t:=t - (a.width:Rat)) (s:=s - (a.width:Rat)) (by grind) (by grind) (by grind)
   exact⟨ih.1,by have:=ih.2;grind⟩
theorem Bmg:∀ {l:List SegD} {p:Int} {t s:Rat},Ek p l=true→0≤s→s<t→t≤(Ae5 l:Rat)→(loS t l).1=true∧(loS t l).2*(s - t)≤I9 s l - I9 t l
 | [],p,t,s,_,h0,h1,h2=>by simp[Ae5] at h2;grind
 | a::r,p,t,s,h,h0,h1,h2=>by
  obtain⟨hp,hr,hw⟩:=Atm h
  rw[Ae5,Asc] at h2
  rw[loS]
  by_cases h3:t≤(a.width:Rat)
  ·rw[decide_eq_true (show 0<t by grind),decide_eq_true h3]
   refine⟨rfl,?_⟩
   show(a.price:Rat)*(s - t)≤_
   rw[Atn rfl (by grind) h3,Atn rfl h0 (by grind)];grind
  ·rw[decide_eq_false h3,Bool.and_false,cond_false,Ato hw (show(a.width:Rat)≤t by grind)]
   by_cases h4:(a.width:Rat)≤s
   ·rw[Ato hw h4]
    have ih:=Bmg hr (t:=t - (a.width:Rat)) (s:=s - (a.width:Rat)) (by grind) (by grind) (by grind)
    exact⟨ih.1,by have:=ih.2;grind⟩
   ·have h5:s≤(a.width:Rat):=by grind
    rw[Atn rfl h0 h5]
    have ih:=Bmg hr (t:=t - (a.width:Rat)) (s:=0) Rat.le_refl (by grind) (by grind)
    refine⟨ih.1,?_⟩
    have h6:=Cab hr ih.1
    have h7:=Rat.mul_le_mul_of_nonneg_right h6 (show 0≤(a.width:Rat) - s by grind)
    have h8:=ih.2
    rw[B6w] at h8
    grind
theorem Cac:∀ {l:List SegD} {p:Int} {t:Rat},Ek p l=true→(loS t l).1=true→(hiS t l).1=true→(loS t l).2≤(hiS t l).2
 | [],_,_,_,h,_=>by cases h
 | a::r,p,t,h,h1,h2=>by
  obtain⟨hp,hr,hw⟩:=Atm h
  rw[loS] at h1 ⊢
  rw[hiS] at h2 ⊢
  by_cases h3:t<(a.width:Rat)
  ·by_cases h4:0<t
   ·rw[decide_eq_true h4,decide_eq_true (show t≤(a.width:Rat) by grind),decide_eq_true (show 0≤t by grind),decide_eq_true h3]
    exact Rat.le_refl
   ·exfalso
    rw[decide_eq_false h4,Bool.false_and,cond_false,B2q (Bu6 hr) (by grind)] at h1;cases h1
  ·rw[decide_eq_false h3,Bool.and_false,cond_false] at h2 ⊢
   by_cases h4:t≤(a.width:Rat)
   ·rw[decide_eq_true (show 0<t by grind),decide_eq_true h4]
    exact Caa hr h2
   ·rw[decide_eq_false h4,Bool.and_false,cond_false] at h1 ⊢
    exact Cac hr h1 h2
end Gx

namespace Gx
open Go Go.Proofs
set_option maxRecDepth 100000
section
variable {R:Type}
theorem Cbo {N:Nat} {x:RatD} {e:Rat} {m:Nat} {o:Bool} {K:Int→Option R} (hx:x.is e m) (hf:fit (8*m+10) N):Q5 N x.av o K=K e.num.sign:=by
 rw[Arh hx.1 (hf.le (by have:=hx.2.2;omega)),hx.2.1]
def two:Rat:=((2:Int):Rat)
theorem B9x (a:Rat):qm (a/two)≤qm a+1:=by
 have e:two⁻¹=mkRat 1 2:=by kernel_rfl
 rw[Rat.div_def,e]
 have h1:=Bko a (mkRat 1 2)
 have h2:=B3l 1 2 1 (by decide) (by decide) (by decide)
 omega
theorem Bdx {a v:Int}:((a:Rat)≤mkRat v 2↔2*a≤v)∧(mkRat v 2≤(a:Rat)↔v≤2*a):=by
 have h1:=Bqw (a:=v) (c:=a) (b:=2) (d:=1) (by decide) (by decide)
 have h2:=Bqw (a:=a) (c:=v) (b:=1) (d:=2) (by decide) (by decide)
 rw[B1n] at h1 h2
 constructor
 ·rw[←Rat.not_lt,h1];omega
 ·rw[←Rat.not_lt,h2];omega
theorem B8q {v:Int} (h:-9223372036854775808≤v∧v≤9223372036854775807):qm (mkRat v 2)≤2:=B3l v 2 2 (by omega) (by omega) (by omega)
section
variable {u:UnitD} {x y:Rat}
def cQ (u:UnitD) (p:Rat):Rat:=I9 (p - (u.min:Rat)) u.segs.l
theorem Bu7 (hv:Fq u 24=true) (hx:(u.min:Rat)≤x∧x≤(u.max:Rat)):scQ u x=cQ u x∧scE u x=0∧mgB u x=true:=by
 have hi:inQ x u.min u.max=true:=by unfold inQ;rw[decide_eq_true hx.1,decide_eq_true hx.2];rfl
 unfold scQ scE mgB cQ
 rw[hv,hi];exact⟨rfl,rfl,rfl⟩
theorem Byu (hv:Fq u 24=true):(Ae5 u.segs.l:Rat)=(u.max:Rat) - (u.min:Rat):=by
 rw[(Jy hv).2.2,Rat.intCast_sub]
theorem B8r (hv:Fq u 24=true) (hx:(u.min:Rat)≤x∧x≤(u.max:Rat)):mgL u x=cond (loS (x - (u.min:Rat)) u.segs.l).1 (loS (x - (u.min:Rat)) u.segs.l) (false,0)∧mgH u x=cond (hiS (x - (u.min:Rat)) u.segs.l).1 (hiS (x - (u.min:Rat)) u.segs.l) (false,0):=by
 have hw:=Bu6 (Jy hv).2.1
 unfold mgL mgH
 rw[(Bu7 hv hx).2.2,cond_true,cond_true,Bu5 hw,Bu4 hw]
 exact⟨rfl,rfl⟩
theorem Cad (hv:Fq u 24=true) (hx:(u.min:Rat)≤x∧x≤(u.max:Rat)) (h1:(mgL u x).1=true) (h2:(mgH u x).1=true):(mgL u x).2≤(mgH u x).2:=by
 obtain⟨e1,e2⟩:=B8r hv hx
 rw[e1] at h1 ⊢
 rw[e2] at h2 ⊢
 cases g1:(loS (x - (u.min:Rat)) u.segs.l).1 with
 | false=>rw[g1] at h1;cases h1
 | true =>
  cases g2:(hiS (x - (u.min:Rat)) u.segs.l).1 with
  | false=>rw[g2] at h2;cases h2
  | true=>exact Cac (Jy hv).2.1 g1 g2
theorem Cae (hv:Fq u 24=true) (hx:(u.min:Rat)≤x∧x≤(u.max:Rat)) (hy:(u.min:Rat)≤y∧y≤(u.max:Rat)) (h:x<y):(mgH u x).1=true∧(mgH u x).2*(y - x)≤cQ u y - cQ u x:=by
 obtain⟨e1,e2⟩:=B8r hv hx
 have hs:=Byu hv
 have:=Byt (Jy hv).2.1 (t:=x - (u.min:Rat)) (s:=y - (u.min:Rat)) (by grind) (by grind) (by grind)
 rw[e2,this.1,cond_true]
 refine⟨this.1,?_⟩
 have h2:=this.2
 unfold cQ
 rw[show y - (u.min:Rat) - (x - (u.min:Rat))=y - x by grind] at h2
 exact h2
theorem Caf (hv:Fq u 24=true) (hx:(u.min:Rat)≤x∧x≤(u.max:Rat)) (hy:(u.min:Rat)≤y∧y≤(u.max:Rat)) (h:y<x):(mgL u x).1=true∧(mgL u x).2*(y - x)≤cQ u y - cQ u x:=by
 obtain⟨e1,e2⟩:=B8r hv hx
 have hs:=Byu hv
 have:=Bmg (Jy hv).2.1 (t:=x - (u.min:Rat)) (s:=y - (u.min:Rat)) (by grind) (by grind) (by grind)
 rw[e1,this.1,cond_true]
 refine⟨this.1,?_⟩
 have h2:=this.2
 unfold cQ
 rw[show y - (u.min:Rat) - (x - (u.min:Rat))=y - x by grind] at h2
 exact h2
theorem mid (x y:Rat):(x+y)/two+(x+y)/two=x+y:=by
 have:two=2:=rfl
 rw[this];grind
theorem Cba (hv:Fq u 24=true) (hx:(u.min:Rat)≤x∧x≤(u.max:Rat)) (hy:(u.min:Rat)≤y∧y≤(u.max:Rat)):cQ u ((x+y)/two)+cQ u ((x+y)/two)≤cQ u x+cQ u y:=by
 have hm:=mid x y
 generalize (x+y)/two=m at hm
 have hmm:(u.min:Rat)≤m∧m≤(u.max:Rat):=by constructor<;>grind
 have key:∀ a b:Rat,(u.min:Rat)≤a∧a≤(u.max:Rat)→(u.min:Rat)≤b∧b≤(u.max:Rat)→m+m=a+b→a<b→cQ u m+cQ u m≤cQ u a+cQ u b:=by
  intro a b ha hb e hab
  have h1:=Cae hv hmm hb (by grind)
  have h2:=Caf hv hmm ha (by grind)
  have h3:=Cad hv hmm h2.1 h1.1
  have h4:=Rat.mul_le_mul_of_nonneg_right h3 (show 0≤b - m by grind)
  have h5:a - m=-(b - m):=by grind
  have h6:=h1.2
  have h7:=h2.2
  rw[h5] at h7
  grind
 by_cases h1:x<y
 ·exact key x y hx hy hm h1
 ·by_cases h2:y<x
  ·have:=key y x hy hx (by grind) h2
   grind
  ·have e:x=y:=by grind
   subst e
   have:m=x:=by grind
   subst this
   exact Rat.le_refl
end
theorem Auf {N:Nat} {K:Bool→Option R} (hf:fit 1000000 N) {l:List Int} {t o:Bool} {a b:Int} (hl:l.length≤9223372036854775807):Fd N (Az l) l.length t o a b K=K true:=by
 have hN:4096≤N:=by have:=hf.1;omega
 rw[Oq];unfold G5
 by_cases h200:l.length≤200
 ·rw[show decide ((l.length:Int)>200)=false by simp;omega,cf]
  refine B2n rfl hN hl fun u H h1 h2 _ hv ha=>?_
  have hmm:=Atg hv
  rw[show((Nat.beq 0 0)&&((Nat.beq (List.length u.av) 22)&&(Nat.beq 22 22)))=true from rfl,ct]
  simp only[u2,u3]
  have e1:IntKind.wrap .i64 ((IntKind.wrap .i64 ((2:Int)*(IntKind.wrap .i64 (u.max - u.min))))+(1:Int))=2*(u.max - u.min)+1:=by
   rw[i64 (a:=u.max - u.min) (by omega),i64 (a:=2*(u.max - u.min)) (by omega),i64 (by omega)]
  have ma:=B3c a (show(0:Int)<2*(u.max - u.min)+1 by omega)
  have mb:=B3c b (show(0:Int)<2*(u.max - u.min)+1 by omega)
  rw[e1,Cbd (by omega) (by omega)]
  generalize a%(2*(u.max - u.min)+1)=va at ma
  have e2:∀ v:Int,0≤v→v<2*(u.max - u.min)+1→IntKind.wrap .i64 ((IntKind.wrap .i64 ((2:Int)*u.min))+v)=2*u.min+v:=by
   intro v _ _
   rw[i64 (a:=2*u.min) (by omega),i64 (by omega)]
  rw[e2 va ma.1 ma.2,Bx8 (by omega) (by omega) (by omega),Cbd (by omega) (by omega)]
  generalize b%(2*(u.max - u.min)+1)=vb at mb
  rw[e2 vb mb.1 mb.2,Bx8 (by omega) (by omega) (by omega)]
  have hx:(u.min:Rat)≤mkRat (2*u.min+va) 2∧mkRat (2*u.min+va) 2≤(u.max:Rat):=⟨Bdx.1.2 (by omega),Bdx.2.2 (by omega)⟩
  have hy:(u.min:Rat)≤mkRat (2*u.min+vb) 2∧mkRat (2*u.min+vb) 2≤(u.max:Rat):=⟨Bdx.1.2 (by omega),Bdx.2.2 (by omega)⟩
  have qx:=B8q (v:=2*u.min+va) (by omega)
  have qy:=B8q (v:=2*u.min+vb) (by omega)
  rw[show ∀ v:Int,cq (mkRat v (2:Int).natAbs)=(cqD (mkRat v 2)).av from fun _=>rfl,show ∀ v:Int,cq (mkRat v (2:Int).natAbs)=(cqD (mkRat v 2)).av from fun _=>rfl]
  generalize mkRat (2*u.min+va) 2=x at hx qx
  generalize mkRat (2*u.min+vb) 2=y at hy qy
  have qs:=A63 x y
  have qh:=B9x (x+y)
  have hmid:=mid x y
  have hm:(u.min:Rat)≤(x+y)/two∧(x+y)/two≤(u.max:Rat):=by
   generalize (x+y)/two=m at hmid
   constructor<;>grind
  simp only[c3,b3,tk3,ct,Adu,Rd]
  have t2:(cqD ((2:Int):Rat)).is two 2:=qiI (by omega)
  rw[Cay (Xi qx) (Xi qy) (hf.le (by omega)),Bq0 (by omega) (by omega),B2o (Btn _) (Btn _) (by rw[Bx6];decide) (hf.le (by rw[B3k,B3k];have:=qi (v:=2) (by omega);omega)),Bx6,Bx6]
  rw[show(((2:Int):Rat))=two from rfl]
  simp only[c3,b3,tk3,ct]
  have ix:=Bu7 hv hx
  have iy:=Bu7 hv hy
  have im:=Bu7 hv hm
  refine Rg (Xi qx) (by omega) (hf.le (by omega)) (by omega) fun d1 g1=>?_
  rw[ix.2.1];rw[ix.1] at g1
  simp only[c3,b3,tk3,ct]
  refine Rg (Xi qy) (by omega) (hf.le (by omega)) (by omega) fun d2 g2=>?_
  rw[iy.2.1];rw[iy.1] at g2
  simp only[c3,b3,tk3,ct]
  refine Rg (Xi (m:=7) (by omega)) (by omega) (hf.le (by omega)) (by omega) fun d3 g3=>?_
  rw[im.2.1];rw[im.1] at g3
  simp only[c3,b3,tk3,ct]
  rw[B1s (hf.le (by omega))]
  have k1:=g1.qm;have k2:=g2.qm;have k3:=g3.qm
  rw[show((!true)==false)=true from rfl,ct,show((cond false true ((0:Int) != 0))==false)=true from rfl,ct,ct,ct]
  have k4:=A63 (cQ u ((x+y)/two)) (cQ u ((x+y)/two))
  have k5:=A63 (cQ u x) (cQ u y)
  rw[Cay g3 g3 (hf.le (by omega)),Cay g1 g2 (hf.le (by omega)),B1q (Xi (m:=2000) (by omega)) (Xi (m:=2000) (by omega)) (hf.le (by omega)),Bu3,decide_eq_false (Rat.not_lt.2 (Cba hv hx hy)),show(cond false true false)=false from rfl,cf]
  unfold Fm Ij
  simp only[b3,tk3,ct,Adu,Rd]
  refine Bbp (Xi qx) (by omega) (hf.le (by omega)) (by omega) fun lo hi hlo hhi=>?_
  simp only[c3,b3,tk3,ct]
  have fin:Fl N K (mgL u x).1 (mgH u x).1 (cqD x).av (cqD y).av d1.av d2.av lo.av hi.av=K true:=by
   unfold Fl
   have k6:=Azu y x
   have k7:=Azu (cQ u y) (cQ u x)
   have k8:=Bko (mgH u x).2 (y - x)
   have k9:=Bko (mgL u x).2 (y - x)
   have k10:=hlo.qm;have k11:=hhi.qm
   simp only[b3,tk3,ct]
   rw[Cax (Xi qy) (Xi qx) (hf.le (by omega))]
   simp only[c3,b3,tk3,ct]
   have hst:(cqD (y - x)).is (y - x) 5:=Xi (by omega)
   rw[Cbo hst (hf.le (by omega)),Bx7,Cax g2 g1 (hf.le (by omega)),Cax g2 g1 (hf.le (by omega)),Cbk hhi hst (hf.le (by omega)),Cbk hlo hst (hf.le (by omega)),B1q (Xi (m:=2000) (by omega)) (Xi (m:=10) (by omega)) (hf.le (by omega)),B1q (Xi (m:=2000) (by omega)) (Xi (m:=10) (by omega)) (hf.le (by omega)),Bto,Bto]
   unfold Rf
   by_cases hlt:y<x
   ·have:=Caf hv hx hy hlt
    rw[if_pos hlt,this.1,decide_eq_true this.2];rfl
   ·by_cases hgt:x<y
    ·have:=Cae hv hx hy hgt
     rw[if_neg hlt,if_pos hgt,this.1,decide_eq_true this.2];rfl
    ·rw[if_neg hlt,if_neg hgt];rfl
  rw[fin]
  rw[B1q hlo hhi (hf.le (by omega)),Bu3]
  cases j1:(mgL u x).1 with
  | false=>rfl
  | true =>
   cases j2:(mgH u x).1 with
   | false=>rfl
   | true=>rw[decide_eq_false (Rat.not_lt.2 (Cad hv hx j1 j2))];rfl
 ·rw[show decide ((l.length:Int)>200)=true by simp;omega];rfl
end
end Gx

namespace Gx
open Go Go.Proofs
theorem Byv {p:Int→Prop}:∀ m:List { n:Int // p n },m.flatMap (fun n=>[AV.int .i64 n.1])=Az (m.map (·.1))
 | []=>rfl
 | a::r=>by rw[List.flatMap_cons,Byv r];rfl
end Gx
