/- A part of the proof; each theorem says what it holds. -/
import Derived.Laws.BitsLemmas
import Derived.Laws.RangeAny
import Derived.Laws.RangeString
import Derived.Lib.ItoaLen
import Derived.Lib.AtoiAllCases
import Derived.Lib.IndexMore
import Derived.Lib.IndexLaws
import Derived.Test.YtpeocjkboabibaaGreatDoorP3
set_option linter.unusedVariables false
set_option linter.defProp false
set_option linter.unusedSimpArgs false
open Nat (ble beq)
open List (take drop replicate)
open Go.IntKind (wrap)
namespace Gx.Ct
open Go Go.Proofs Gx.Cf
section
variable {R:Type} {N:Nat} {c:CaseD} {b:Bool} {K:Nat→LA→O R}
theorem JC (f:c.buses.l.length≤1000000000):∀ (m j fuel:Nat) (A:List Aq),j+m=c.buses.l.length→m<fuel→A.length=j →
  Gs N K b c.av fuel A.length (j:Int) (A8 A)=K (A++(c.buses.l.drop j).map BusD.name).length (A8 (A++(c.buses.l.drop j).map BusD.name))
 | 0,j,fuel+1,A,k,_,hA=>by
  rw[Gs];unfold Ol
  rw[Ep,Hy (by omega),cf,show c.buses.l.drop j=[] from En (by omega),A24,A1p]
 | m+1,j,fuel+1,A,k,n,hA=>by
  rw[Gs];unfold Ol
  have h:j<c.buses.l.length:=by omega
  rw[Ep,Hf h,ct,Ep,Ab h,ct,A1d,Bi (e:=BusD.av) (sz:=3) (fun _=>rfl) _ _ h,show ∀ F:Aq→O R,Li (BusD.av c.buses.l[j]++(c.buses.l.drop (j+1)).flatMap BusD.av) F=F (c.buses.l[j]).name from fun _=>rfl,B' (by omega),ct,LW (by omega),Gn,Ij,Db h,A1r]
  have d:=JC f m (j+1) fuel (A++[(c.buses.l[j]).name]) (by omega) (by omega) (by simp[hA])
  rw[A09,A2d] at d
  refine d.trans ?_
  rw[A1l];rfl
theorem AH (f:c.lines.l.length≤1000000000):∀ (m j fuel:Nat) (A:List Aq),j+m=c.lines.l.length→m<fuel→A.length=j →
  Gt N K b c.av fuel A.length (j:Int) (A8 A)=K (A++(c.lines.l.drop j).map LineD.name).length (A8 (A++(c.lines.l.drop j).map LineD.name))
 | 0,j,fuel+1,A,k,_,hA=>by
  rw[Gt];unfold Om
  rw[G6,Hy (by omega),cf,show c.lines.l.drop j=[] from En (by omega),A24,A1p]
 | m+1,j,fuel+1,A,k,n,hA=>by
  rw[Gt];unfold Om
  have h:j<c.lines.l.length:=by omega
  rw[G6,Hf h,ct,G6,Ab h,ct,A1d,Bi (e:=LineD.av) (sz:=12) (fun _=>rfl) _ _ h,show ∀ F:Aq→O R,Li (LineD.av c.lines.l[j]++(c.lines.l.drop (j+1)).flatMap LineD.av) F=F (c.lines.l[j]).name from fun _=>rfl,B' (by omega),ct,LW (by omega),Gn,Ij,Db h,A1r]
  have d:=AH f m (j+1) fuel (A++[(c.lines.l[j]).name]) (by omega) (by omega) (by simp[hA])
  rw[A09,A2d] at d
  refine d.trans ?_
  rw[A1l];rfl
theorem AI (f:c.units.l.length≤1000000000):∀ (m j fuel:Nat) (A:List Aq),j+m=c.units.l.length→m<fuel→A.length=j →
  Gu N K b c.av fuel A.length (j:Int) (A8 A)=K (A++(c.units.l.drop j).map UnitD.name).length (A8 (A++(c.units.l.drop j).map UnitD.name))
 | 0,j,fuel+1,A,k,_,hA=>by
  rw[Gu];unfold On
  rw[Jw,Hy (by omega),cf,show c.units.l.drop j=[] from En (by omega),A24,A1p]
 | m+1,j,fuel+1,A,k,n,hA=>by
  rw[Gu];unfold On
  have h:j<c.units.l.length:=by omega
  rw[Jw,Hf h,ct,Jw,Ab h,ct,A1d,Bi (e:=UnitD.av) (sz:=22) (fun _=>rfl) _ _ h,show ∀ F:Aq→O R,Li (UnitD.av c.units.l[j]++(c.units.l.drop (j+1)).flatMap UnitD.av) F=F (c.units.l[j]).name from fun _=>rfl,B' (by omega),ct,LW (by omega),Gn,Ij,Db h,A1r]
  have d:=AI f m (j+1) fuel (A++[(c.units.l[j]).name]) (by omega) (by omega) (by simp[hA])
  rw[A09,A2d] at d
  refine d.trans ?_
  rw[A1l];rfl
theorem Vl (f:c.stores.l.length≤1000000000):∀ (m j fuel:Nat) (A:List Aq),j+m=c.stores.l.length→m<fuel→A.length=j →
  Gv N K b c.av fuel A.length (j:Int) (A8 A)=K (A++(c.stores.l.drop j).map StoreD.name).length (A8 (A++(c.stores.l.drop j).map StoreD.name))
 | 0,j,fuel+1,A,k,_,hA=>by
  rw[Gv];unfold Oo
  rw[Mb,Hy (by omega),cf,show c.stores.l.drop j=[] from En (by omega),A24,A1p]
 | m+1,j,fuel+1,A,k,n,hA=>by
  rw[Gv];unfold Oo
  have h:j<c.stores.l.length:=by omega
  rw[Mb,Hf h,ct,Mb,Ab h,ct,A1d,Bi (e:=StoreD.av) (sz:=9) (fun _=>rfl) _ _ h,show ∀ F:Aq→O R,Li (StoreD.av c.stores.l[j]++(c.stores.l.drop (j+1)).flatMap StoreD.av) F=F (c.stores.l[j]).name from fun _=>rfl,B' (by omega),ct,LW (by omega),Gn,Ij,Db h,A1r]
  have d:=Vl f m (j+1) fuel (A++[(c.stores.l[j]).name]) (by omega) (by omega) (by simp[hA])
  rw[A09,A2d] at d
  refine d.trans ?_
  rw[A1l];rfl
theorem GB (f:c.ties.l.length≤1000000000):∀ (m j fuel:Nat) (A:List Aq),j+m=c.ties.l.length→m<fuel→A.length=j →
  Gw N K b c.av fuel A.length (j:Int) (A8 A)=K (A++(c.ties.l.drop j).map TieD.name).length (A8 (A++(c.ties.l.drop j).map TieD.name))
 | 0,j,fuel+1,A,k,_,hA=>by
  rw[Gw];unfold Oq
  rw[Tl,Hy (by omega),cf,show c.ties.l.drop j=[] from En (by omega),A24,A1p]
 | m+1,j,fuel+1,A,k,n,hA=>by
  rw[Gw];unfold Oq
  have h:j<c.ties.l.length:=by omega
  rw[Tl,Hf h,ct,Tl,Ab h,ct,A1d,Bi (e:=TieD.av) (sz:=5) (fun _=>rfl) _ _ h,show ∀ F:Aq→O R,Li (TieD.av c.ties.l[j]++(c.ties.l.drop (j+1)).flatMap TieD.av) F=F (c.ties.l[j]).name from fun _=>rfl,B' (by omega),ct,LW (by omega),Gn,Ij,Db h,A1r]
  have d:=GB f m (j+1) fuel (A++[(c.ties.l[j]).name]) (by omega) (by omega) (by simp[hA])
  rw[A09,A2d] at d
  refine d.trans ?_
  rw[A1l];rfl
theorem GC (f:c.outs.l.length≤1000000000):∀ (m j fuel:Nat) (A:List Aq),j+m=c.outs.l.length→m<fuel→A.length=j →
  Gy N K b c.av fuel A.length (j:Int) (A8 A)=K (A++(c.outs.l.drop j).map OutD.name).length (A8 (A++(c.outs.l.drop j).map OutD.name))
 | 0,j,fuel+1,A,k,_,hA=>by
  rw[Gy];unfold Ot
  rw[M4,Hy (by omega),cf,show c.outs.l.drop j=[] from En (by omega),A24,A1p]
 | m+1,j,fuel+1,A,k,n,hA=>by
  rw[Gy];unfold Ot
  have h:j<c.outs.l.length:=by omega
  rw[M4,Hf h,ct,M4,Ab h,ct,A1d,Bi (e:=OutD.av) (sz:=4) (fun _=>rfl) _ _ h,show ∀ F:Aq→O R,Li (OutD.av c.outs.l[j]++(c.outs.l.drop (j+1)).flatMap OutD.av) F=F (c.outs.l[j]).name from fun _=>rfl,B' (by omega),ct,LW (by omega),Gn,Ij,Db h,A1r]
  have d:=GC f m (j+1) fuel (A++[(c.outs.l[j]).name]) (by omega) (by omega) (by simp[hA])
  rw[A09,A2d] at d
  refine d.trans ?_
  rw[A1l];rfl
def O4 (c:CaseD) (k:Nat):List Aq:=(By c).getD (k - 1) []
structure ListsOk (c:CaseD):Prop where
 b:c.buses.l.length≤1000000000
 l:c.lines.l.length≤1000000000
 u:c.units.l.length≤1000000000
 s:c.stores.l.length≤1000000000
 t:c.ties.l.length≤1000000000
 o:c.outs.l.length≤1000000000
theorem tp (hN:1000000000<N) (d:ListsOk c) {k:Nat} (f:1≤k) (n:k≤6):F7 N c.av b (k:Int) K=K (O4 c k).length (A8 (O4 c k)):=by
 have c1:=d.b;have c2:=d.l;have c3:=d.u;have c4:=d.s;have c5:=d.t;have q:=d.o
 rw[Ia];unfold Kt
 have:k=1∨k=2∨k=3∨k=4∨k=5∨k=6:=by omega
 rcases this with rfl | rfl | rfl | rfl | rfl | rfl
 ·exact JC (by omega) c.buses.l.length 0 N [] (by omega) (by omega) rfl
 ·exact AH (by omega) c.lines.l.length 0 N [] (by omega) (by omega) rfl
 ·exact AI (by omega) c.units.l.length 0 N [] (by omega) (by omega) rfl
 ·exact Vl (by omega) c.stores.l.length 0 N [] (by omega) (by omega) rfl
 ·exact GB (by omega) c.ties.l.length 0 N [] (by omega) (by omega) rfl
 ·exact GC (by omega) c.outs.l.length 0 N [] (by omega) (by omega) rfl
def xT (k:Nat):Nat:=[32,64,16,8,8,64].getD (k - 1) 0
theorem Alu {k:Nat} (d:1≤k) (f:k≤6) {F:Int→O R}:Qa N (k:Int) F=F (xT k):=by
 rw[PM];unfold ZQ
 have:k=1∨k=2∨k=3∨k=4∨k=5∨k=6:=by omega
 rcases this with rfl | rfl | rfl | rfl | rfl | rfl<;>rfl
def vj (c:CaseD) (k:Nat):Bool:=decide ((O4 c k).length≤xT k)
theorem Alv (c:CaseD):N9 c=(vj c 1&&(vj c 2&&(vj c 3&&(vj c 4&&(vj c 5&&vj c 6))))):=by
 unfold N9 vj
 simp[O4,By,xT,Cq,F4,Ei,fM,Age,Agf]
end
end Gx.Ct
namespace Gx.Ct
open Go Go.Proofs Gx.Cf
section
variable {R:Type} {N:Nat} {c:CaseD} {b:Bool} {K:List UInt8→Int→O R}
theorem xU (hN:1000000000<N) (f:ListsOk c):∀ (m k fuel:Nat),1≤k→k+m=7→m<fuel →
  Lc N K b c.av fuel (k:Int)=cond ((List.range' k m).all (vj c)) (Aw .i64 c.av fun ad=>cond ((decide (ad<1))==false) (Aw .i64 c.av fun ae=>cond (cond false true (decide (ae>24))) (K ([]:Lu) 3) (Zs N K b c.av)) (K ([]:Lu) 3)) (K [] 8)
 | 0,k,fuel+1,d,l,_=>by
  rw[Lc];unfold Vz
  rw[decide_eq_false (show ¬ (k:Int)≤6 by omega),cf];rfl
 | m+1,k,fuel+1,d,l,q=>by
  rw[Lc];unfold Vz
  have n:=xU hN f m (k+1) fuel (by omega) (by omega) (by omega)
  rw[decide_eq_true (show(k:Int)≤6 by omega),ct,Hq,ct,Dc,tp hN f d (by omega),Alu d (by omega),LW (by omega),n,A5e,A12]
  unfold vj
  by_cases g:(O4 c k).length≤xT k
  ·rw[decide_eq_true g,decide_eq_false (show ¬ (((O4 c k).length:Nat):Int)>((xT k:Nat):Int) by omega)];rfl
  ·rw[decide_eq_false g,decide_eq_true (show(((O4 c k).length:Nat):Int)>((xT k:Nat):Int) by omega)];rfl
theorem Aef {l:List Aq} {k2:Bool→Int→O R} {kd:Int} (hN:1000000000<N) (q:l.length≤1000):∀ (m h fuel:Nat) (p:Bool),h+m=l.length→m<fuel →
  K5 N k2 K l.length b c.av (A8 l) fuel p kd (h:Int)=cond ((l.drop h).all Ba) (k2 (p||IS (l.take h) (l.drop h)) (wrap .i64 (kd+1))) (K [] 9)
 | 0,h,fuel+1,p,s,_=>by
  rw[K5];unfold Vw
  rw[Hy (by omega),cf,show l.drop h=[] from En (by omega),A29,IS,A3j];rfl
 | m+1,h,fuel+1,p,s,u=>by
  rw[K5];unfold Vw
  have k:h<l.length:=by omega
  have n:=fun p=>Aef (k2:=k2) (kd:=kd) hN q m (h+1) fuel p (by omega) (by omega)
  have rd:∀ F:Aq→O R,Li (drop (0+(Int.toNat (h:Int))*1) (A8 l)) F=F l[h]:=fun F=>by rw[A1w,A1d,A1x,Oa k]
  have et:l.take (h+1)=l.take h++[l[h]]:=by rw[List.take_add_one,A1g k];rfl
  have tw:∀ p:Bool,(p||IS (l.take h) (l[h]::l.drop (h+1)))=((p||(l.take h).contains l[h])||IS (l.take (h+1)) (l.drop (h+1))):=fun p=>by rw[IS,et,A2k]
  rw[Hf k,ct,Ab k,ct,rd,dS (by omega),Db k,A12,tw]
  cases Ba l[h] with
  | false=>rfl
  | true =>
   rw[show(!true)=false from rfl,cf,LW (by omega)]
   cases p with
   | true =>
    refine(n true).trans ?_
    rfl
   | false =>
    have es:take ((Int.toNat (h:Int))*1) (A8 l)=A8 (l.take h):=by rw[A1d,A1x];unfold A8;rw[List.map_take]
    have t:(l.take h).length=h:=List.length_take_of_le (by omega)
    obtain⟨v,v1,v2⟩:=xS (R:=R) (N:=N) (l:=l.take h) (w:=l[h]) (d:=false) (f:=true) (by omega) h 0 N (by omega) (by omega)
    rw[show((false:Bool)==false)=true from rfl,ct,show((decide ((0:Int)≤(0:Int)))&&((decide (0≤(h:Int)))&&((decide ((h:Int)≤(l.length:Int)))&&(decide ((l.length:Int)≤(l.length:Int))))))=true by simp;omega,ct,rd,es,ix]
    unfold aB
    have v3:=fun K=>v2 K
    rw[t] at v3
    refine(v3 _).trans ?_
    refine(n _).trans ?_
    rw[A1z] at v1
    show cond _ (k2 (decide (v≥0)||_) _) _=_
    rw[v1];rfl
theorem oi {F:Bool→O R} (hN:1000000000<N) (l:ListsOk c) (hs:∀ k,1≤k→k≤6→(O4 c k).length≤1000)
  (hF:∀ q:Bool,(cond q (K ([]:Lu) 10) (cond (ble 8 (c.av.length)) (EK N (c.av.take 8) b fun z=>cond (!z) (K ([]:Lu) 12) (Bb 4 (c.av.drop 7) fun d g=>K6 N K d g b c.av N (g:Int) 0)) none))=F q):∀ (m k fuel:Nat) (q:Bool),1≤k→k+m=7→m<fuel →
  K8 N K b c.av fuel q (k:Int)=cond ((List.range' k m).all fun k=>(O4 c k).all Ba) (F (q||(List.range' k m).any fun k=>IS [] (O4 c k))) (K [] 9)
 | 0,k,fuel+1,q,f,n,_=>by
  rw[K8];unfold Vy
  rw[decide_eq_false (show ¬ (k:Int)≤6 by omega),cf]
  refine(hF q).trans ?_
  show _=F (q||false)
  rw[A3j]
 | m+1,k,fuel+1,q,f,n,t=>by
  rw[K8];unfold Vy
  have s:=fun q=>oi hN l hs hF m (k+1) fuel q (by omega) (by omega) (by omega)
  rw[decide_eq_true (show(k:Int)≤6 by omega),ct,Hq,ct,Dc,tp hN l f (by omega)]
  refine(Aef hN (hs k f (by omega)) (O4 c k).length 0 N q (by omega) (by have:=hs k f (by omega);omega)).trans ?_
  rw[A1z,A3v,LW (by omega),s,A5e,A12,A3p]
  cases (O4 c k).all Ba with
  | false=>rfl
  | true =>
   rw[A2c,←A2k];rfl
end
end Gx.Ct
namespace Gx.Ct
open Go Go.Proofs Gx.Cf
def FI (R:Type) (N:Nat):Prop:=∀ z,FQ z→∀ K:Lu→O R,AE N z (fun r=>S4 N r false K)=K (tx z)
def Ey (ws:List Aq):Lu:=ws.flatMap (32::·)
theorem HU (w:Aq) (r:List Aq):Ey (w::r)=32::w++Ey r:=rfl
section
variable {R:Type} {N:Nat}
theorem Aeg {ws:List Aq} {d f a:Bool} {K:Lu→O R} (k:ws.length≤1000000000):∀ (m j fuel:Nat) (T:Lu),j+m=ws.length→m<fuel→T.length+(Ey (ws.drop j)).length≤140737488355328 →
  Ek N K (A8 ws) ws.length d f a fuel (j:Int) T=K (T++Ey (ws.drop j))
 | 0,j,fuel+1,T,l,_,_=>by
  rw[Ek];unfold Lr
  rw[Hy (by omega),cf,En (by omega)]
  show _=K (T++[])
  rw[A1p]
 | m+1,j,fuel+1,T,l,n,hT=>by
  rw[Ek];unfold Lr
  have h:j<ws.length:=by omega
  rw[Db h,HU] at hT
  simp only[A09,A1a] at hT
  rw[Hf h,ct,Ab h,ct,A1d,A1x,Oa h,show ble (1+(ws[j]).length) 140737488355328=true by simp;omega,ct,show ble (T.length+(List.length (([32]:Lu)++ws[j]))) 140737488355328=true by simp;omega,ct,LW (by omega)]
  refine(Aeg k m (j+1) fuel _ (by omega) (by omega) (by simp;omega)).trans ?_
  rw[Db h,HU,A1l];rfl
theorem Ao8 {ws:List Aq} {d f a:Bool} {T:Lu} {K:Lu→O R} (k:ws.length≤1000000000) (hN:1000000000<N) (hT:T.length+(Ey ws).length≤140737488355328):An N (A8 ws) ws.length d f T a K=K (T++Ey ws):=by
 rw[CO];unfold Rn
 exact Aeg k ws.length 0 N T (by omega) (by omega) hT
theorem Aeh {l:List Int} {c d g:Bool} {f:Lu} {K:Lu→Bool→O R} (hF:FI R N) (hi:∀ z ∈ l,FQ z) (n:l.length≤1000000000):∀ (m j fuel:Nat) (T:Lu) (bad:Bool),j+m=l.length→m<fuel→T.length+(Ey ((l.drop j).map tx)).length≤140737488355328 →
  Cw N K (Ax l) l.length c d f g fuel (j:Int) T bad=K (T++Ey ((l.drop j).map tx)) (bad||A3 (l.drop j))
 | 0,j,fuel+1,T,bad,q,_,_=>by
  rw[Cw];unfold Lq
  rw[Hy (by omega),cf,En (by omega)]
  show _=K (T++[]) (bad||false)
  rw[A1p,A3j]
 | m+1,j,fuel+1,T,bad,q,t,hT=>by
  rw[Cw];unfold Lq
  have h:j<l.length:=by omega
  rw[Db h,A1r,HU] at hT
  simp only[A09,A1a] at hT
  have s:=hi _ (A1q h)
  have step:∀ k:Bool,Iw N (Cw N K (Ax l) l.length c d f g fuel) K (Ax l) l.length c d f g (j:Int) T k=K (T++Ey ((l.drop j).map tx)) (k||A3 (l.drop (j+1))):=fun k=>by
   unfold Iw
   rw[Ab h,ct,S_ h,hF _ s,show ble (1+(tx l[j]).length) 140737488355328=true by simp;omega,ct,show ble (T.length+(List.length (([32]:Lu)++tx l[j]))) 140737488355328=true by simp;omega,ct,LW (by omega)]
   refine(Aeh hF hi n m (j+1) fuel _ k (by omega) (by omega) (by simp only[A09,A1a,A1b];omega)).trans ?_
   rw[Db h,A1r,HU,A1l];rfl
  have e:A3 (l.drop j)=(BS l[j]||A3 (l.drop (j+1))):=by rw[Db h];rfl
  rw[Hf h,ct,Ab h,ct,S_ h,ct,S_ h,e]
  unfold BS
  cases bad with
  | true=>exact(step true).trans rfl
  | false =>
   rw[show((false:Bool)==false)=true from rfl,ct]
   cases decide (l[j]< -1073741824) with
   | true=>exact(step true).trans rfl
   | false=>exact(step (decide (l[j]>1073741824))).trans rfl
theorem tq {l:List Int} {c d bad:Bool} {T:Lu} {K:Lu→Bool→O R} (hF:FI R N) (hi:∀ z ∈ l,FQ z) (f:l.length≤1000000000) (hN:1000000000<N) (hT:T.length+(Ey (l.map tx)).length≤140737488355328):Ah N (Ax l) l.length c d T bad K=K (T++Ey (l.map tx)) (bad||A3 l):=by
 rw[CN];unfold Rm
 exact Aeh hF hi f l.length 0 N T bad (by omega) (by omega) hT
end
end Gx.Ct
namespace Gx.Ct
open Go Go.Proofs Gx.Cf
def oq (f:FracD):LA:=[.int .i64 f.num,.int .i64 f.den]
theorem Ahl (f:FracD) (bad:Bool):(((bad||decide (f.den<1))||A3 [f.num])||A3 [f.den])=(bad||H2 f):=by
 unfold H2 A3 BS
 simp only[A3p,A33,A3j]
 by_cases d:f.den<1
 ·rw[decide_eq_true d];cases bad<;>simp
 ·rw[decide_eq_false d,decide_eq_false (show ¬ f.den< -1073741824 by omega)]
  simp only[A3j,A2v,A2k]
section
variable {R:Type} {N:Nat}
theorem xV {fs:List FracD} {c d g:Bool} {f:Lu} {K:Lu→Bool→O R} (hF:FI R N) (hx:Ew) (hN:1000000000<N) (hi:∀ f ∈ fs,FQ f.num∧FQ f.den) (t:fs.length≤1000):∀ (m j fuel:Nat) (T:Lu) (bad:Bool),j+m=fs.length→m<fuel→T.length+100*m≤140737488300000 →
  Ci N K (fs.flatMap oq) fs.length c d f g fuel (j:Int) T bad=K (T++Ey ((fs.drop j).map Lj)) (bad||(fs.drop j).any H2)
 | 0,j,fuel+1,T,bad,u,_,_=>by
  rw[Ci];unfold J7
  rw[Hy (by omega),cf,En (by omega)]
  show _=K (T++[]) (bad||false)
  rw[A1p,A3j]
 | m+1,j,fuel+1,T,bad,u,y,hT=>by
  rw[Ci];unfold J7
  have h:j<fs.length:=by omega
  obtain⟨z1,z2⟩:=hi _ (A1q h)
  have s1:=hx _ z1
  have s2:=hx _ z2
  have v:∀ F:Int→O R,Aw .i64 (drop ((Int.toNat (j:Int))*2) (fs.flatMap oq)) F=F (fs[j]).num:=fun F=>by rw[TU (e:=oq) (sz:=2) (fun _=>rfl) h];rfl
  have q:∀ F:Int→O R,Aw .i64 (drop 1 (drop ((Int.toNat (j:Int))*2) (fs.flatMap oq))) F=F (fs[j]).den:=fun F=>by rw[TU (e:=oq) (sz:=2) (fun _=>rfl) h];rfl
  have e1:Ey ([(fs[j]).num].map tx)=32::tx (fs[j]).num:=by simp[Ey]
  have s:Ey ([(fs[j]).den].map tx)=32::tx (fs[j]).den:=by simp[Ey]
  have step:∀ k:Bool,Hv N (Ci N K (fs.flatMap oq) fs.length c d f g fuel) K (fs.flatMap oq) fs.length c d f g (j:Int) T k=K (T++Ey ((fs.drop j).map Lj)) (((k||A3 [(fs[j]).num])||A3 [(fs[j]).den])||(fs.drop (j+1)).any H2):=fun k=>by
   unfold Hv
   rw[Ab h,ct,v]
   refine A4g (tq (l:=[(fs[j]).num]) hF (by simp[z1]) (by simp) hN (by rw[e1];simp only[A1a];omega)) ?_
   rw[ct,q]
   refine A4g (tq (l:=[(fs[j]).den]) hF (by simp[z2]) (by simp) hN (by rw[e1,s];simp only[A09,A1a];omega)) ?_
   rw[e1,s]
   generalize n:T++32::tx (fs[j]).num=H
   have hH:H.length≤140737488300000:=by rw[←n];simp only[A09,A1a];omega
   have ew:wrap .i64 ((H.length:Int)+1)=((H.length+1:Nat):Int):=by rw[Gx.i64 (by omega)];omega
   have x:drop (H.length+1) (H++32::tx (fs[j]).den)=tx (fs[j]).den:=by
    rw[show H++32::tx (fs[j]).den=(H++[32])++tx (fs[j]).den by simp,List.drop_left' (by simp)]
   have et:take ((H++32::tx (fs[j]).den).length - (H.length+1)) (tx (fs[j]).den)=tx (fs[j]).den:=A1c (by simp only[A09,A1a];omega)
   rw[ew,show ble (H.length+1) 140737488355328=true by simp;omega,ct,A1d,x,et,show((decide ((0:Int)≤((H.length+1:Nat):Int)))&&((decide (((H.length+1:Nat):Int)≤(((H++32::tx (fs[j]).den).length:Nat):Int)))&&((decide ((((H++32::tx (fs[j]).den).length:Nat):Int)≤(((H++32::tx (fs[j]).den).length:Nat):Int)))&&(decide ((((H++32::tx (fs[j]).den).length:Nat):Int)≤(((H++32::tx (fs[j]).den).length:Nat):Int))))))=true by
    rw[decide_eq_true (by omega),decide_eq_true (by simp only[A09,A1a];omega),decide_eq_true (by omega)];rfl,ct,
    show ble ((H++([47]:Lu)).length+(tx (fs[j]).den).length) 140737488355328=true by simp;omega,ct,LW (by omega)]
   refine(xV hF hx hN hi t m (j+1) fuel _ _ (by omega) (by omega) (by rw[←n];simp only[A09,A1a,A1b];omega)).trans ?_
   rw[Db h,A1r,HU,←n]
   simp only[Lj,A1l,A1o,A11]
  have fin:∀ k,(k=(bad||decide ((fs[j]).den<1)))→K (T++Ey ((fs.drop j).map Lj)) (((k||A3 [(fs[j]).num])||A3 [(fs[j]).den])||(fs.drop (j+1)).any H2)=K (T++Ey ((fs.drop j).map Lj)) (bad||(fs.drop j).any H2):=fun k e=>by
   rw[e,Ahl,Db h,A3p,A2k]
  rw[Hf h,ct]
  cases bad with
  | true=>exact(step true).trans (fin true rfl)
  | false =>
   rw[show((false:Bool)==false)=true from rfl,ct,Ab h,ct,q]
   exact(step (decide ((fs[j]).den<1))).trans (fin _ rfl)
end
end Gx.Ct
namespace Gx.Ct
open Go Go.Proofs Gx.Cf
section
variable {R:Type} {N:Nat}
theorem ED {ws:List Aq} {B:Nat} (h:∀ w ∈ ws,w.length≤B):(Ey ws).length≤(B+1)*ws.length:=by
 induction ws with
 | nil=>exact A4m _
 | cons w r d =>
  have f:=h w (by simp)
  have k:=d fun x hx=>h x (by simp[hx])
  rw[HU,A09,A1a,A1a,Nat.mul_succ]
  omega
theorem Lg {l:List Int} (hx:Ew) (hi:∀ z ∈ l,FQ z):(Ey (l.map tx)).length≤31*l.length:=by
 have:=ED (ws:=l.map tx) (B:=30) (fun w d=>by obtain⟨z,f,rfl⟩:=A1y.1 d;exact hx z (hi z f))
 rwa [A1i] at this
theorem C0 {ws:List Aq} {L:LA} {n:Nat} {d f a:Bool} {T:Lu} {K:Lu→O R} {Y:O R} (hL:L=A8 ws) (hn:n=ws.length) (k:∀ w ∈ ws,w.length≤16) (l:ws.length≤1000) (hN:1000000000<N) (hT:T.length≤140000000000000) (h:K (T++Ey ws)=Y):An N L n d f T a K=Y:=by
 subst hL hn;rw[Ao8 (by omega) hN (by have:=ED k;omega),h]
theorem Eh {l:List Int} {L:LA} {n:Nat} {c d bad:Bool} {T:Lu} {K:Lu→Bool→O R} {Y:O R} (hL:L=Ax l) (hn:n=l.length) (hF:FI R N) (hx:Ew) (hi:∀ z ∈ l,FQ z) (f:l.length≤1000000000) (hN:1000000000<N) (hT:T.length≤140000000000000) (h:K (T++Ey (l.map tx)) (bad||A3 l)=Y):Ah N L n c d T bad K=Y:=by
 subst hL hn;rw[tq hF hi f hN (by have:=Lg hx hi;omega),h]
theorem tt {fs:List FracD} {L:LA} {n:Nat} {c d bad:Bool} {T:Lu} {K:Lu→Bool→O R} {Y:O R} (hL:L=fs.flatMap oq) (hn:n=fs.length) (hF:FI R N) (hx:Ew) (hi:∀ f ∈ fs,FQ f.num∧FQ f.den) (k:fs.length≤1000) (hN:1000000000<N) (hT:T.length≤140000000000000) (h:K (T++Ey (fs.map Lj)) (bad||fs.any H2)=Y):C3 N L n c d T bad K=Y:=by
 subst hL hn;rw[AO];unfold Pg
 exact(xV hF hx hN hi k fs.length 0 N T bad (by omega) (by omega) (by omega)).trans h
theorem BH {f:FracD} (hx:Ew) (d:FQ f.num) (k:FQ f.den):(Lj f).length≤61:=by
 have:=hx _ d;have:=hx _ k
 unfold Lj;simp only[A09,A1a];omega
theorem Ahm {c:CaseD} {l:LineD} {g b bad:Bool} {T:Lu} {K:Lu→Bool→O R} (hF:FI R N) (hx:Ew) (hN:1000000000<N) (hI:LineI 1000000000 l) (d:Lk l.fr c.buses.l.length=true) (f:Lk l.tl c.buses.l.length=true) (k:l.name.length≤16) (s1:(Bc (Cq c) l.fr).length≤16) (s2:(Bc (Cq c) l.tl).length≤16) (hT:T.length≤100000000000000) :
  Ro N c.av g l.av b T bad K=K (T++Dq (Uk (Cq c) l)) (bad||IQ l):=by
 rw[AP];unfold Vu
 have r0:∀ F:Aq→O R,Li l.av F=F l.name:=fun F=>rfl
 have q:∀ F:Int→O R,Aw .i64 (drop 1 l.av) F=F l.fr:=fun F=>rfl
 have s:∀ F:Int→O R,Aw .i64 (drop 2 l.av) F=F l.tl:=fun F=>rfl
 have p:∀ (b:Bool) (x y:Int),(!b||A2 [AV.int .i64 x,.int .i64 y])=true:=fun b x y=>by cases b<;>rfl
 have L1:=BH hx hI.f1.1 hI.f1.2
 have L2:=BH hx hI.f2.1 hI.f2.2
 have L3:=BH hx hI.f3.1 hI.f3.2
 have L4:=hx _ hI.n.1
 have L5:=hx _ hI.n.2
 have L6:=Lg hx hI.a.1
 have L7:=hI.a.2
 rw[show ble (T.length+4) 140737488355328=true by simp;omega,ct,r0,Ep,q,KS d,ct,Ad6 d,Ep,s,KS f,ct,Ad6 f]
 refine C0 (ws:=[l.name,Bc (Cq c) l.fr,Bc (Cq c) l.tl,As4]) rfl rfl (by simp[k,s1,s2,As4]) (by simp) hN (by simp only[A09,A1a,A1b];omega) ?_
 show cond true (cond (!b||A2 [AV.int .i64 l.re.num,.int .i64 l.re.den]) (cond true (C3 N [.int .i64 l.re.num,.int .i64 l.re.den] 1 false true _ _ _) none) none) none=_
 rw[ct,p,ct,ct]
 have t:(Ey [l.name,Bc (Cq c) l.fr,Bc (Cq c) l.tl,As4]).length≤100:=by
  have:=ED (ws:=[l.name,Bc (Cq c) l.fr,Bc (Cq c) l.tl,As4]) (B:=16) (by simp[k,s1,s2,As4])
  simp only[A1a,A1b] at this;omega
 refine tt (fs:=[l.re]) rfl rfl hF hx (by simp[hI.f1]) (by simp) hN (by simp only[A09,A1a,A1b];omega) ?_
 have u:(Ey ([l.re].map Lj)).length≤62:=by simp[Ey];omega
 refine C0 (ws:=[iF]) rfl rfl (by decide) (by simp) hN (by simp only[A09,A1a,A1b];omega) ?_
 have v:(Ey [iF]).length≤6:=by decide
 show cond true (cond (!b||A2 [AV.int .i64 l.smin.num,.int .i64 l.smin.den]) (cond true (cond (!b||A2 [AV.int .i64 l.smax.num,.int .i64 l.smax.den]) (cond true (cond true (C3 N [.int .i64 l.smin.num,.int .i64 l.smin.den,.int .i64 l.smax.num,.int .i64 l.smax.den] 2 false true _ _ _) none) none) none) none) none) none=_
 rw[ct,p,ct,ct,p,ct,ct,ct]
 refine tt (fs:=[l.smin,l.smax]) rfl rfl hF hx (by simp[hI.f2,hI.f3]) (by simp) hN (by simp only[A09,A1a,A1b];omega) ?_
 have z:(Ey ([l.smin,l.smax].map Lj)).length≤124:=by simp[Ey];omega
 refine C0 (ws:=[iG]) rfl rfl (by decide) (by simp) hN (by simp only[A09,A1a,A1b];omega) ?_
 have A:(Ey [iG]).length≤6:=by decide
 show Ah N [.int .i64 l.limit,.int .i64 l.emer] 2 false true _ _ _=_
 refine Eh (l:=[l.limit,l.emer]) rfl rfl hF hx (by simp[hI.n.1,hI.n.2]) (by simp) hN (by simp only[A09,A1a,A1b];omega) ?_
 have C:(Ey ([l.limit,l.emer].map tx)).length≤62:=by simp[Ey];omega
 refine C0 (ws:=[FO]) rfl rfl (by decide) (by simp) hN (by simp only[A09,A1a,A1b];omega) ?_
 have D:(Ey [FO]).length≤5:=by decide
 show Bb 1 (l.away.av 1 F3::_) _=_
 rw[A9,Cc]
 refine Eh rfl rfl hF hx hI.a.1 hI.a.2 hN (by simp only[A09,A1a,A1b];omega) ?_
 rw[show ∀ X:Lu,X.length≤140000000000000→ble (X.length+1) 140737488355328=true from fun X h=>by simp;omega,ct]
 ·have eB:(((((bad||[l.re].any H2)||[l.smin,l.smax].any H2)||A3 [l.limit,l.emer])||A3 l.away.l))=(bad||IQ l):=by unfold IQ;simp[A2k]
  rw[eB,Dq]
  congr 1
  unfold Uk
  rw[A1o,Ho]
  simp[Ey,Ji]
 ·simp only[A09,A1a,A1b];omega
set_option maxHeartbeats 1000000 in
theorem Ahn {u:UnitD} {b bad:Bool} {K:Lu→Bool→O R} {T:Lu} {fuel j:Nat} (hF:FI R N) (hx:Ew) (hN:1000000000<N) (hI:UnitI 1000000000 u) (hs:Lk u.state 3=true) (q:u.segs.l.length≤j) (hT:T.length≤130000000000000) :
  C5 N K b u.av (fuel+1) (j:Int) T bad=K (T++Ey (Ajf u)++[10]) (bad||RY u):=by
 have hn:=hI.n
 simp only[A1j,A1v,or_false,forall_eq_or_imp,forall_eq] at hn
 obtain⟨_,_,n1,n2,n3,n4,n5,n6,n7,n8,n9,n10,n11,n12,n13,n14,n15⟩:=hn
 have La:=Lg hx hI.a.1
 have Lb:=hI.a.2
 have rs:∀ F:LA→Nat→O R,Bb 2 (drop 4 u.av) F=F (u.segs.l.flatMap SegD.av) u.segs.l.length:=fun F=>by
  show Bb 2 (u.segs.av 2 SegD.av::_) F=_
  rw[A9]
 rw[C5];unfold J8
 rw[rs,Hy q,cf]
 refine C0 (ws:=[Ve]) rfl rfl (by decide) (by simp) hN (by first | omega | (simp only[A09,A1a,A1b];omega)) ?_
 have s:(Ey [Ve]).length≤20:=by decide
 show Ah N [.int .i64 u.noLoad] 1 false true _ _ _=_
 refine Eh (l:=[u.noLoad]) rfl rfl hF hx (by simp[*]) (by simp) hN (by first | omega | (simp only[A09,A1a,A1b];omega)) ?_
 have t:(Ey ([u.noLoad].map tx)).length≤100:=by
  have:=Lg (l:=[u.noLoad]) hx (by simp[*])
  simp only[A1a,A1b] at this;omega
 refine C0 (ws:=[ku]) rfl rfl (by decide) (by simp) hN (by first | omega | (simp only[A09,A1a,A1b];omega)) ?_
 have v:(Ey [ku]).length≤20:=by decide
 show Ah N [.int .i64 u.rampUp,.int .i64 u.rampDown] 2 false true _ _ _=_
 refine Eh (l:=[u.rampUp,u.rampDown]) rfl rfl hF hx (by simp[*]) (by simp) hN (by first | omega | (simp only[A09,A1a,A1b];omega)) ?_
 have x:(Ey ([u.rampUp,u.rampDown].map tx)).length≤100:=by
  have:=Lg (l:=[u.rampUp,u.rampDown]) hx (by simp[*])
  simp only[A1a,A1b] at this;omega
 refine C0 (ws:=[ZS]) rfl rfl (by decide) (by simp) hN (by first | omega | (simp only[A09,A1a,A1b];omega)) ?_
 have y:(Ey [ZS]).length≤20:=by decide
 show Ah N [.int .i64 u.startRamp] 1 false true _ _ _=_
 refine Eh (l:=[u.startRamp]) rfl rfl hF hx (by simp[*]) (by simp) hN (by first | omega | (simp only[A09,A1a,A1b];omega)) ?_
 have z:(Ey ([u.startRamp].map tx)).length≤100:=by
  have:=Lg (l:=[u.startRamp]) hx (by simp[*])
  simp only[A1a,A1b] at this;omega
 refine C0 (ws:=[kv]) rfl rfl (by decide) (by simp) hN (by first | omega | (simp only[A09,A1a,A1b];omega)) ?_
 have A:(Ey [kv]).length≤20:=by decide
 show Ah N [.int .i64 u.stopRamp] 1 false true _ _ _=_
 refine Eh (l:=[u.stopRamp]) rfl rfl hF hx (by simp[*]) (by simp) hN (by first | omega | (simp only[A09,A1a,A1b];omega)) ?_
 have C:(Ey ([u.stopRamp].map tx)).length≤100:=by
  have:=Lg (l:=[u.stopRamp]) hx (by simp[*])
  simp only[A1a,A1b] at this;omega
 refine C0 (ws:=[ZT]) rfl rfl (by decide) (by simp) hN (by first | omega | (simp only[A09,A1a,A1b];omega)) ?_
 have D:(Ey [ZT]).length≤20:=by decide
 show Ah N [.int .i64 u.upTime,.int .i64 u.downTime,.int .i64 u.startTime] 3 false true _ _ _=_
 refine Eh (l:=[u.upTime,u.downTime,u.startTime]) rfl rfl hF hx (by simp[*]) (by simp) hN (by first | omega | (simp only[A09,A1a,A1b];omega)) ?_
 have G:(Ey ([u.upTime,u.downTime,u.startTime].map tx)).length≤100:=by
  have:=Lg (l:=[u.upTime,u.downTime,u.startTime]) hx (by simp[*])
  simp only[A1a,A1b] at this;omega
 refine C0 (ws:=[kw]) rfl rfl (by decide) (by simp) hN (by first | omega | (simp only[A09,A1a,A1b];omega)) ?_
 have I:(Ey [kw]).length≤20:=by decide
 show Ah N [.int .i64 u.hotCost,.int .i64 u.coldCost,.int .i64 u.hotHours] 3 false true _ _ _=_
 refine Eh (l:=[u.hotCost,u.coldCost,u.hotHours]) rfl rfl hF hx (by simp[*]) (by simp) hN (by first | omega | (simp only[A09,A1a,A1b];omega)) ?_
 have M:(Ey ([u.hotCost,u.coldCost,u.hotHours].map tx)).length≤100:=by
  have:=Lg (l:=[u.hotCost,u.coldCost,u.hotHours]) hx (by simp[*])
  simp only[A1a,A1b] at this;omega
 refine C0 (ws:=[D6]) rfl rfl (by decide) (by simp) hN (by first | omega | (simp only[A09,A1a,A1b];omega)) ?_
 have S:(Ey [D6]).length≤20:=by decide
 show Ah N [.int .i64 u.reserve,.int .i64 u.reservePrice] 2 false true _ _ _=_
 refine Eh (l:=[u.reserve,u.reservePrice]) rfl rfl hF hx (by simp[*]) (by simp) hN (by first | omega | (simp only[A09,A1a,A1b];omega)) ?_
 have U:(Ey ([u.reserve,u.reservePrice].map tx)).length≤100:=by
  have:=Lg (l:=[u.reserve,u.reservePrice]) hx (by simp[*])
  simp only[A1a,A1b] at this;omega
 refine C0 (ws:=[FO]) rfl rfl (by decide) (by simp) hN (by first | omega | (simp only[A09,A1a,A1b];omega)) ?_
 have V:(Ey [FO]).length≤20:=by decide
 show Bb 1 (u.away.av 1 F3::_) _=_
 rw[A9,Cc]
 refine Eh rfl rfl hF hx hI.a.1 hI.a.2 hN (by first | omega | (simp only[A09,A1a,A1b];omega)) ?_
 show cond (Ag u.state 3) _ none=_
 rw[KS hs,ct]
 obtain⟨sw,d,f,k⟩:∃ sw:Aq,Xw u.state=[sw]∧sw.length≤16∧∀ F:Aq→O R,Li (drop (0+((Int.toNat u.state)*1)) [(.str Ai5),(.str P_),(.str Arb)]) F=F sw:=by
  unfold Lk at hs
  simp only[A1f,decide_eq_true_eq] at hs
  have:u.state=0∨u.state=1∨u.state=2:=by omega
  rcases this with e | e | e<;>rw[e]
  ·exact⟨Ai5,rfl,by decide,fun F=>rfl⟩
  ·exact⟨P_,rfl,by decide,fun F=>rfl⟩
  ·exact⟨Arb,rfl,by decide,fun F=>rfl⟩
 refine(k _).trans ?_
 refine C0 (ws:=[Y8,sw]) rfl rfl (by simp[f,Y8]) (by simp) hN (by first | omega | (simp only[A09,A1a,A1b];omega)) ?_
 have Y:(Ey [Y8,sw]).length≤40:=by simp[Ey,Y8];omega
 show Ah N [.int .i64 u.hours,.int .i64 u.output] 2 false true _ _ _=_
 refine Eh (l:=[u.hours,u.output]) rfl rfl hF hx (by simp[*]) (by simp) hN (by first | omega | (simp only[A09,A1a,A1b];omega)) ?_
 have q9:(Ey ([u.hours,u.output].map tx)).length≤100:=by
  have:=Lg (l:=[u.hours,u.output]) hx (by simp[*])
  simp only[A1a,A1b] at this;omega
 rw[show ∀ X:Lu,X.length≤140000000000000→ble (X.length+1) 140737488355328=true from fun X h=>by simp;omega,ct]
 ·have eB:(((((((((bad||A3 [u.noLoad])||A3 [u.rampUp,u.rampDown])||A3 [u.startRamp])||A3 [u.stopRamp])||A3 [u.upTime,u.downTime,u.startTime])||A3 [u.hotCost,u.coldCost,u.hotHours])||A3 [u.reserve,u.reservePrice])||A3 u.away.l)||A3 [u.hours,u.output])=(bad||RY u):=by unfold RY;simp[A3,A2k]
  rw[eB]
  refine congrArg (fun X=>K X (bad||RY u)) ?_
  simp only[Ajf,d,Ey,A2n,A10,A4a,A1r,A24,A1l,A1o,A11,A1p]
 ·simp only[A09,A1a,A1b];omega
theorem tu {u:UnitD} {b:Bool} {K:Lu→Bool→O R} (hF:FI R N) (hx:Ew) (hN:1000000000<N) (hI:UnitI 1000000000 u) (hs:Lk u.state 3=true):∀ (m j fuel:Nat) (T:Lu) (bad:Bool),j+m=u.segs.l.length→m<fuel→T.length+62*m≤130000000000000 →
  C5 N K b u.av fuel (j:Int) T bad=K (T++Ey ((u.segs.l.drop j).flatMap fN)++Ey (Ajf u)++[10]) ((bad||(u.segs.l.drop j).any fP)||RY u)
 | 0,j,fuel+1,T,bad,f,_,hT=>by
  refine(Ahn hF hx hN hI hs (by omega) (by omega)).trans ?_
  rw[show u.segs.l.drop j=[] from En (by omega),A4a,A33,A3j,show Ey []=[] from rfl,A1p]
 | m+1,j,fuel+1,T,bad,f,t,hT=>by
  have rs:∀ F:LA→Nat→O R,Bb 2 (drop 4 u.av) F=F (u.segs.l.flatMap SegD.av) u.segs.l.length:=fun F=>by
   show Bb 2 (u.segs.av 2 SegD.av::_) F=_
   rw[A9]
  have h:j<u.segs.l.length:=by omega
  have v:=hI.s.2
  have d:=hI.s.1 _ (A1q h)
  have l1:=hx _ d.1
  have l2:=hx _ d.2
  have k:∀ F:Int→O R,Aw .i64 (drop ((Int.toNat (j:Int))*2) (u.segs.l.flatMap SegD.av)) F=F (u.segs.l[j]).width:=fun F=>by rw[TU (e:=SegD.av) (sz:=2) (fun _=>rfl) h];rfl
  have n:∀ F:Int→O R,Aw .i64 (drop 1 (drop ((Int.toNat (j:Int))*2) (u.segs.l.flatMap SegD.av))) F=F (u.segs.l[j]).price:=fun F=>by rw[TU (e:=SegD.av) (sz:=2) (fun _=>rfl) h];rfl
  rw[C5];unfold J8
  rw[rs,Hf h,ct,rs,Ab h,ct,k,rs,Ab h,ct,n,LW (by omega)]
  refine Eh (l:=[(u.segs.l[j]).width,(u.segs.l[j]).price]) rfl rfl hF hx (by simp[d.1,d.2]) (by simp) hN (by omega) ?_
  have e:Ey ([(u.segs.l[j]).width,(u.segs.l[j]).price].map tx)=32::tx (u.segs.l[j]).width++(32::tx (u.segs.l[j]).price):=by simp[Ey]
  refine(tu hF hx hN hI hs m (j+1) fuel _ _ (by omega) (by omega) (by rw[e];simp only[A09,A1a];omega)).trans ?_
  rw[Db h,A10,A3p]
  have q:Ey (fN u.segs.l[j]++(u.segs.l.drop (j+1)).flatMap fN)=Ey ([(u.segs.l[j]).width,(u.segs.l[j]).price].map tx)++Ey ((u.segs.l.drop (j+1)).flatMap fN):=by unfold Ey;rw[A2n];rfl
  rw[q,←A1l T]
  show K _ (((bad||fP u.segs.l[j])||_)||_)=K _ ((bad||(fP u.segs.l[j]||_))||_)
  rw[A2k bad]
theorem Aho {c:CaseD} {u:UnitD} {g b bad:Bool} {T:Lu} {K:Lu→Bool→O R} (hF:FI R N) (hx:Ew) (hN:1000000000<N) (hI:UnitI 1000000000 u) (hs:Lk u.state 3=true) (d:Lk u.bus c.buses.l.length=true) (f:u.name.length≤16) (s1:(Bc (Cq c) u.bus).length≤16) (hT:T.length≤60000000000000) :
  Mg N c.av g u.av b T bad K=K (T++Dq (Qh (Cq c) u)) (bad||Y9 u):=by
 have hn:=hI.n
 simp only[A1j,A1v,or_false,forall_eq_or_imp,forall_eq] at hn
 obtain⟨n1,n2,_⟩:=hn
 have l1:=hx _ n1
 have l2:=hx _ n2
 have q:=hI.s.2
 rw[AQ];unfold Ph
 have r0:∀ F:Aq→O R,Li u.av F=F u.name:=fun F=>rfl
 have k:∀ F:Int→O R,Aw .i64 (drop 1 u.av) F=F u.bus:=fun F=>rfl
 rw[show ble (T.length+4) 140737488355328=true by simp;omega,ct,r0,Ep,k,KS d,ct,Ad6 d]
 refine C0 (ws:=[u.name,Bc (Cq c) u.bus,iH]) rfl rfl (by simp[f,s1,iH]) (by simp) hN (by simp only[A09,A1a,A1b];omega) ?_
 have t:(Ey [u.name,Bc (Cq c) u.bus,iH]).length≤100:=by
  have:=ED (ws:=[u.name,Bc (Cq c) u.bus,iH]) (B:=16) (by simp[f,s1,iH])
  simp only[A1a,A1b] at this;omega
 show Ah N [.int .i64 u.min] 1 false true _ _ _=_
 refine Eh (l:=[u.min]) rfl rfl hF hx (by simp[*]) (by simp) hN (by simp only[A09,A1a,A1b];omega) ?_
 have v:(Ey ([u.min].map tx)).length≤40:=by simp[Ey];omega
 refine C0 (ws:=[wi]) rfl rfl (by decide) (by simp) hN (by simp only[A09,A1a,A1b];omega) ?_
 have x:(Ey [wi]).length≤20:=by decide
 show Ah N [.int .i64 u.max] 1 false true _ _ _=_
 refine Eh (l:=[u.max]) rfl rfl hF hx (by simp[*]) (by simp) hN (by simp only[A09,A1a,A1b];omega) ?_
 have y:(Ey ([u.max].map tx)).length≤40:=by simp[Ey];omega
 refine C0 (ws:=[Xv]) rfl rfl (by decide) (by simp) hN (by simp only[A09,A1a,A1b];omega) ?_
 have z:(Ey [Xv]).length≤20:=by decide
 refine(tu hF hx hN hI hs u.segs.l.length 0 N _ _ (by omega) (by omega) (by simp only[A09,A1a,A1b];omega)).trans ?_
 rw[A1z]
 have eB:((((bad||A3 [u.min])||A3 [u.max])||u.segs.l.any fP)||RY u)=(bad||Y9 u):=by unfold Y9 RY;simp[A3,A2k]
 have eW:Qh (Cq c) u=Jj::([u.name,Bc (Cq c) u.bus,iH]++([u.min].map tx++([wi]++([u.max].map tx++([Xv]++(u.segs.l.flatMap fN++Ajf u)))))):=rfl
 rw[eB,eW,Dq,Ho]
 refine congrArg (fun X=>K X (bad||Y9 u)) ?_
 simp only[Ey,A2n,A1l]
 rfl
theorem tv {c:CaseD} {o:OutD} {d f b:Bool} {K:Lu→Bool→O R} (hF:FI R N) (hx:Ew) (hN:1000000000<N) (hI:OutI 1000000000 o) (hU:∀ s ∈ Ei c,s.length≤16) (n:∀ m ∈ o.moves.l,Lk m.unit c.units.l.length=true):∀ (m j fuel:Nat) (T:Lu) (bad:Bool),j+m=o.moves.l.length→m<fuel→T.length+79*m≤130000000000000 →
  D8 N K d c.av f o.av b fuel (j:Int) T bad=K (T++Ey ((o.moves.l.drop j).flatMap (AD (Ei c)))++[10]) (bad||(o.moves.l.drop j).any iK)
 | 0,j,fuel+1,T,bad,q,_,hT=>by
  have rs:∀ F:LA→Nat→O R,Bb 3 (drop 3 o.av) F=F (o.moves.l.flatMap MoveD.av) o.moves.l.length:=fun F=>by
   show Bb 3 (o.moves.av 3 MoveD.av::_) F=_
   rw[A9]
  rw[D8];unfold H5
  rw[rs,Hy (by omega),cf,show ble (T.length+1) 140737488355328=true by simp;omega,ct,show o.moves.l.drop j=[] from En (by omega),A33,A3j,A4a,show Ey []=[] from rfl,A1p]
 | m+1,j,fuel+1,T,bad,q,x,hT=>by
  have rs:∀ F:LA→Nat→O R,Bb 3 (drop 3 o.av) F=F (o.moves.l.flatMap MoveD.av) o.moves.l.length:=fun F=>by
   show Bb 3 (o.moves.av 3 MoveD.av::_) F=_
   rw[A9]
  have h:j<o.moves.l.length:=by omega
  have y:=hI.m.2
  have k:=hI.m.1 _ (A1q h)
  have hq:=n _ (A1q h)
  have l1:=hx _ k.1
  have l2:=hx _ k.2
  have l3:=Dd hU (o.moves.l[j]).unit
  have r0:∀ F:Int→O R,Aw .i64 (drop ((Int.toNat (j:Int))*3) (o.moves.l.flatMap MoveD.av)) F=F (o.moves.l[j]).unit:=fun F=>by rw[TU (e:=MoveD.av) (sz:=3) (fun _=>rfl) h];rfl
  have t:∀ F:Int→O R,Aw .i64 (drop 1 (drop ((Int.toNat (j:Int))*3) (o.moves.l.flatMap MoveD.av))) F=F (o.moves.l[j]).up:=fun F=>by rw[TU (e:=MoveD.av) (sz:=3) (fun _=>rfl) h];rfl
  have u:∀ F:Int→O R,Aw .i64 (drop 2 (drop ((Int.toNat (j:Int))*3) (o.moves.l.flatMap MoveD.av))) F=F (o.moves.l[j]).down:=fun F=>by rw[TU (e:=MoveD.av) (sz:=3) (fun _=>rfl) h];rfl
  rw[D8];unfold H5
  rw[rs,Hf h,ct,Jw,rs,Ab h,ct,r0,KS hq,ct,Axg hq]
  refine C0 (ws:=[Bc (Ei c) (o.moves.l[j]).unit]) rfl rfl (by simp[l3]) (by simp) hN (by omega) ?_
  rw[rs,Ab h,ct,t,rs,Ab h,ct,u,LW (by omega)]
  have e1:Ey [Bc (Ei c) (o.moves.l[j]).unit]=32::Bc (Ei c) (o.moves.l[j]).unit:=by simp[Ey]
  refine Eh (l:=[(o.moves.l[j]).up,(o.moves.l[j]).down]) rfl rfl hF hx (by simp[k.1,k.2]) (by simp) hN (by rw[e1];simp only[A09,A1a];omega) ?_
  have e:Ey ([(o.moves.l[j]).up,(o.moves.l[j]).down].map tx)=32::tx (o.moves.l[j]).up++(32::tx (o.moves.l[j]).down):=by simp[Ey]
  refine(tv hF hx hN hI hU n m (j+1) fuel _ _ (by omega) (by omega) (by rw[e,e1];simp only[A09,A1a];omega)).trans ?_
  rw[Db h,A10,A3p]
  have v:Ey (AD (Ei c) o.moves.l[j]++(o.moves.l.drop (j+1)).flatMap (AD (Ei c)))=Ey [Bc (Ei c) (o.moves.l[j]).unit]++(Ey ([(o.moves.l[j]).up,(o.moves.l[j]).down].map tx)++Ey ((o.moves.l.drop (j+1)).flatMap (AD (Ei c)))):=by unfold Ey;rw[A2n];simp[AD]
  rw[v,←A1l T,←A1l (T++_)]
  show K _ ((bad||iK o.moves.l[j])||_)=K _ (bad||(iK o.moves.l[j]||_))
  rw[A2k bad]
theorem tz {c:CaseD} {o:OutD} {d f bad:Bool} {K:Lu→Bool→O R} (hF:FI R N) (hx:Ew) (hN:1000000000<N) (hI:OutI 1000000000 o) (hL:∀ s ∈ F4 c,s.length≤16) (hU:∀ s ∈ Ei c,s.length≤16) (n:∀ l ∈ o.lines.l,Lk l c.lines.l.length=true) (q:∀ m ∈ o.moves.l,Lk m.unit c.units.l.length=true) (k:xR o=true):∀ (m j fuel:Nat) (T:Lu),j+m=o.lines.l.length→m<fuel→T.length+17*m≤110000000000000 →
  C9 N K bad d c.av f o.av fuel (j:Int) T=K (T++Ey ((o.lines.l.drop j).map (Bc (F4 c))++(cond o.corr [B5] []++o.moves.l.flatMap (AD (Ei c))))++[10]) (bad||Qi o)
 | 0,j,fuel+1,T,t,_,hT=>by
  have rl:∀ F:LA→Nat→O R,Bb 1 (drop 1 o.av) F=F (Ax o.lines.l) o.lines.l.length:=fun F=>by
   show Bb 1 (o.lines.av 1 F3::_) F=_
   rw[A9,Cc]
  rw[C9];unfold H6
  rw[rl,Hy (by omega),cf,show o.lines.l.drop j=[] from En (by omega)]
  show cond o.corr _ _=_
  unfold xR at k
  cases u:o.corr with
  | true =>
   rw[ct]
   refine C0 (ws:=[B5]) rfl rfl (by decide) (by simp) hN (by omega) ?_
   have x:(Ey [B5]).length≤20:=by decide
   have y:=hI.m.2
   refine(tv hF hx hN hI hU q o.moves.l.length 0 N _ bad (by omega) (by omega) (by simp only[A09];omega)).trans ?_
   rw[A1z]
   show K _ (bad||Qi o)=_
   refine congrArg (fun X=>K X (bad||Qi o)) ?_
   simp[Ey]
  | false =>
   rw[u,A2v,List.isEmpty_iff] at k
   rw[cf,show ble (T.length+1) 140737488355328=true by simp;omega,ct]
   have:Qi o=false:=by unfold Qi;rw[k];rfl
   rw[this,k,A3j]
   refine congrArg (fun X=>K X bad) ?_
   simp[Ey]
 | m+1,j,fuel+1,T,t,z,hT=>by
  have rl:∀ F:LA→Nat→O R,Bb 1 (drop 1 o.av) F=F (Ax o.lines.l) o.lines.l.length:=fun F=>by
   show Bb 1 (o.lines.av 1 F3::_) F=_
   rw[A9,Cc]
  have h:j<o.lines.l.length:=by omega
  have v:=hI.l
  have hq:=n _ (A1q h)
  have l3:=Dd hL o.lines.l[j]
  rw[C9];unfold H6
  rw[rl,Hf h,ct,G6,rl,Ab h,ct,S_ h,KS hq,ct,Axf hq]
  refine C0 (ws:=[Bc (F4 c) o.lines.l[j]]) rfl rfl (by simp[l3]) (by simp) hN (by omega) ?_
  have e1:Ey [Bc (F4 c) o.lines.l[j]]=32::Bc (F4 c) o.lines.l[j]:=by simp[Ey]
  rw[LW (by omega)]
  refine(tz hF hx hN hI hL hU n q k m (j+1) fuel _ (by omega) (by omega) (by rw[e1];simp only[A09,A1a];omega)).trans ?_
  rw[Db h,A1r,e1]
  refine congrArg (fun X=>K X (bad||Qi o)) ?_
  rw[A1o,HU]
  simp only[A1l,A1o]
end
end Gx.Ct
namespace Gx.Ct
open Go Go.Proofs Gx.Cf
theorem Alw {R:Type} {N:Nat} {c:CaseD} {o:OutD} {d f bad:Bool} {T:Lu} {K:Lu→Bool→O R} (hF:FI R N) (hx:Ew) (hN:1000000000<N) (hI:OutI 1000000000 o) (hL:∀ s ∈ F4 c,s.length≤16) (hU:∀ s ∈ Ei c,s.length≤16) (q:∀ l ∈ o.lines.l,Lk l c.lines.l.length=true) (t:∀ m ∈ o.moves.l,Lk m.unit c.units.l.length=true) (k:xR o=true) (n:o.name.length≤16) (hT:T.length≤60000000000000) :
  Ix N c.av d o.av f T bad K=K (T++Dq (Xx (F4 c) (Ei c) o)) (bad||Qi o):=by
 rw[Vv];unfold Ls
 have r0:∀ F:Aq→O R,Li o.av F=F o.name:=fun F=>rfl
 rw[show ble (T.length+6) 140737488355328=true by simp;omega,ct,r0]
 have v:(Ey [o.name,IP]).length≤100:=by
  have:=ED (ws:=[o.name,IP]) (B:=16) (by simp[n,IP])
  simp only[A1a,A1b] at this;omega
 have u:=hI.l
 refine C0 (ws:=[o.name,IP]) rfl rfl (by simp[n,IP]) (by simp) hN (by simp only[A09,A1a,A1b];omega) ?_
 refine(tz hF hx hN hI hL hU q t k o.lines.l.length 0 N _ (by omega) (by omega) (by simp only[A09,A1a,A1b];omega)).trans ?_
 refine congrArg (fun X=>K X (bad||Qi o)) ?_
 rw[A1z,Dq]
 unfold Xx
 rw[A1o,Ho]
 simp[Ey,Dt]
def sh (x:Aq):Prop:=x.length≤61
theorem mM {x:Aq} (h:x.length≤16):sh x:=A3f h (by decide)
theorem YO (hx:Ew) {z:Int} (h:FQ z):sh (tx z):=A3f (hx z h) (by decide)
theorem fx (hx:Ew) {l:List Int} (h:∀ z ∈ l,FQ z):∀ x ∈ l.map tx,sh x:=fun x d=>by
 obtain⟨z,f,rfl⟩:=A1y.1 d;exact YO hx (h z f)
theorem Yt {ws:List Aq} (h:∀ x ∈ ws,sh x) (hn:ws.length≤4000000100):(Dq ws).length≤300000000000:=by
 rw[Dq,A09]
 cases ws with
 | nil=>simp[wj]
 | cons w r =>
  rw[Ho,A09]
  have f:w.length≤61:=h w (by simp)
  have d:(Ey r).length≤62*r.length:=ED (B:=61) fun x hx=>h x (by simp[hx])
  unfold Ey at d
  simp only[A1a,A1b] at hn ⊢
  omega
theorem N2 (w:Aq) (d:decide (w.length≤61)):sh w:=by simpa[sh] using d
theorem Ao9 (l:List SegD):(l.flatMap fN).length=2*l.length:=by
 induction l with
 | nil=>rfl
 | cons a r d=>rw[A10,A09,d,A1a,show(fN a).length=2 from rfl];omega
theorem Alx (U:List Aq) (l:List MoveD):(l.flatMap (AD U)).length=3*l.length:=by
 induction l with
 | nil=>rfl
 | cons a r d=>rw[A10,A09,d,A1a,show(AD U a).length=3 from rfl];omega
theorem Ahp (s:Int):(Xw s).length≤1:=by unfold Xw;split;decide;split;decide;split<;>decide
theorem Aly (s:Int):∀ x ∈ Xw s,sh x:=fun x hx=>by
 unfold Xw at hx
 split at hx
 ·rw[A2s] at hx;subst hx;exact N2 _ (by decide)
 ·split at hx
  ·rw[A2s] at hx;subst hx;exact N2 _ (by decide)
  ·split at hx
   ·rw[A2s] at hx;subst hx;exact N2 _ (by decide)
   ·cases hx
section
variable {c:CaseD} (hx:Ew) (h:Ready 1000000000 c)
include hx h
theorem Alz:(Dq (nf c)).length≤300000000000:=by
 have hr:=h.i.r
 refine Yt (fun x d=>?_) (by have:=hr.2;simp[nf];omega)
 unfold nf at d
 simp only[A1j,A1k,A1v,or_false,or_assoc] at d
 rcases d with rfl | rfl | rfl | d
 ·exact N2 _ (by decide)
 ·exact YO hx h.i.h
 ·exact N2 _ (by decide)
 ·exact fx hx hr.1 _ d
theorem Apa {b:BusD} (k:b ∈ c.buses.l):(Dq (bR b)).length≤300000000000:=by
 have hI:=h.i.b b k
 have hr:=hI.d
 refine Yt (fun x f=>?_) (by have:=hr.2;simp[bR];omega)
 unfold bR at f
 simp only[A1j,A1k,A1v,or_false,or_assoc] at f
 rcases f with rfl | rfl | rfl | f | rfl | rfl
 ·exact N2 _ (by decide)
 ·exact mM (h.bn _ (A1y.2 ⟨b,k,rfl⟩))
 ·exact N2 _ (by decide)
 ·exact fx hx hr.1 _ f
 ·exact N2 _ (by decide)
 ·exact YO hx hI.s
theorem Al0 {l:LineD} (f:l ∈ c.lines.l):(Dq (Uk (Cq c) l)).length≤300000000000:=by
 have hI:=h.i.l l f
 refine Yt (fun x d=>?_) (by have:=hI.a.2;simp[Uk];omega)
 unfold Uk at d
 simp only[A1j,A1k,A1v,or_false,or_assoc] at d
 rcases d with rfl | rfl | rfl | rfl | rfl | rfl | rfl | rfl | rfl | rfl | rfl | rfl | rfl | d
 ·exact N2 _ (by decide)
 ·exact mM (h.ln _ (A1y.2 ⟨l,f,rfl⟩))
 ·exact mM (Dd h.bn _)
 ·exact mM (Dd h.bn _)
 ·exact N2 _ (by decide)
 ·exact BH hx hI.f1.1 hI.f1.2
 ·exact N2 _ (by decide)
 ·exact BH hx hI.f2.1 hI.f2.2
 ·exact BH hx hI.f3.1 hI.f3.2
 ·exact N2 _ (by decide)
 ·exact YO hx hI.n.1
 ·exact YO hx hI.n.2
 ·exact N2 _ (by decide)
 ·exact fx hx hI.a.1 _ d
theorem Al1 {u:UnitD} (f:u ∈ c.units.l):(Dq (Qh (Cq c) u)).length≤300000000000:=by
 have hI:=h.i.u u f
 have ln:=Ahp u.state
 refine Yt (fun x d=>?_) (by
  have:=hI.a.2
  have:=hI.s.2
  unfold Qh
  simp only[A09,A1a,A1b,Ao9,A1i];omega)
 unfold Qh at d
 simp only[A1j,A1k,A1v,or_false,or_assoc,A4i] at d
 rcases d with rfl | rfl | rfl | rfl | rfl | rfl | rfl | rfl | ⟨s,hs,d⟩ | rfl | rfl | rfl | rfl | rfl | rfl | rfl | rfl | rfl | rfl | rfl | rfl | rfl | rfl | rfl | rfl | rfl | rfl | rfl | rfl | rfl | d | rfl | d | rfl | rfl
 all_goals first
  | exact N2 _ (by decide)
  | exact YO hx (hI.n _ (by simp))
  | exact mM (h.un _ (A1y.2 ⟨u,f,rfl⟩))
  | exact mM (Dd h.bn _)
  | exact fx hx hI.a.1 _ d
  | exact Aly _ _ d
  | skip
 simp only[fN,A1j,A1v,or_false,or_assoc] at d
 rcases d with rfl | rfl
 ·exact YO hx (hI.s.1 s hs).1
 ·exact YO hx (hI.s.1 s hs).2
theorem Ahq {s:StoreD} (f:s ∈ c.stores.l):(Dq (Ku (Cq c) s)).length≤300000000000:=by
 have hI:=h.i.s s f
 refine Yt (fun x d=>?_) (by simp[Ku])
 unfold Ku at d
 simp only[A1j,A1v,or_false,or_assoc] at d
 rcases d with rfl | rfl | rfl | rfl | rfl | rfl | rfl | rfl | rfl | rfl | rfl | rfl | rfl
 all_goals first
  | exact N2 _ (by decide)
  | exact YO hx (hI.n _ (by simp))
  | exact mM (h.sn _ (A1y.2 ⟨s,f,rfl⟩))
  | exact mM (Dd h.bn _)
  | exact BH hx (hI.n _ (by simp)) (hI.n _ (by simp))
theorem Apb {t:TieD} (f:t ∈ c.ties.l):(Dq (HY (Cq c) t)).length≤300000000000:=by
 have hI:=h.i.t t f
 refine Yt (fun x d=>?_) (by have:=hI.i.2;have:=hI.e.2;have:=hI.p.2;simp[HY];omega)
 unfold HY at d
 simp only[A1j,A1k,A1v,or_false,or_assoc] at d
 rcases d with rfl | rfl | rfl | rfl | d | rfl | d | rfl | d
 all_goals first
  | exact N2 _ (by decide)
  | exact mM (h.tn _ (A1y.2 ⟨t,f,rfl⟩))
  | exact mM (Dd h.bn _)
  | exact fx hx hI.i.1 _ d
  | exact fx hx hI.e.1 _ d
  | exact fx hx hI.p.1 _ d
theorem Apc {o:OutD} (k:o ∈ c.outs.l):(Dq (Xx (F4 c) (Ei c) o)).length≤300000000000:=by
 have hI:=h.i.o o k
 refine Yt (fun x d=>?_) (by
  have:=hI.l
  have:=hI.m.2
  have:(cond o.corr [B5] ([]:List Aq)).length≤1:=by cases o.corr<;>decide
  unfold Xx
  simp only[A09,A1a,A1b,Alx,A1i];omega)
 unfold Xx at d
 simp only[A1j,A1k,A1v,or_false,or_assoc,A1y,A4i] at d
 rcases d with rfl | rfl | rfl | ⟨l,q,rfl⟩ | d | ⟨m,f,d⟩
 ·exact N2 _ (by decide)
 ·exact mM (h.on _ (A1y.2 ⟨o,k,rfl⟩))
 ·exact N2 _ (by decide)
 ·exact mM (Dd h.ln _)
 ·cases n:o.corr<;>rw[n] at d
  ·cases d
  ·rw[cond_true,A2s] at d;subst d;exact N2 _ (by decide)
 ·simp only[AD,A1j,A1v,or_false,or_assoc] at d
  rcases d with rfl | rfl | rfl
  ·exact mM (Dd h.un _)
  ·exact YO hx (hI.m.1 m f).1
  ·exact YO hx (hI.m.1 m f).2
end
end Gx.Ct
namespace Gx.Ct
open Go Go.Proofs Gx.Cf
section
variable {R:Type} {N:Nat} {c:CaseD} {a:Bool} {K:List UInt8→Bool→O R}
theorem Ready.ks {c:CaseD} (h:Ready 1000000000 c):∀ u ∈ c.units.l,Lk u.state 3=true:=by
 have d:=h.k
 unfold Qj at d
 simp only[A1f,A1u] at d
 exact fun u f=>(d.2.1 u f).2
theorem Ajp {n m:Nat} (h:n≤60000000000000) (d:m≤1000):ble (n+m) 140737488355328=true:=by simp;omega
theorem EN (ws:List Aq) (r:List (List Aq)):(ws::r).flatMap Dq=Dq ws++r.flatMap Dq:=rfl
theorem uA (hF:FI R N) (hx:Ew) (hN:1000000000<N) (h:Ready 1000000000 c) (k:I9 c=true):∀ (m j fuel:Nat) (T:Lu) (bad:Bool),j+m=c.outs.l.length→m<fuel→T.length+300000000000*(m)≤60000000000000 →
  Fm N K (c.outs.l.flatMap OutD.av) c.outs.l.length a c.av fuel (c.outs.l.length:Int) (j:Int) T bad =
   K (T++((c.outs.l.drop j).map (Xx (F4 c) (Ei c))).flatMap Dq) (bad||((c.outs.l.drop j).any Qi))
 | 0,j,fuel+1,T,bad,n,_,hT=>by
  rw[Fm];unfold J9
  have q:=h.cnt
  rw[Hy (by omega),cf,show c.outs.l.drop j=[] from En (by omega),A24,A33]
  show K _ _=K (T++[]) (bad||false)
  rw[A3j,A1p]
 | m+1,j,fuel+1,T,bad,n,t,hT=>by
  rw[Fm];unfold J9
  have d:j<c.outs.l.length:=by omega
  have q:=h.cnt
  have f:(c.outs.l[j]) ∈ c.outs.l:=A1q d
  have u:=Apc hx h f
  have hT':T.length≤59700000000000:=by omega
  rw[Hf d,ct,Ab d,ct,Hd (e:=OutD.av) (sz:=4) (fun _=>rfl) d,ct,D2 (e:=OutD.av) (sz:=4) (fun _=>rfl) d,show((beq 0 0)&&((beq ((OutD.av c.outs.l[j]).length) 4)&&(beq 4 4)))=true from rfl,ct]
  have s:=fun bad=>uA hF hx hN h k m (j+1) fuel (T++Dq (Xx (F4 c) (Ei c) c.outs.l[j])) bad (by omega) (by omega) (by rw[A09];omega)
  rw[Db d,A1r,A3p,EN,←A1l]
  rw[Hq,ct,show ble 4 (OutD.av c.outs.l[j]).length=true from rfl,ct,Dc,show take 4 (OutD.av c.outs.l[j])=OutD.av c.outs.l[j] from rfl,Alw hF hx hN (h.i.o _ f) h.ln h.un (h.kn.2.2.2.2 _ f).1 (h.kn.2.2.2.2 _ f).2 (A1u.1 k _ f) (h.on _ (A1y.2 ⟨_,f,rfl⟩)) (by omega),LW (by omega)]
  refine(s _).trans ?_
  rw[A2k]
theorem uB (hF:FI R N) (hx:Ew) (hN:1000000000<N) (h:Ready 1000000000 c) (f:I9 c=true):∀ (m j fuel:Nat) (T:Lu) (bad:Bool),j+m=c.ties.l.length→m<fuel→T.length+300000000000*(m+c.outs.l.length)≤60000000000000 →
  Dw N K (c.ties.l.flatMap TieD.av) c.ties.l.length a c.av fuel (c.ties.l.length:Int) (j:Int) T bad =
   K (T++((c.ties.l.drop j).map (HY (Cq c))++(c.outs.l.map (Xx (F4 c) (Ei c)))).flatMap Dq) (bad||((c.ties.l.drop j).any FP||(c.outs.l.any Qi)))
 | 0,j,fuel+1,T,bad,s,_,hT=>by
  rw[Dw];unfold Ka
  have u:=h.cnt
  rw[Hy (by omega),cf,show c.ties.l.drop j=[] from En (by omega),A24,A33]
  rw[M4]
  refine(uA (a:=a) hF hx hN h f c.outs.l.length 0 N T bad (by omega) (by omega) (by omega)).trans ?_
  rw[A1z,A2v];rfl
 | m+1,j,fuel+1,T,bad,s,x,hT=>by
  rw[Dw];unfold Ka
  have d:j<c.ties.l.length:=by omega
  have u:=h.cnt
  have k:(c.ties.l[j]) ∈ c.ties.l:=A1q d
  have y:=Apb hx h k
  have hT':T.length≤59700000000000:=by omega
  rw[Hf d,ct,Ab d,ct,Hd (e:=TieD.av) (sz:=5) (fun _=>rfl) d,ct,D2 (e:=TieD.av) (sz:=5) (fun _=>rfl) d,show((beq 0 0)&&((beq ((TieD.av c.ties.l[j]).length) 5)&&(beq 5 5)))=true from rfl,ct]
  have v:=fun bad=>uB hF hx hN h f m (j+1) fuel (T++Dq (HY (Cq c) c.ties.l[j])) bad (by omega) (by omega) (by rw[A09];omega)
  rw[Db d,A1r,A3p,A1o,EN,←A1l]
  have hI:=h.i.t _ k
  have n:=h.kn.2.2.2.1 _ k
  have q:(c.ties.l[j]).name.length≤16:=h.tn _ (A1y.2 ⟨_,k,rfl⟩)
  have s1:=Dd h.bn (c.ties.l[j]).bus
  rw[Ajp (by omega) (by decide),ct,show ∀ F:Aq→O R,Li (c.ties.l[j]).av F=F (c.ties.l[j]).name from fun _=>rfl,Ep]
  show cond (Ag (c.ties.l[j]).bus c.buses.l.length) _ none=_
  rw[KS n,ct,Ad6 n]
  refine C0 (ws:=[(c.ties.l[j]).name,Bc (Cq c) (c.ties.l[j]).bus,AC]) rfl rfl (by simp[q,s1,AC]) (by simp) hN (by simp only[A09,A1a,A1b];omega) ?_
  have z:(Ey [(c.ties.l[j]).name,Bc (Cq c) (c.ties.l[j]).bus,AC]).length≤100:=by
   have:=ED (ws:=[(c.ties.l[j]).name,Bc (Cq c) (c.ties.l[j]).bus,AC]) (B:=16) (by simp[q,s1,AC])
   simp only[A1a,A1b] at this;omega
  show Bb 1 ((c.ties.l[j]).imp.av 1 F3::_) _=_
  rw[A9,Cc]
  refine Eh rfl rfl hF hx hI.i.1 hI.i.2 hN (by simp only[A09,A1a,A1b];omega) ?_
  have A:(Ey ((c.ties.l[j]).imp.l.map tx)).length≤31*(c.ties.l[j]).imp.l.length:=Lg hx hI.i.1
  have C:=hI.i.2
  refine C0 (ws:=[WB]) rfl rfl (by decide) (by simp) hN (by simp only[A09,A1a,A1b];omega) ?_
  have D:(Ey [WB]).length≤20:=by decide
  show Bb 1 ((c.ties.l[j]).exp.av 1 F3::_) _=_
  rw[A9,Cc]
  refine Eh rfl rfl hF hx hI.e.1 hI.e.2 hN (by simp only[A09,A1a,A1b];omega) ?_
  have G:(Ey ((c.ties.l[j]).exp.l.map tx)).length≤31*(c.ties.l[j]).exp.l.length:=Lg hx hI.e.1
  have I:=hI.e.2
  refine C0 (ws:=[iJ]) rfl rfl (by decide) (by simp) hN (by simp only[A09,A1a,A1b];omega) ?_
  have M:(Ey [iJ]).length≤20:=by decide
  show Bb 1 ((c.ties.l[j]).price.av 1 F3::_) _=_
  rw[A9,Cc]
  refine Eh rfl rfl hF hx hI.p.1 hI.p.2 hN (by simp only[A09,A1a,A1b];omega) ?_
  have S:(Ey ((c.ties.l[j]).price.l.map tx)).length≤31*(c.ties.l[j]).price.l.length:=Lg hx hI.p.1
  have U:=hI.p.2
  rw[show ∀ X:Lu,X.length≤140000000000000→ble (X.length+1) 140737488355328=true from fun X h=>by simp;omega,ct]
  ·rw[LW (by omega)]
   have eB:(((bad||A3 (c.ties.l[j]).imp.l)||A3 (c.ties.l[j]).exp.l)||A3 (c.ties.l[j]).price.l)=(bad||FP c.ties.l[j]):=by unfold FP;simp[A2k]
   rw[eB]
   refine A4g ?_ ((v (bad||FP c.ties.l[j])).trans ?_)
   ·refine congrArg (fun X=>Dw N K _ _ _ _ fuel _ _ X _) ?_
    rw[Dq]
    unfold HY
    simp only[A1o,Ho,A1l]
    simp[Ey,R7]
   ·simp only[A2k]
  ·simp only[A09,A1a,A1b];omega
theorem jn (hF:FI R N) (hx:Ew) (hN:1000000000<N) (h:Ready 1000000000 c) (f:I9 c=true):∀ (m j fuel:Nat) (T:Lu) (bad:Bool),j+m=c.stores.l.length→m<fuel→T.length+300000000000*(m+(c.ties.l.length+c.outs.l.length))≤60000000000000 →
  Dx N K (c.stores.l.flatMap StoreD.av) c.stores.l.length a c.av fuel (c.stores.l.length:Int) (j:Int) T bad =
   K (T++((c.stores.l.drop j).map (Ku (Cq c))++(c.ties.l.map (HY (Cq c))++(c.outs.l.map (Xx (F4 c) (Ei c))))).flatMap Dq) (bad||((c.stores.l.drop j).any Sr||(c.ties.l.any FP||(c.outs.l.any Qi))))
 | 0,j,fuel+1,T,bad,u,_,hT=>by
  rw[Dx];unfold Kb
  have v:=h.cnt
  rw[Hy (by omega),cf,show c.stores.l.drop j=[] from En (by omega),A24,A33]
  rw[Tl]
  refine(uB (a:=a) hF hx hN h f c.ties.l.length 0 N T bad (by omega) (by omega) (by omega)).trans ?_
  rw[A1z,A2v];rfl
 | m+1,j,fuel+1,T,bad,u,y,hT=>by
  rw[Dx];unfold Kb
  have d:j<c.stores.l.length:=by omega
  have v:=h.cnt
  have k:(c.stores.l[j]) ∈ c.stores.l:=A1q d
  have z:=Ahq hx h k
  have hT':T.length≤59700000000000:=by omega
  rw[Hf d,ct,Ab d,ct,Hd (e:=StoreD.av) (sz:=9) (fun _=>rfl) d,ct,D2 (e:=StoreD.av) (sz:=9) (fun _=>rfl) d,show((beq 0 0)&&((beq ((StoreD.av c.stores.l[j]).length) 9)&&(beq 9 9)))=true from rfl,ct]
  have x:=fun bad=>jn hF hx hN h f m (j+1) fuel (T++Dq (Ku (Cq c) c.stores.l[j])) bad (by omega) (by omega) (by rw[A09];omega)
  rw[Db d,A1r,A3p,A1o,EN,←A1l]
  have hn:=(h.i.s _ k).n
  simp only[A1j,A1v,or_false,forall_eq_or_imp,forall_eq] at hn
  obtain⟨n1,n2,n3,n4,n5,n6,n7⟩:=hn
  have q:=h.kn.2.2.1 _ k
  have t:(c.stores.l[j]).name.length≤16:=h.sn _ (A1y.2 ⟨_,k,rfl⟩)
  have s1:=Dd h.bn (c.stores.l[j]).bus
  rw[Ajp (by omega) (by decide),ct,show ∀ F:Aq→O R,Li (c.stores.l[j]).av F=F (c.stores.l[j]).name from fun _=>rfl,Ep]
  show cond (Ag (c.stores.l[j]).bus c.buses.l.length) _ none=_
  rw[KS q,ct,Ad6 q]
  refine C0 (ws:=[(c.stores.l[j]).name,Bc (Cq c) (c.stores.l[j]).bus,Qg]) rfl rfl (by simp[t,s1,Qg]) (by simp) hN (by simp only[A09,A1a,A1b];omega) ?_
  have A:(Ey [(c.stores.l[j]).name,Bc (Cq c) (c.stores.l[j]).bus,Qg]).length≤100:=by
   have:=ED (ws:=[(c.stores.l[j]).name,Bc (Cq c) (c.stores.l[j]).bus,Qg]) (B:=16) (by simp[t,s1,Qg])
   simp only[A1a,A1b] at this;omega
  show Ah N [.int .i64 (c.stores.l[j]).capacity] 1 false true _ _ _=_
  refine Eh (l:=[(c.stores.l[j]).capacity]) rfl rfl hF hx (by simp[*]) (by simp) hN (by simp only[A09,A1a,A1b];omega) ?_
  have C:(Ey ([(c.stores.l[j]).capacity].map tx)).length≤100:=by
   have:=Lg (l:=[(c.stores.l[j]).capacity]) hx (by simp[*])
   simp only[A1a,A1b] at this;omega
  refine C0 (ws:=[iI]) rfl rfl (by decide) (by simp) hN (by simp only[A09,A1a,A1b];omega) ?_
  have D:(Ey [iI]).length≤20:=by decide
  show Ah N [.int .i64 (c.stores.l[j]).initial,.int .i64 (c.stores.l[j]).final] 2 false true _ _ _=_
  refine Eh (l:=[(c.stores.l[j]).initial,(c.stores.l[j]).final]) rfl rfl hF hx (by simp[*]) (by simp) hN (by simp only[A09,A1a,A1b];omega) ?_
  have G:(Ey ([(c.stores.l[j]).initial,(c.stores.l[j]).final].map tx)).length≤100:=by
   have:=Lg (l:=[(c.stores.l[j]).initial,(c.stores.l[j]).final]) hx (by simp[*])
   simp only[A1a,A1b] at this;omega
  refine C0 (ws:=[sG]) rfl rfl (by decide) (by simp) hN (by simp only[A09,A1a,A1b];omega) ?_
  have I:(Ey [sG]).length≤20:=by decide
  show Ah N [.int .i64 (c.stores.l[j]).charge,.int .i64 (c.stores.l[j]).discharge] 2 false true _ _ _=_
  refine Eh (l:=[(c.stores.l[j]).charge,(c.stores.l[j]).discharge]) rfl rfl hF hx (by simp[*]) (by simp) hN (by simp only[A09,A1a,A1b];omega) ?_
  have M:(Ey ([(c.stores.l[j]).charge,(c.stores.l[j]).discharge].map tx)).length≤100:=by
   have:=Lg (l:=[(c.stores.l[j]).charge,(c.stores.l[j]).discharge]) hx (by simp[*])
   simp only[A1a,A1b] at this;omega
  refine C0 (ws:=[Vf]) rfl rfl (by decide) (by simp) hN (by simp only[A09,A1a,A1b];omega) ?_
  have S:(Ey [Vf]).length≤20:=by decide
  show cond true (cond (!a||A2 [AV.int .i64 (c.stores.l[j]).eff.num,.int .i64 (c.stores.l[j]).eff.den]) (cond true (C3 N [.int .i64 (c.stores.l[j]).eff.num,.int .i64 (c.stores.l[j]).eff.den] 1 false true _ _ _) none) none) none=_
  rw[ct,show(!a||A2 [AV.int .i64 (c.stores.l[j]).eff.num,.int .i64 (c.stores.l[j]).eff.den])=true by cases a<;>rfl,ct,ct]
  refine tt (fs:=[(c.stores.l[j]).eff]) rfl rfl hF hx (by simp[n6,n7]) (by simp) hN (by simp only[A09,A1a,A1b];omega) ?_
  have L1:=BH hx n6 n7
  have U:(Ey ([(c.stores.l[j]).eff].map Lj)).length≤62:=by simp[Ey];omega
  rw[show ∀ X:Lu,X.length≤140000000000000→ble (X.length+1) 140737488355328=true from fun X h=>by simp;omega,ct]
  ·rw[LW (by omega)]
   have eB:((((bad||A3 [(c.stores.l[j]).capacity])||A3 [(c.stores.l[j]).initial,(c.stores.l[j]).final])||A3 [(c.stores.l[j]).charge,(c.stores.l[j]).discharge])||[(c.stores.l[j]).eff].any H2)=(bad||Sr c.stores.l[j]):=by unfold Sr;simp[A3,A2k]
   rw[eB]
   refine A4g ?_ ((x (bad||Sr c.stores.l[j])).trans ?_)
   ·refine congrArg (fun X=>Dx N K _ _ _ _ fuel _ _ X _) ?_
    rw[Dq]
    unfold Ku
    simp only[A1o,Ho,A1l]
    simp[Ey,F1]
   ·simp only[A2k]
  ·simp only[A09,A1a,A1b];omega
theorem ot (hF:FI R N) (hx:Ew) (hN:1000000000<N) (h:Ready 1000000000 c) (f:I9 c=true):∀ (m j fuel:Nat) (T:Lu) (bad:Bool),j+m=c.units.l.length→m<fuel→T.length+300000000000*(m+(c.stores.l.length+(c.ties.l.length+c.outs.l.length)))≤60000000000000 →
  Fn N K (c.units.l.flatMap UnitD.av) c.units.l.length a c.av fuel (c.units.l.length:Int) (j:Int) T bad =
   K (T++((c.units.l.drop j).map (Qh (Cq c))++(c.stores.l.map (Ku (Cq c))++(c.ties.l.map (HY (Cq c))++(c.outs.l.map (Xx (F4 c) (Ei c)))))).flatMap Dq) (bad||((c.units.l.drop j).any Y9||(c.stores.l.any Sr||(c.ties.l.any FP||(c.outs.l.any Qi)))))
 | 0,j,fuel+1,T,bad,n,_,hT=>by
  rw[Fn];unfold Kc
  have q:=h.cnt
  rw[Hy (by omega),cf,show c.units.l.drop j=[] from En (by omega),A24,A33]
  rw[Mb]
  refine(jn (a:=a) hF hx hN h f c.stores.l.length 0 N T bad (by omega) (by omega) (by omega)).trans ?_
  rw[A1z,A2v];rfl
 | m+1,j,fuel+1,T,bad,n,t,hT=>by
  rw[Fn];unfold Kc
  have d:j<c.units.l.length:=by omega
  have q:=h.cnt
  have k:(c.units.l[j]) ∈ c.units.l:=A1q d
  have v:=Al1 hx h k
  have hT':T.length≤59700000000000:=by omega
  rw[Hf d,ct,Ab d,ct,Hd (e:=UnitD.av) (sz:=22) (fun _=>rfl) d,ct,D2 (e:=UnitD.av) (sz:=22) (fun _=>rfl) d,show((beq 0 0)&&((beq ((UnitD.av c.units.l[j]).length) 22)&&(beq 22 22)))=true from rfl,ct]
  have s:=fun bad=>ot hF hx hN h f m (j+1) fuel (T++Dq (Qh (Cq c) c.units.l[j])) bad (by omega) (by omega) (by rw[A09];omega)
  rw[Db d,A1r,A3p,A1o,EN,←A1l]
  rw[Hq,ct,show ble 22 (UnitD.av c.units.l[j]).length=true from rfl,ct,Dc,show take 22 (UnitD.av c.units.l[j])=UnitD.av c.units.l[j] from rfl,Aho hF hx hN (h.i.u _ k) (Ready.ks h _ k) (h.kn.2.1 _ k) (h.un _ (A1y.2 ⟨_,k,rfl⟩)) (Dd h.bn _) (by omega),LW (by omega)]
  refine(s _).trans ?_
  simp only[A2k]
theorem ou (hF:FI R N) (hx:Ew) (hN:1000000000<N) (h:Ready 1000000000 c) (f:I9 c=true):∀ (m j fuel:Nat) (T:Lu) (bad:Bool),j+m=c.lines.l.length→m<fuel→T.length+300000000000*(m+(c.units.l.length+(c.stores.l.length+(c.ties.l.length+c.outs.l.length))))≤60000000000000 →
  Fo N K (c.lines.l.flatMap LineD.av) c.lines.l.length a c.av fuel (c.lines.l.length:Int) (j:Int) T bad =
   K (T++((c.lines.l.drop j).map (Uk (Cq c))++(c.units.l.map (Qh (Cq c))++(c.stores.l.map (Ku (Cq c))++(c.ties.l.map (HY (Cq c))++(c.outs.l.map (Xx (F4 c) (Ei c))))))).flatMap Dq) (bad||((c.lines.l.drop j).any IQ||(c.units.l.any Y9||(c.stores.l.any Sr||(c.ties.l.any FP||(c.outs.l.any Qi))))))
 | 0,j,fuel+1,T,bad,n,_,hT=>by
  rw[Fo];unfold Kd
  have q:=h.cnt
  rw[Hy (by omega),cf,show c.lines.l.drop j=[] from En (by omega),A24,A33]
  rw[Jw]
  refine(ot (a:=a) hF hx hN h f c.units.l.length 0 N T bad (by omega) (by omega) (by omega)).trans ?_
  rw[A1z,A2v];rfl
 | m+1,j,fuel+1,T,bad,n,t,hT=>by
  rw[Fo];unfold Kd
  have d:j<c.lines.l.length:=by omega
  have q:=h.cnt
  have k:(c.lines.l[j]) ∈ c.lines.l:=A1q d
  have u:=Al0 hx h k
  have hT':T.length≤59700000000000:=by omega
  rw[Hf d,ct,Ab d,ct,Hd (e:=LineD.av) (sz:=12) (fun _=>rfl) d,ct,D2 (e:=LineD.av) (sz:=12) (fun _=>rfl) d,show((beq 0 0)&&((beq ((LineD.av c.lines.l[j]).length) 12)&&(beq 12 12)))=true from rfl,ct]
  have s:=fun bad=>ou hF hx hN h f m (j+1) fuel (T++Dq (Uk (Cq c) c.lines.l[j])) bad (by omega) (by omega) (by rw[A09];omega)
  rw[Db d,A1r,A3p,A1o,EN,←A1l]
  rw[Hq,ct,show ble 12 (LineD.av c.lines.l[j]).length=true from rfl,ct,Dc,show take 12 (LineD.av c.lines.l[j])=LineD.av c.lines.l[j] from rfl,Ahm hF hx hN (h.i.l _ k) (h.kn.1 _ k).1 (h.kn.1 _ k).2 (h.ln _ (A1y.2 ⟨_,k,rfl⟩)) (Dd h.bn _) (Dd h.bn _) (by omega),LW (by omega)]
  refine(s _).trans ?_
  simp only[A2k]
theorem ov (hF:FI R N) (hx:Ew) (hN:1000000000<N) (h:Ready 1000000000 c) (k:I9 c=true):∀ (m j fuel:Nat) (T:Lu) (bad:Bool),j+m=c.buses.l.length→m<fuel→T.length+300000000000*(m+(c.lines.l.length+(c.units.l.length+(c.stores.l.length+(c.ties.l.length+c.outs.l.length)))))≤60000000000000 →
  C6 N K (c.buses.l.flatMap BusD.av) c.buses.l.length a c.av fuel (c.buses.l.length:Int) (j:Int) T bad =
   K (T++((c.buses.l.drop j).map bR++(c.lines.l.map (Uk (Cq c))++(c.units.l.map (Qh (Cq c))++(c.stores.l.map (Ku (Cq c))++(c.ties.l.map (HY (Cq c))++(c.outs.l.map (Xx (F4 c) (Ei c)))))))).flatMap Dq) (bad||((c.buses.l.drop j).any fO||(c.lines.l.any IQ||(c.units.l.any Y9||(c.stores.l.any Sr||(c.ties.l.any FP||(c.outs.l.any Qi)))))))
 | 0,j,fuel+1,T,bad,t,_,hT=>by
  rw[C6];unfold Ke
  have u:=h.cnt
  rw[Hy (by omega),cf,show c.buses.l.drop j=[] from En (by omega),A24,A33]
  rw[G6]
  refine(ou (a:=a) hF hx hN h k c.lines.l.length 0 N T bad (by omega) (by omega) (by omega)).trans ?_
  rw[A1z,A2v];rfl
 | m+1,j,fuel+1,T,bad,t,x,hT=>by
  rw[C6];unfold Ke
  have f:j<c.buses.l.length:=by omega
  have u:=h.cnt
  have n:(c.buses.l[j]) ∈ c.buses.l:=A1q f
  have y:=Apa hx h n
  have hT':T.length≤59700000000000:=by omega
  rw[Hf f,ct,Ab f,ct,Hd (e:=BusD.av) (sz:=3) (fun _=>rfl) f,ct,D2 (e:=BusD.av) (sz:=3) (fun _=>rfl) f,show((beq 0 0)&&((beq ((BusD.av c.buses.l[j]).length) 3)&&(beq 3 3)))=true from rfl,ct]
  have v:=fun bad=>ov hF hx hN h k m (j+1) fuel (T++Dq (bR c.buses.l[j])) bad (by omega) (by omega) (by rw[A09];omega)
  rw[Db f,A1r,A3p,A1o,EN,←A1l]
  have hI:=h.i.b _ n
  have hs:=hI.s
  have q:(c.buses.l[j]).name.length≤16:=h.bn _ (A1y.2 ⟨_,n,rfl⟩)
  rw[Ajp (by omega) (by decide),ct]
  show An N [.str (c.buses.l[j]).name,.str Vd] 2 false true _ _ _=_
  refine C0 (ws:=[(c.buses.l[j]).name,Vd]) rfl rfl (by simp[q,Vd]) (by simp) hN (by simp only[A09,A1a,A1b];omega) ?_
  have z:(Ey [(c.buses.l[j]).name,Vd]).length≤100:=by
   have:=ED (ws:=[(c.buses.l[j]).name,Vd]) (B:=16) (by simp[q,Vd])
   simp only[A1a,A1b] at this;omega
  show Bb 1 ((c.buses.l[j]).demand.av 1 F3::_) _=_
  rw[A9,Cc]
  refine Eh rfl rfl hF hx hI.d.1 hI.d.2 hN (by simp only[A09,A1a,A1b];omega) ?_
  have A:(Ey ((c.buses.l[j]).demand.l.map tx)).length≤31*(c.buses.l[j]).demand.l.length:=Lg hx hI.d.1
  have C:=hI.d.2
  refine C0 (ws:=[sF]) rfl rfl (by decide) (by simp) hN (by simp only[A09,A1a,A1b];omega) ?_
  have D:(Ey [sF]).length≤20:=by decide
  show Ah N [.int .i64 (c.buses.l[j]).shed] 1 false true _ _ _=_
  refine Eh (l:=[(c.buses.l[j]).shed]) rfl rfl hF hx (by simp[*]) (by simp) hN (by simp only[A09,A1a,A1b];omega) ?_
  have F:(Ey ([(c.buses.l[j]).shed].map tx)).length≤100:=by
   have:=Lg (l:=[(c.buses.l[j]).shed]) hx (by simp[*])
   simp only[A1a,A1b] at this;omega
  rw[show ∀ X:Lu,X.length≤140000000000000→ble (X.length+1) 140737488355328=true from fun X h=>by simp;omega,ct]
  ·rw[LW (by omega)]
   have eB:((bad||A3 (c.buses.l[j]).demand.l)||A3 [(c.buses.l[j]).shed])=(bad||fO c.buses.l[j]):=by unfold fO;simp[A3,A2k]
   rw[eB]
   refine A4g ?_ ((v (bad||fO c.buses.l[j])).trans ?_)
   ·refine congrArg (fun X=>C6 N K _ _ _ _ fuel _ _ X _) ?_
    rw[Dq]
    unfold bR
    simp only[A1o,Ho,A1l]
    simp[Ey,R6]
   ·simp only[A2k]
  ·simp only[A09,A1a,A1b];omega
theorem Ahr (hF:FI R N) (hx:Ew) (hN:1000000000<N) (h:Ready 1000000000 c) (d:I9 c=true):Ii N c.av a [] false K=K (Ww c) (Rh c):=by
 rw[AS];unfold Pi
 have f:=h.cnt
 have k:=h.i.h
 have n:=Alz hx h
 rw[Ajp (by simp) (by decide),ct,Jv]
 show Ah N [.int .i64 c.hours] 1 false true Df _ _=_
 refine Eh (l:=[c.hours]) rfl rfl hF hx (by simp[*]) (by simp) hN (by decide) ?_
 have q:(Ey ([c.hours].map tx)).length≤100:=by
  have:=Lg (l:=[c.hours]) hx (by simp[*])
  simp only[A1a,A1b] at this;omega
 have s:Df.length≤20:=by decide
 refine C0 (ws:=[D6]) rfl rfl (by decide) (by simp) hN (by simp only[A09];omega) ?_
 have t:(Ey [D6]).length≤20:=by decide
 rw[fL]
 refine Eh rfl rfl hF hx h.i.r.1 h.i.r.2 hN (by simp only[A09];omega) ?_
 have u:(Ey (c.reserve.l.map tx)).length≤31*c.reserve.l.length:=Lg hx h.i.r.1
 have v:=h.i.r.2
 rw[show ∀ X:Lu,X.length≤140000000000000→ble (X.length+1) 140737488355328=true from fun X h=>by simp;omega,ct]
 ·have eB:((false||A3 [c.hours])||A3 c.reserve.l)=(BS c.hours||A3 c.reserve.l):=by simp[A3]
  have eW:(((Df++Ey ([c.hours].map tx))++Ey [D6])++Ey (c.reserve.l.map tx))++[10]=Dq (nf c):=by
   rw[Dq];unfold nf
   rw[A1o,Ho]
   simp[Ey]
  rw[Ep,eB,eW]
  refine(ov (a:=a) hF hx hN h d c.buses.l.length 0 N _ _ (by omega) (by omega) (by omega)).trans ?_
  rw[A1z]
  unfold Rh
  rw[A2k];rfl
 ·simp only[A09];omega
end
end Gx.Ct
namespace Gx.Ct
open Go Go.Proofs Gx.Cf
section
variable {R:Type} {N:Nat} {c:CaseD} {b:Bool}
theorem ow {K:Lu→Int→O R} (d:c.outs.l.length≤1000):∀ (m j fuel:Nat),j+m=c.outs.l.length→m<fuel →
  K6 N K (c.outs.l.flatMap OutD.av) c.outs.l.length b c.av fuel (c.outs.l.length:Int) (j:Int) =
   cond ((c.outs.l.drop j).all xR) (Ii N c.av b ([]:Lu) false fun r y=>cond y (K ([]:Lu) 3) (cond (decide ((((r.length):Nat):Int)>1048576)) (K ([]:Lu) 8) (K r 0))) (K [] 16)
 | 0,j,fuel+1,f,_=>by
  rw[K6];unfold Vx
  rw[Hy (by omega),cf,En (by omega),A29,Hq,ct,Dc];rfl
 | m+1,j,fuel+1,f,n=>by
  rw[K6];unfold Vx
  have h:j<c.outs.l.length:=by omega
  have k:=ow (K:=K) d m (j+1) fuel (by omega) (by omega)
  rw[Hf h,ct,Ab h,ct,Hd (e:=OutD.av) (sz:=4) (fun _=>rfl) h,ct,D2 (e:=OutD.av) (sz:=4) (fun _=>rfl) h,show((beq 0 0)&&((beq ((OutD.av c.outs.l[j]).length) 4)&&(beq 4 4)))=true from rfl,ct,LW (by omega),k,Db h,A12,
   show ∀ F:Bool→O R,OP (drop 2 (OutD.av c.outs.l[j])) F=F (c.outs.l[j]).corr from fun _=>rfl]
  have rm:∀ F:LA→Nat→O R,Bb 3 (drop 3 (OutD.av c.outs.l[j])) F=F ((c.outs.l[j]).moves.l.flatMap MoveD.av) (c.outs.l[j]).moves.l.length:=fun F=>by
   show Bb 3 ((c.outs.l[j]).moves.av 3 MoveD.av::_) F=_
   rw[A9]
  rw[rm]
  unfold xR
  cases (c.outs.l[j]).corr with
  | true=>rfl
  | false =>
   show cond (cond true (decide ((((c.outs.l[j]).moves.l.length:Nat):Int)>0)) false) _ _=_
   cases q:(c.outs.l[j]).moves.l with
   | nil=>rfl
   | cons x r=>rw[decide_eq_true (by simp)];rfl
theorem Al2 (c:CaseD):((List.range' 1 6).all fun k=>(O4 c k).all Ba)=(By c).all fun l=>l.all Ba:=by
 simp[O4,By,List.range']
theorem Al3 (c:CaseD):((List.range' 1 6).any fun k=>IS [] (O4 c k))=(By c).any (IS []):=by
 simp[O4,By,List.range']
theorem Ahs (c:CaseD):(List.range' 1 6).all (vj c)=N9 c:=by
 rw[Alv];simp[List.range']
theorem Aag {K:Lu→Int→O R} (hF:FI R N) (hx:Ew) (hN:1000000000<N) (hI:CaseI 1000000000 c) (hL:ListsOk c):GV N c.av b K=K (An9 c) (T' c):=by
 have fin:∀ e:Int,T' c=e→e≠0→K [] e=K (An9 c) (T' c):=fun e d f=>by unfold An9;rw[d,if_neg f]
 rw[WZ];unfold JQ
 refine(xU hN hL 6 1 N (by omega) (by omega) (by omega)).trans ?_
 rw[Ahs]
 cases d:N9 c with
 | false=>exact fin 8 (by unfold T';rw[if_pos d]) (by decide)
 | true =>
  have y:=d
  unfold N9 at y
  simp only[A1f,decide_eq_true_eq] at y
  have E1:T' c=if c.hours<1∨c.hours>24 then 3 else if IR c=false then 4 else if Xy c≠0 then Xy c else if Qj c=false then 12 else if I9 c=false then 16 else if Rh c then 3 else if (Ww c).length>1048576 then 8 else 0:=by
   unfold T';rw[if_neg (by rw[d];decide)]
  rw[ct,Jv]
  by_cases f:c.hours<1
  ·rw[decide_eq_true f];exact fin 3 (by rw[E1,if_pos (.inl f)]) (by decide)
  ·rw[decide_eq_false f,show((false:Bool)==false)=true from rfl,ct,Jv]
   show cond (decide (c.hours>24)) _ _=_
   by_cases q:c.hours>24
   ·rw[decide_eq_true q];exact fin 3 (by rw[E1,if_pos (.inr q)]) (by decide)
   ·have E2:T' c=if IR c=false then 4 else if Xy c≠0 then Xy c else if Qj c=false then 12 else if I9 c=false then 16 else if Rh c then 3 else if (Ww c).length>1048576 then 8 else 0:=by
     rw[E1,if_neg (fun h=>h.elim f q)]
    rw[decide_eq_false q,cf]
    unfold Zs GU
    rw[Hq,ct,Dc,Aaf (by omega) (by omega) (by omega)]
    cases z:IR c with
    | false=>exact fin 4 (by rw[E2,if_pos z]) (by decide)
    | true =>
     have E3:T' c=if Xy c≠0 then Xy c else if Qj c=false then 12 else if I9 c=false then 16 else if Rh c then 3 else if (Ww c).length>1048576 then 8 else 0:=by
      rw[E2,if_neg (by rw[z];decide)]
     rw[show(!true)=false from rfl,cf]
     have hs:∀ k,1≤k→k≤6→(O4 c k).length≤1000:=fun k d f=>by
      have:k=1∨k=2∨k=3∨k=4∨k=5∨k=6:=by omega
      rcases this with rfl | rfl | rfl | rfl | rfl | rfl<;>simp[O4,By,Cq,F4,Ei,fM,Age,Agf]<;>omega
     refine(oi (F:=_) hN hL hs (fun _=>rfl) 6 1 N false (by omega) (by omega) (by omega)).trans ?_
     rw[Al2,Al3,A2v]
     have hE:Xy c=if ((By c).all fun l=>l.all Ba) then (if (By c).any (IS []) then 10 else 0) else 9:=rfl
     cases t:((By c).all fun l=>l.all Ba) with
     | false =>
      rw[t] at hE
      exact fin 9 (by rw[E3,hE];rfl) (by decide)
     | true =>
      rw[t,if_pos rfl] at hE
      rw[ct]
      cases n:(By c).any (IS []) with
      | true =>
       rw[n] at hE
       exact fin 10 (by rw[E3,hE];rfl) (by decide)
      | false =>
       rw[n,if_neg (by decide)] at hE
       have E4:T' c=if Qj c=false then 12 else if I9 c=false then 16 else if Rh c then 3 else if (Ww c).length>1048576 then 8 else 0:=by
        rw[E3,if_neg (fun h=>h hE)]
       rw[cf,Hq,ct,Dc,Aee hN d hI.o]
       cases u:Qj c with
       | false=>exact fin 12 (by rw[E4,if_pos u]) (by decide)
       | true =>
        have E5:T' c=if I9 c=false then 16 else if Rh c then 3 else if (Ww c).length>1048576 then 8 else 0:=by
         rw[E4,if_neg (by rw[u];decide)]
        rw[show(!true)=false from rfl,cf,M4]
        refine(ow (by omega) c.outs.l.length 0 N (by omega) (by omega)).trans ?_
        rw[A1z,show c.outs.l.all xR=I9 c from rfl]
        cases v:I9 c with
        | false=>exact fin 16 (by rw[E5,if_pos v]) (by decide)
        | true =>
         have E6:T' c=if Rh c then 3 else if (Ww c).length>1048576 then 8 else 0:=by
          rw[E5,if_neg (by rw[v];decide)]
         rw[ct]
         have x:∀ l ∈ By c,∀ s ∈ l,Ba s=true:=by
          simp only[A1u] at t
          exact t
         have rd:Ready 1000000000 c:=⟨hI,fun l D s hs=>by
          have:=x l D s hs
          unfold Ba at this
          simp only[A1f,decide_eq_true_eq] at this
          exact this.2.1,u,d⟩
         rw[Ahr hF hx hN rd v]
         cases A:Rh c with
         | true=>exact fin 3 (by rw[E6,if_pos A]) (by decide)
         | false =>
          have E7:T' c=if (Ww c).length>1048576 then 8 else 0:=by
           rw[E6,if_neg (by rw[A];decide)]
          rw[cf]
          by_cases C:(Ww c).length>1048576
          ·rw[decide_eq_true (show(((Ww c).length:Nat):Int)>1048576 by omega)]
           exact fin 8 (by rw[E7,if_pos C]) (by decide)
          ·have E8:T' c=0:=by rw[E7,if_neg C]
           rw[decide_eq_false (show ¬ (((Ww c).length:Nat):Int)>1048576 by omega),cf]
           unfold An9;rw[E8,if_pos rfl]
end
end Gx.Ct
namespace Gx
open Go Go.Proofs
section
variable {R:Type}
def Uy (x y:Nat):Int:=if x<y then -1 else if y<x then 1 else 0
theorem OF (x:Nat):Uy x x=0:=by unfold Uy;simp
theorem SB {a b:Nat} (h:(A7 a).length<(A7 b).length):a<b:=Nat.lt_of_not_le fun d=>by
 have:=Kw d;omega
theorem qf {u w p q P:Nat} (d:u<P) (f:w<P) (h:p<q):u+P*p<w+P*q:=by
 have:P*(p+1)≤P*q:=A30 _ h
 rw[A2o] at this
 omega
theorem xW {N:Nat} {x y:List Nat} {t u:Bool} {K:Int→O R} (hx:Av x) (k:Av y) (hs:x.length≤1000000000000) (l:x.length=y.length):∀ (i fuel:Nat),i≤x.length→i<fuel →
  Gc N K (Au x) x.length t (Au y) y.length u fuel ((i:Int) - 1)=K (Uy (val (x.take i)) (val (y.take i)))
 | 0,fuel+1,_,_=>by
  rw[Gc];unfold Pe
  rw[show decide ((((0:Nat):Int) - 1)≥0)=false by simp,cf]
  simp[OF]
 | i+1,fuel+1,hi,n=>by
  rw[Gc];unfold Pe
  rw[show(((i+1:Nat):Int) - 1)=(i:Int) by omega,show decide ((i:Int)≥0)=true by simp,ct,Ab (by omega),ct,zR (by omega),Ab (by omega),ct,zR (by omega),ct,zR (by omega),ct,zR (by omega),i64 (by omega),
   xW hx k hs l i fuel (by omega) (by omega),Cr (by omega),Cr (by omega)]
  have d:=M7 (M6 hx i)
  have f:=M7 (M6 k i)
  rw[A2a,A2h (by omega)] at d f
  by_cases c1:x[i]<y[i]
  ·have:=qf d f c1
   rw[show decide (((x[i]:Nat):Int)<((y[i]:Nat):Int))=true by simp;exact c1,ct]
   unfold Uy;rw[if_pos this]
  ·by_cases c2:y[i]<x[i]
   ·have:=qf f d c2
    rw[show decide (((x[i]:Nat):Int)<((y[i]:Nat):Int))=false by simp;omega,cf,show decide (((x[i]:Nat):Int)>((y[i]:Nat):Int))=true by simp;exact c2,ct]
    unfold Uy;rw[if_neg (by omega),if_pos this]
   ·have:x[i]=y[i]:=by omega
    rw[show decide (((x[i]:Nat):Int)<((y[i]:Nat):Int))=false by simp;omega,cf,show decide (((x[i]:Nat):Int)>((y[i]:Nat):Int))=false by simp;omega,cf,this]
    unfold Uy
    congr 1
    by_cases a1:val (x.take i)<val (y.take i)
    ·rw[if_pos a1,if_pos (by omega)]
    ·by_cases a2:val (y.take i)<val (x.take i)
     ·rw[if_neg a1,if_pos a2,if_neg (by omega),if_pos (by omega)]
     ·rw[if_neg a1,if_neg a2,if_neg (by omega),if_neg (by omega)]
theorem xX {N:Nat} {a b:List Nat} {n m:Nat} {t o t' o':Bool} {K:Int→O R} (hn:n=a.length) (q:m=b.length) (f:Av a) (k:Av b) (d:fit (a.length+b.length) N) :
  Su N (Au a) n t o (Au b) m t' o' K=K (Uy (val a) (val b)):=by
 subst hn q
 have u:=d.1;have v:=d.2
 rw[I_];unfold Vj
 dsimp only
 rw[Dr rfl f (d.le (by omega)),Dr rfl k (d.le (by omega))]
 have la:=(Hh f).2
 have lb:=(Hh k).2
 by_cases l:(A7 (val a)).length=(A7 (val b)).length
 ·rw[show((((A7 (val a)).length:Nat):Int) != (((A7 (val b)).length:Nat):Int))=false by simp;omega,cf,i64 (by omega),xW (Ay _) (Ay _) (by omega) l _ N (A1h _) (by omega),A2e,l,A2e,A0,A0]
 ·rw[show((((A7 (val a)).length:Nat):Int) != (((A7 (val b)).length:Nat):Int))=true by simp;omega,ct]
  by_cases s:(A7 (val a)).length<(A7 (val b)).length
  ·have:=SB s
   rw[show decide ((((A7 (val a)).length:Nat):Int)<(((A7 (val b)).length:Nat):Int))=true by simp;omega,ct]
   unfold Uy;rw[if_pos this]
  ·have:=SB (show(A7 (val b)).length<(A7 (val a)).length by omega)
   rw[show decide ((((A7 (val a)).length:Nat):Int)<(((A7 (val b)).length:Nat):Int))=false by simp;omega,cf]
   unfold Uy;rw[if_neg (by omega),if_pos this]
theorem uC {N:Nat} {a:List Nat} {n:Nat} {t o:Bool} {K:Int→O R} (hn:n=a.length) (k:Av a) (d:fit a.length N):X8 N (Au a) n t o K=K (Uy (val a) 0):=by
 subst hn
 have l:=d.1;have q:=d.2
 rw[WL];unfold JA
 dsimp only
 rw[Dr rfl k d,Alg (by omega)]
 by_cases f:val a=0
 ·rw[f,F5,OF]
  cases N with
  | zero=>omega
  | succ N =>
   rw[Sv];unfold F_
   rw[i64 (by simp)];simp
 ·have s:(A7 (val a)).length≠0:=fun h=>f (Ee.1 h)
  rw[show((((A7 (val a)).length:Nat):Int) != (0:Int))=true by simp;exact fun h=>f (sI.1 h),ct]
  rw[show decide ((((A7 (val a)).length:Nat):Int)<(0:Int))=false by simp,cf]
  unfold Uy;rw[if_neg (by omega),if_pos (by omega)]
theorem qg:∀ {S:List Nat} {d v:Nat} (h:d<S.length),val (S.set d v)+4294967296 ^ d*S[d]=val S+4294967296 ^ d*v
 | x::r,0,v,_=>by simp[val];omega
 | x::r,d+1,v,h=>by
  have f:=qg (S:=r) (d:=d) (v:=v) (by simpa using h)
  simp only[List.set_cons_succ,val,A4o,A14]
  have e1:∀ y,4294967296 ^ d*4294967296*y=4294967296*(4294967296 ^ d*y):=fun y=>by rw[A25 (4294967296 ^ d),A2p]
  rw[e1,e1]
  omega
theorem OG (b:List Nat) (d:Nat):val (b.take (d+1))=val (b.take d)+4294967296 ^ d*b.getD d 0:=by
 by_cases h:d<b.length
 ·rw[Cr h,A1m,A1g h];rfl
 ·rw[A1c (by omega),A1c (by omega),A1m,A2u (by omega)];simp
theorem YP (P s:Nat):P*(s%4294967296)+P*4294967296*(s/4294967296)=P*s:=by
 rw[A2p,←A2o,A5l,A3z]
def Aqx (S:List Nat) (d:Nat):Prop:=∀ j (h:j<S.length),d≤j→S[j]=0
theorem aM {S:List Nat} {d v:Nat} (h:Aqx S d):Aqx (S.set d v) (d+1):=fun j f k=>by
 rw[List.getElem_set]
 rw[if_neg (by omega)]
 exact h j (by simpa using f) (by omega)
theorem Zz (n:Nat):Aqx (replicate n 0) 0:=fun j d _=>by simp
theorem aN {S:List Nat} {d v:Nat} (h:Aqx S d) (f:d<S.length):val (S.set d v)=val S+4294967296 ^ d*v:=by
 have:=qg (v:=v) f
 rw[h d f (A1h _)] at this;simpa using this
theorem A03 {a:Nat} (h:a≤1000000000000):wrap .i64 ((a:Int)+(1:Int))=((a+1:Nat):Int):=wS h
theorem Azt {x:Nat} {m:List Nat} (h:x<m.length):((beq 1 1)&&((ble ((0+(x*1))+1) (List.length (Au m)))&&(!false)))=true:=by
 rw[Es];simp;omega
theorem Axk {x v:Nat} {m:List Nat}:List.set (Au m) (0+(x*1)) (.int .u32 (v:Int))=Au (m.set x v):=by rw[A1x,A1w,Acl]
theorem uD {N:Nat} {a b:List Nat} {t u:Bool} (z:Av a) (A:Av b) (l:fit (a.length+1) N) (n:b.length≤a.length):∀ (m d fuel:Nat) (S:List Nat) (c:Nat),d+m=a.length→m<fuel→Av S→S.length=a.length+1→Aqx S d→c≤1 →
  val S+4294967296 ^ d*c=val (a.take d)+val (b.take d) →
  ∃ S',Av S'∧S'.length=a.length+1∧val S'=val a+val b∧∀ K:Nat→LA→O R,X7 N K (Au a) a.length t (Au b) b.length u fuel (a.length+1) (c:Int) (a.length:Int) (d:Int) (Au S)=K (A7 (val a+val b)).length (Au S')
 | 0,d,fuel+1,S,c,U,_,hS,q,v,V,T=>by
  have X:=l.1;have Y:=l.2
  have C:d=a.length:=by omega
  subst C
  have x:val (S.set a.length c)=val a+val b:=by
   rw[aN v (by omega),T,A2e,A1c n]
  have y:=Ou hS (show c<4294967296 by omega) a.length
  refine⟨S.set a.length c,y,by simpa using q,x,fun K=>?_⟩
  rw[X7];unfold FY
  rw[Hy (A1h _),cf,Ab (by omega),ct,Azt (by omega),ct,As5 (by omega),Axk,s9 (by simp;omega) y (by simp only[List.length_set,q];exact l),x]
 | m+1,d,fuel+1,S,c,U,hfu,hS,q,v,V,T=>by
  have X:=l.1;have Y:=l.2
  have f:d<a.length:=by omega
  have ad:=Jn z f
  have step:∀ s:Nat,s<8589934592→s=c+a[d]+b.getD d 0→val (S.set d (s%4294967296))+4294967296 ^ (d+1)*(s/4294967296)=val (a.take (d+1))+val (b.take (d+1)):=by
   intro s _ hs
   rw[aN v (by omega),Cr f,OG b d,A14]
   have e:=YP (4294967296 ^ d) s
   have e2:4294967296 ^ d*s=4294967296 ^ d*c+4294967296 ^ d*a[d]+4294967296 ^ d*b.getD d 0:=by rw[hs,A2o,A2o]
   omega
  by_cases k:d<b.length
  ·have bd:=Jn A k
   have D:b.getD d 0=b[d]:=by rw[A1m,A1g k];rfl
   obtain⟨S',F,G,I,M⟩:=uD (t:=t) (u:=u) z A l n m (d+1) fuel (S.set d ((c+a[d]+b[d])%4294967296)) ((c+a[d]+b[d])/4294967296) (by omega) (by omega) (Ou hS (by omega) d) (by simpa using q) (aM v) (by omega) (step _ (by omega) (by rw[D]))
   refine⟨S',F,G,I,fun K=>?_⟩
   rw[X7];unfold FY
   rw[Hf f,ct,Ab f,ct,zR f,Hf k,ct,Ab k,ct,zR k,Ab (by omega),ct,Aiu (by omega),ct,LF (by omega),LF (by omega),yq,LF (by omega),yq,LF (by omega),Agj,Acm,s7,wS (by omega)]
   exact M K
  ·have D:b.getD d 0=0:=by rw[A1m,A2u (by omega)];rfl
   obtain⟨S',F,G,I,M⟩:=uD (t:=t) (u:=u) z A l n m (d+1) fuel (S.set d ((c+a[d])%4294967296)) ((c+a[d])/4294967296) (by omega) (by omega) (Ou hS (by omega) d) (by simpa using q) (aM v) (by omega) (step _ (by omega) (by rw[D];rfl))
   refine⟨S',F,G,I,fun K=>?_⟩
   rw[X7];unfold FY
   rw[Hf f,ct,Ab f,ct,zR f,Hy (by omega),cf,Ab (by omega),ct,Aiu (by omega),ct,LF (by omega),yq,LF (by omega),Agj,Acm,s7,wS (by omega)]
   exact M K
theorem Apd {N:Nat} {a b:List Nat} {t u:Bool} (k:Av a) (l:Av b) (d:fit (a.length+1) N) (f:b.length≤a.length) :
  ∃ S',Av S'∧val S'=val a+val b∧∀ K:Nat→LA→O R,ND N K (Au a) a.length t (Au b) b.length u=K (A7 (val a+val b)).length (Au S'):=by
 have v:=d.1;have x:=d.2
 obtain⟨S',n,_,q,s⟩:=uD (R:=R) (t:=t) (u:=u) k l d f a.length 0 N (replicate (a.length+1) 0) 0 (by omega) (by omega) (Jo _) (by simp) (Zz _) (by omega) (by rw[Kv];simp[val])
 refine⟨S',n,q,fun K=>?_⟩
 unfold ND fV
 rw[A03 (by omega),At9 (by omega),ct,A1d,Mc]
 exact s K
theorem Ape {N:Nat} {a b:List Nat} {n m:Nat} {t o t' o':Bool} (hn:n=a.length) (v:m=b.length) (k:Av a) (l:Av b) (d:fit (a.length+b.length+1) N) :
  ∃ S',Av S'∧val S'=val a+val b∧∀ K:Nat→LA→O R,s4 N (Au a) n t o (Au b) m t' o' K=K (A7 (val a+val b)).length (Au S'):=by
 subst hn v
 have la:=(Hh k).2
 have lb:=(Hh l).2
 by_cases x:(A7 (val a)).length<(A7 (val b)).length
 ·obtain⟨S',q,f,s⟩:=Apd (R:=R) (N:=N) (a:=A7 (val b)) (b:=A7 (val a)) (t:=o') (u:=o) (Ay _) (Ay _) (d.le (by omega)) (by omega)
  rw[A0,A0,A5l] at f
  refine⟨S',q,f,fun K=>?_⟩
  rw[fW];unfold iX
  rw[Dr rfl k (d.le (by omega)),Dr rfl l (d.le (by omega)),Hf x,ct,s,A0,A0,A5l (val b)]
 ·obtain⟨S',q,f,s⟩:=Apd (R:=R) (N:=N) (a:=A7 (val a)) (b:=A7 (val b)) (t:=o) (u:=o') (Ay _) (Ay _) (d.le (by omega)) (by omega)
  rw[A0,A0] at f
  refine⟨S',q,f,fun K=>?_⟩
  rw[fW];unfold iX
  rw[Dr rfl k (d.le (by omega)),Dr rfl l (d.le (by omega)),Hy (by omega),cf,s,A0,A0]
theorem xY {x y:Nat} (hx:x<4294967296) (f:y≤4294967296):∃ d c:Nat,d<4294967296∧c≤1∧x+4294967296*c=d+y∧wrap .u32 (wrap .u64 ((x:Int) - (y:Int)))=(d:Int)∧Int.fdiv (wrap .u64 ((x:Int) - (y:Int))) (2 ^ 63)=(c:Int):=by
 by_cases h:y≤x
 ·refine⟨x - y,0,by omega,by omega,by omega,?_,?_⟩
  ·rw[yr (by omega) h,As5 (by omega)]
  ·rw[yr (by omega) h,Avw,A3n (by omega)]
 ·refine⟨x+4294967296 - y,1,by omega,by omega,by omega,?_,?_⟩
  ·rw[Aod (by omega) (by omega),Acm];congr 1;omega
  ·rw[Aod (by omega) (by omega),Avw];congr 1;omega
theorem Arz {x c w:Nat} (hx:x<4294967296) (d:c≤1) (f:w<4294967296):wrap .u64 ((wrap .u64 ((x:Int) - (c:Int))) - (w:Int))=wrap .u64 ((x:Int) - ((c+w:Nat):Int)):=by
 rw[iL,iL,iL];omega
theorem uE {N:Nat} {a b:List Nat} {t u:Bool} (C:Av a) (D:Av b) (s:fit a.length N) (n:b.length≤a.length) (v:val b≤val a):∀ (m d fuel:Nat) (S:List Nat) (c:Nat),d+m=a.length→m<fuel→Av S→S.length=a.length→Aqx S d→c≤1 →
  val S+val (b.take d)=val (a.take d)+4294967296 ^ d*c →
  ∃ S',Av S'∧val S'=val a - val b∧∀ K:Nat→Bool→LA→O R,Ul N K (Au b) b.length t a.length (Au a) u fuel (c:Int) (a.length:Int) (d:Int) (Au S)=K (A7 (val a - val b)).length true (Au S')
 | 0,d,fuel+1,S,c,hd,_,hS,q,A,hc,hv=>by
  have F:d=a.length:=by omega
  subst F
  rw[A2e,A1c n] at hv
  have G:=M7 hS
  rw[q] at G
  have I:c=0:=by
   rcases A40 0 c with h | h
   ·exfalso
    have:c=1:=by omega
    subst this
    omega
   ·omega
  subst I
  have x:val S=val a - val b:=by omega
  refine⟨S,hS,x,fun K=>?_⟩
  rw[Ul];unfold FZ
  rw[Hy (A1h _),cf,s9 q.symm hS (by rw[q];exact s),x]
 | m+1,d,fuel+1,S,c,hd,hfu,hS,q,A,hc,hv=>by
  have h1:=s.1;have h2:=s.2
  have f:d<a.length:=by omega
  have ad:=Jn C f
  have step:∀ y g l:Nat,y=c+b.getD d 0→a[d]+4294967296*l=g+y→val (S.set d g)+val (b.take (d+1))=val (a.take (d+1))+4294967296 ^ (d+1)*l:=by
   intro y g l hy z
   rw[aN A (by omega),Cr f,OG b d,A14,A2p]
   have e:4294967296 ^ d*(a[d]+4294967296*l)=4294967296 ^ d*(g+(c+b.getD d 0)):=by rw[z,hy]
   rw[A2o,A2o,A2o] at e
   omega
  by_cases k:d<b.length
  ·have bd:=Jn D k
   have z:b.getD d 0=b[d]:=by rw[A1m,A1g k];rfl
   obtain⟨g,l,M,T,U,V,X⟩:=xY ad (show c+b[d]≤4294967296 by omega)
   obtain⟨S',Y,q3,q4⟩:=uE (t:=t) (u:=u) C D s n v m (d+1) fuel (S.set d g) l (by omega) (by omega) (Ou hS M d) (by simpa using q) (aM A) T (step _ _ _ (by rw[z]) U)
   refine⟨S',Y,q3,fun K=>?_⟩
   rw[Ul];unfold FZ
   rw[Hf f,ct,Ab f,ct,zR f,Hf k,ct,Ab k,ct,zR k,ct,Aiu (by omega),ct,LF (show a[d]<18446744073709551616 by omega),LF (show b[d]<18446744073709551616 by omega),Arz ad hc bd,V,X,s7,wS (by omega)]
   exact q4 K
  ·have z:b.getD d 0=0:=by rw[A1m,A2u (by omega)];rfl
   obtain⟨g,l,M,T,U,V,X⟩:=xY ad (show c≤4294967296 by omega)
   obtain⟨S',Y,q3,q4⟩:=uE (t:=t) (u:=u) C D s n v m (d+1) fuel (S.set d g) l (by omega) (by omega) (Ou hS M d) (by simpa using q) (aM A) T (step _ _ _ (by rw[z];rfl) U)
   refine⟨S',Y,q3,fun K=>?_⟩
   rw[Ul];unfold FZ
   rw[Hf f,ct,Ab f,ct,zR f,Hy (by omega),cf,ct,Aiu (by omega),ct,LF (show a[d]<18446744073709551616 by omega),V,X,s7,wS (by omega)]
   exact q4 K
theorem Aei {N:Nat} {a b:List Nat} {n m:Nat} {t o t' o':Bool} (hn:n=a.length) (v:m=b.length) (l:Av a) (q:Av b) (d:fit (a.length+b.length) N) (f:val b≤val a) :
  ∃ S',Av S'∧val S'=val a - val b∧∀ K:Nat→Bool→LA→O R,fX N (Au a) n t o (Au b) m t' o' K=K (A7 (val a - val b)).length true (Au S'):=by
 subst hn v
 have z:=d.1;have A:=d.2
 have la:=(Hh l).2
 have lb:=(Hh q).2
 have k:=Kw f
 obtain⟨S',x,s,y⟩:=uE (R:=R) (N:=N) (a:=A7 (val a)) (b:=A7 (val b)) (t:=o') (u:=o) (Ay _) (Ay _) (d.le (by omega)) k (by rw[A0,A0];exact f) (A7 (val a)).length 0 N (replicate (A7 (val a)).length 0) 0 (by omega) (by omega) (Jo _) (by simp) (Zz _) (by omega) (by rw[Kv];simp[val])
 rw[A0,A0] at s
 refine⟨S',x,s,fun K=>?_⟩
 rw[fY];unfold iY
 dsimp only
 rw[Dr rfl l (d.le (by omega)),Dr rfl q (d.le (by omega)),xX rfl rfl (Ay _) (Ay _) (d.le (by omega)),A0,A0]
 have:decide (Uy (val a) (val b)<0)=false:=by unfold Uy;split<;>(try split)<;>simp<;>omega
 rw[this,cf,At9 (by omega),ct,Mc]
 have:=y K
 rw[A0,A0] at this
 exact this
theorem Apf {N:Nat} {a b:List Nat} {n m:Nat} {t o t' o':Bool} {K:Nat→Bool→LA→O R} (hn:n=a.length) (q:m=b.length) (k:Av a) (l:Av b) (d:fit (a.length+b.length) N) (f:val a<val b) :
  fX N (Au a) n t o (Au b) m t' o' K=K 0 false []:=by
 subst hn q
 have la:=(Hh k).2
 have lb:=(Hh l).2
 rw[fY];unfold iY
 dsimp only
 rw[Dr rfl k (d.le (by omega)),Dr rfl l (d.le (by omega)),xX rfl rfl (Ay _) (Ay _) (d.le (by omega)),A0,A0]
 have:decide (Uy (val a) (val b)<0)=true:=by unfold Uy;rw[if_pos f];rfl
 rw[this,ct]
theorem Al4 {n:Nat} (h:n≠0):((n:Int)==(0:Int))=false:=by rw[beq_eq_false_iff_ne];omega
theorem Apg:∀ {S:List Nat} {j:Nat} (h:j<S.length),4294967296 ^ j*S[j]≤val S
 | x::r,0,_=>by simp[val]
 | x::r,j+1,h=>by
  have:=Apg (S:=r) (j:=j) (by simpa using h)
  simp only[A4o,val,A14]
  rw[A25 (4294967296 ^ j),A2p]
  omega
theorem Auu {S:List Nat} {k:Nat} (h:val S<4294967296 ^ k):Aqx S k:=fun j f l=>by
 have n:=Apg f
 have q:4294967296 ^ k≤4294967296 ^ j:=A18 (by omega) l
 rcases A2t S[j] with d | d
 ·exact d
 ·have:=A5h (4294967296 ^ j) d
  omega
theorem Aph {p q y s:Nat} (d:p<4294967296) (hq:q<4294967296) (f:y<4294967296) (hs:s<4294967296):p+(q*y+s)<18446744073709551616:=by
 have:q*y≤4294967295*4294967295:=A53 (by omega) (by omega)
 omega
theorem Api {N:Nat} {x y:List Nat} {c d:Bool} {f q J:Nat} (G:Av y) (hq:q<4294967296) (M:f<x.length) (hs:x.length+y.length≤1000000000000):∀ (m l fuel:Nat) (S:List Nat) (p:Nat) (v:Nat),l+m=y.length→m<fuel→Av S→S.length=x.length+y.length→Aqx S (f+y.length)→p<4294967296 →
  val S+4294967296 ^ (f+l)*p=v+4294967296 ^ f*(q*val (y.take l)) →
  ∃ S',Av S'∧S'.length=x.length+y.length∧val S'=v+4294967296 ^ f*(q*val y)∧∀ (t:Nat→Int→Int→LA→O R) (K:Nat→LA→O R),X0 N t K (Au y) y.length d (x.length+y.length) (f:Int) (q:Int) (Au x) x.length c (J:Int) fuel (p:Int) (y.length:Int) (l:Int) (Au S)=t (x.length+y.length) J ((f+1:Nat):Int) (Au S')
 | 0,l,fuel+1,S,p,v,T,_,hS,k,A,z,C=>by
  have D:l=y.length:=by omega
  subst D
  rw[A2e] at C
  refine⟨S.set (f+y.length) p,Ou hS z _,by simpa using k,by rw[aN A (by omega),C],fun t K=>?_⟩
  rw[X0];unfold QG
  rw[Hy (A1h _),cf,wA (by omega),Ab (by omega),ct,Aiu (by omega),ct,As5 z,s7,wS (by omega)]
 | m+1,l,fuel+1,S,p,v,T,U,hS,k,A,z,C=>by
  have n:l<y.length:=by omega
  have yl:=Jn G n
  have hi:f+l<S.length:=by omega
  have sl:=Jn hS hi
  have V:=Aph z hq yl sl
  have F:q*y[l]<18446744073709551616:=by omega
  generalize u:p+(q*y[l]+S[f+l])=s at *
  have I:=qg (v:=s%4294967296) hi
  have key:val (S.set (f+l) (s%4294967296))+4294967296 ^ (f+(l+1))*(s/4294967296)=v+4294967296 ^ f*(q*val (y.take (l+1))):=by
   rw[Cr n,←A2l f l 1,A14]
   have e:=YP (4294967296 ^ (f+l)) s
   have e2:4294967296 ^ (f+l)*s=4294967296 ^ (f+l)*p+(4294967296 ^ (f+l)*(q*y[l])+4294967296 ^ (f+l)*S[f+l]):=by rw[←u,A2o,A2o]
   have e3:4294967296 ^ f*(q*(val (y.take l)+4294967296 ^ l*y[l]))=4294967296 ^ f*(q*val (y.take l))+4294967296 ^ (f+l)*(q*y[l]):=by
    rw[A2o,A2o,A34]
    congr 1
    rw[A2p];congr 1
    rw[←A2p,←A2p,A25 q]
   omega
  obtain⟨S',X,Y,q3,q4⟩:=Api (N:=N) (x:=x) (c:=c) (d:=d) (J:=J) G hq M hs m (l+1) fuel (S.set (f+l) (s%4294967296)) (s/4294967296) v (by omega) (by omega) (Ou hS (by omega) _) (by simpa using k) (fun j hj hk=>by
   rw[List.getElem_set,if_neg (by omega)];exact A j (by simpa using hj) hk) (by omega) key
  refine⟨S',X,Y,q3,fun t K=>?_⟩
  rw[X0];unfold QG
  rw[Hf n,ct,Ab n,ct,zR n,wA (by omega),Ab (by omega),ct,lK hi,ct,Aiu hi,ct,LF (show q<18446744073709551616 by omega),LF (show y[l]<18446744073709551616 by omega),LF (show S[f+l]<18446744073709551616 by omega),At6,LF F,yq,LF (by omega),yq,u,LF V,Agj,Acm,s7,wS (by omega)]
  exact q4 t K
theorem Aah {N:Nat} {x y:List Nat} {c d:Bool} (hx:Av x) (v:Av y) (l:fit (x.length+y.length) N):∀ (m f fuel:Nat) (S:List Nat),f+m=x.length→m<fuel→Av S→S.length=x.length+y.length →
  val S=val (x.take f)*val y →
  ∃ S',Av S'∧val S'=val x*val y∧∀ K:Nat→LA→O R,Ri N K (Au y) y.length d (Au x) x.length c fuel (x.length+y.length) (x.length:Int) (f:Int) (Au S)=K (A7 (val x*val y)).length (Au S')
 | 0,f,fuel+1,S,I,_,hS,n,u=>by
  have z:f=x.length:=by omega
  subst z
  rw[A2e] at u
  refine⟨S,hS,u,fun K=>?_⟩
  rw[Ri];unfold FX
  rw[Hy (A1h _),cf,s9 n.symm hS (by rw[n];exact l),u]
 | m+1,f,fuel+1,S,I,M,hS,n,u=>by
  have h1:=l.1;have h2:=l.2
  have k:f<x.length:=by omega
  have xf:=Jn hx k
  have G:=M7 (M6 hx f)
  rw[A2a,A2h (by omega)] at G
  have T:=M7 v
  have t:val S<4294967296 ^ (f+y.length):=by
   rw[u,A34];exact A5i G T
  have s:val (x.take (f+1))*val y=val S+4294967296 ^ f*(x[f]*val y):=by
   rw[Cr k,A23,u,A2p]
  by_cases A:x[f]=0
  ·obtain⟨S',C,D,F⟩:=Aah (c:=c) (d:=d) hx v l m (f+1) fuel S (by omega) (by omega) hS n (by rw[s,A];simp)
   refine⟨S',C,D,fun K=>?_⟩
   rw[Ri];unfold FX
   rw[Hf k,ct,Ab k,ct,zR k,show(((x[f]:Nat):Int)==0)=true by simp[A],ct,wS (by omega)]
   exact F K
  ·obtain⟨S1,U,V,X,Y⟩:=Api (R:=R) (N:=N) (x:=x) (y:=y) (c:=c) (d:=d) (f:=f) (q:=x[f]) (J:=x.length) v xf k (by omega) y.length 0 N S 0 (val S) (by omega) (by omega) hS n (Auu t) (by omega) (by simp[val])
   obtain⟨S',C,D,F⟩:=Aah (c:=c) (d:=d) hx v l m (f+1) fuel S1 (by omega) (by omega) U V (by rw[X,s])
   refine⟨S',C,D,fun K=>?_⟩
   rw[Ri];unfold FX
   rw[Hf k,ct,Ab k,ct,zR k,show(((x[f]:Nat):Int)==0)=false by simp;exact A,cf]
   have:=Y (Ri N K (Au y) y.length d (Au x) x.length c fuel) K
   simp only[A3t] at this
   dsimp only
   rw[this]
   exact F K
theorem Apj {N:Nat} {a b:List Nat} {n m:Nat} {t o t' o':Bool} (hn:n=a.length) (v:m=b.length) (q:Av a) (s:Av b) (f:fit (a.length+b.length) N) :
  ∃ S',Av S'∧val S'=val a*val b∧∀ K:Nat→LA→O R,sW N (Au a) n t o (Au b) m t' o' K=K (A7 (val a*val b)).length (Au S'):=by
 subst hn v
 have C:=f.1;have D:=f.2
 have la:=(Hh q).2
 have lb:=(Hh s).2
 by_cases k:val a=0
 ·refine⟨[],M_,by rw[k];simp[val],fun K=>?_⟩
  rw[QH];unfold ZZ
  dsimp only
  rw[Dr rfl q (f.le (by omega)),Dr rfl s (f.le (by omega)),k,A35,F5];rfl
 ·by_cases l:val b=0
  ·refine⟨[],M_,by rw[l];simp[val],fun K=>?_⟩
   rw[QH];unfold ZZ
   dsimp only
   rw[Dr rfl q (f.le (by omega)),Dr rfl s (f.le (by omega)),l,Nat.mul_zero,F5]
   cases ((((A7 (val a)).length:Nat):Int)==0)<;>rfl
  ·obtain⟨S',z,u,A⟩:=Aah (R:=R) (N:=N) (x:=A7 (val a)) (y:=A7 (val b)) (c:=o) (d:=o') (Ay _) (Ay _) (f.le (by omega)) (A7 (val a)).length 0 N (replicate ((A7 (val a)).length+(A7 (val b)).length) 0) (by omega) (by omega) (Jo _) (by simp) (by rw[Kv];simp[val])
   rw[A0,A0] at u
   refine⟨S',z,u,fun K=>?_⟩
   rw[QH];unfold ZZ
   dsimp only
   have n1:(A7 (val a)).length≠0:=fun h=>k (Ee.1 h)
   have n2:(A7 (val b)).length≠0:=fun h=>l (Ee.1 h)
   rw[Dr rfl q (f.le (by omega)),Dr rfl s (f.le (by omega)),Al4 n1,show((false:Bool)==false)=true by rfl,ct,A0s,Al4 n2,cf]
   unfold ZY fU
   rw[wA (by omega),At9 (by omega),ct,A1d,Mc]
   have:=A K
   rw[A0,A0] at this
   exact this
theorem Ajq {v:Nat} (h:(A7 v).length≤2):v<18446744073709551616:=by
 have:=M7 (Ay v)
 rw[A0] at this
 have d:4294967296 ^ (A7 v).length≤4294967296 ^ 2:=A18 (by omega) h
 omega
theorem aO {v:Nat} (h:v<18446744073709551616):(A7 v).length≤2:=FR (by simpa using h)
theorem Al5 {N:Nat} {l:List Nat} {n:Nat} {t o:Bool} {K:Int→O R} (hn:n=l.length) (d:Av l) (f:l.length≤2) (hN:4≤N):jF N (Au l) n t o K=K (val l:Int):=by
 subst hn
 obtain⟨M,rfl⟩:∃ M,N=M+4:=⟨N - 4,by omega⟩
 rw[oF];unfold jE
 match l,d,f with
 | [],_,_ =>
  rw[Le];unfold Mq
  simp[val]
 | [x],d,_ =>
  have hx:=(Ff.1 d).1
  rw[Le];unfold Mq
  simp only[A1a,A1b,Int.toNat_zero,A35,A1z,ZU,Cj]
  rw[show decide ((0:Int)<((0+1:Nat):Int))=true by decide,ct,show Ag 0 (0+1)=true by decide,ct,show wrap .i64 ((32:Int)*0)=0 by decide,show decide ((0:Int)<0)=false by decide,cf]
  rw[Le];unfold Mq
  rw[show wrap .i64 ((0:Int)+1)=1 by decide,show decide ((1:Int)<((0+1:Nat):Int))=false by decide,cf]
  have e:wrap .u64 ((wrap .u64 (x:Int))*2 ^ (min (Int.toNat 0) 64))=(x:Int):=by rw[LF (by omega)];simp;exact LF (by omega)
  rw[e,show(0:Int)=((0:Nat):Int) by rfl,Ard (by omega) (by omega)]
  simp[val]
 | [x,y],d,_ =>
  have hx:=(Ff.1 d).1
  have q:=(Ff.1 (Ff.1 d).2).1
  rw[Le];unfold Mq
  simp only[A1a,A1b,Int.toNat_zero,A35,A1z,ZU,Cj]
  rw[show decide ((0:Int)<((0+1+1:Nat):Int))=true by decide,ct,show Ag 0 (0+1+1)=true by decide,ct,show wrap .i64 ((32:Int)*0)=0 by decide,show decide ((0:Int)<0)=false by decide,cf]
  rw[Le];unfold Mq
  rw[show wrap .i64 ((0:Int)+1)=1 by decide,show decide ((1:Int)<((0+1+1:Nat):Int))=true by decide,ct,show Ag 1 (0+1+1)=true by decide,ct,show wrap .i64 ((32:Int)*1)=32 by decide,show decide ((32:Int)<0)=false by decide]
  simp only[show Int.toNat 1*1=1 by rfl,A2f,A1z,Cj,cf]
  rw[Le];unfold Mq
  rw[show wrap .i64 ((1:Int)+1)=2 by decide,show decide ((2:Int)<((0+1+1:Nat):Int))=false by decide,cf]
  have e:wrap .u64 ((wrap .u64 (x:Int))*2 ^ (min (Int.toNat 0) 64))=(x:Int):=by rw[LF (by omega)];simp;exact LF (by omega)
  have k:wrap .u64 ((wrap .u64 (y:Int))*2 ^ (min (Int.toNat 32) 64))=((y*2 ^ 32:Nat):Int):=by
   rw[LF (by omega),show(2:Int) ^ (min (Int.toNat 32) 64)=((2 ^ 32:Nat):Int) by rfl,At6,LF (by omega)]
  rw[e,k,show(0:Int)=((0:Nat):Int) by rfl,Ard (by omega) (by omega),Ard (by simp;omega) (by omega),Nat.zero_or,Nat.or_comm,Agk (by omega)]
  congr 1;simp only[val];omega
theorem fy {N:Nat} {v:Nat} (k:v<18446744073709551616) (hN:4≤N):∃ S,Av S∧val S=v∧∀ K:Nat→LA→O R,K0 N (v:Int) K=K (A7 v).length (Au S):=by
 have f:Av [v%4294967296,v/4294967296]:=Ff.2 ⟨by omega,Ff.2 ⟨by omega,M_⟩⟩
 have d:val [v%4294967296,v/4294967296]=v:=by simp[val];omega
 refine⟨_,f,d,fun K=>?_⟩
 rw[IY];unfold FW
 rw[Acm,Agj,As5 (show v/4294967296<4294967296 by omega)]
 have:=s8 (R:=R) (N:=N) (l:=[v%4294967296,v/4294967296]) (K:=fun c=>K c (Au [v%4294967296,v/4294967296])) f (by simp) 2 N (by simp) (by omega)
 rw[show [v%4294967296,v/4294967296].take 2=[v%4294967296,v/4294967296] by rfl,d] at this
 rw[fS];unfold iW
 exact this
theorem pA {N:Nat} {l:List Nat} {n:Nat} {t o:Bool} {K:Int→Bool→O R} (hn:n=l.length) (f:Av l) (d:fit l.length N):NM N (Au l) n t o K=if val l<18446744073709551616 then K (val l:Int) true else K 0 false:=by
 have q:=d.1
 rw[eG];unfold fb
 rw[Dr hn f d]
 by_cases h:val l<18446744073709551616
 ·have:=aO h
  rw[if_pos h,show decide ((((A7 (val l)).length:Nat):Int)>2)=false by simp;omega,cf,Al5 rfl (Ay _) this (by omega),A0]
 ·have:¬ (A7 (val l)).length≤2:=fun k=>h (Ajq k)
  rw[if_neg h,show decide ((((A7 (val l)).length:Nat):Int)>2)=true by simp;omega,ct]
theorem Al6 {N:Nat} {l:List Nat} {n:Nat} {t o:Bool} {K:Nat→LA→O R} (hn:n=l.length) (f:Av l) (d:fit l.length N):qd N (Au l) n t o K=K (A7 (val l)).length (Au (A7 (val l))):=by
 have k:=d.1;have q:=d.2
 have:=(Hh f).2
 rw[nq];unfold sY
 rw[Dr hn f d,At9 (by omega),ct,IT,A31,ct]
 congr 1
 unfold Du
 rw[Nat.min_self,A1x,A3v,A11,A1c (by rw[Es];exact A1h _),A3e (by simp[Es]),A1p]
theorem xZ {X:List Nat} {n:Nat} (h:X.length=n+1):val X=val (X.take n)+4294967296 ^ n*X[n]:=by
 have:=Cr (l:=X) (c:=n) (by omega)
 rwa [A1c (by omega)] at this
theorem Aej (a b:Nat):Int.tdiv (a:Int) (b:Int)=((a/b:Nat):Int):=rfl
theorem Aek (a b:Nat):Int.tmod (a:Int) (b:Int)=((a%b:Nat):Int):=rfl
theorem Azu {a b:Nat} (d:a<4294967296) (f:b<4294967296):nP .u64 (wrap .u64 ((a:Int)*2 ^ 32)) (b:Int)=((a*4294967296+b:Nat):Int):=by
 rw[show(2:Int) ^ 32=((2 ^ 32:Nat):Int) by rfl,At6,LF (by omega),Ard (by omega) (by omega),Agk (by omega)]
theorem Apk {l:List Nat} {d:Nat} (h:d<l.length):val (l.drop d)=l[d]+4294967296*val (l.drop (d+1)):=by
 rw[A17 h,val]
theorem Aht {S:List Nat} {n:Nat} (hS:Av S) (h:S.length=n+1):val S<(S[n]+1)*4294967296 ^ n:=by
 have f:=xZ h
 have d:=M7 (M6 hS n)
 rw[A2a,A2h (by omega)] at d
 rw[A23,A25 S[n]];omega
theorem Apl {x y:Nat} (f:1≤y) (h:y≤x):2*(y*(x%y))≤x*y:=by
 have k:=A3z x y
 have l:=A4e x (show 0<y by omega)
 have hq:1≤x/y:=by rw[Nat.le_div_iff_mul_le (by omega)];omega
 have n:y*1≤y*(x/y):=A30 _ hq
 have d:2*(x%y)≤x:=by omega
 have:=A30 y d
 rw[A25 x y,A47];exact this
theorem mN {a:List Nat} (d:Av a) (i:Nat):a.getD i 0<4294967296:=by
 by_cases h:i<a.length
 ·rw[A1m,A1g h];exact Jn d h
 ·rw[A1m,A2u (by omega)];simp
theorem Axl {c:Nat} (h:c≤1000000000000):((ble (0+c) 140737488355328)&&(ble ((0+c)*4) 140737488355328))=true:=by simp;omega
theorem gA {N:Nat} {l:List Nat} {t o:Bool} {K:Nat→LA→O R} (f:Av l) (hs:l.length≤1000000000000):∀ (c fuel:Nat),c≤l.length→c<fuel →
  Qk N K (Au l) l.length t o fuel (c:Int)=K (A7 (val (l.take c))).length (Au (A7 (val (l.take c))))
 | 0,fuel+1,k,_=>by
  rw[Qk];unfold DS
  rw[show decide (((0:Nat):Int)>0)=false by simp]
  rw[show((false:Bool)==true)=false by rfl,cf,Avi (by omega),ct,A1d,A1x,ZV,IT,A31,ct,Axl (by omega),ct];rfl
 | c+1,fuel+1,k,n=>by
  rw[Qk];unfold DS
  rw[At8,ct,wP (by omega),Ab (by omega),ct,zR (by omega),At7,Avi (by omega),ct,gA f hs c fuel (by omega) (by omega),A1d,A1x,ZV,IT,A31,ct,Axl (by omega),ct,A1w]
  by_cases d:l[c]=0
  ·rw[Cr (by omega),d];simp
  ·rw[zS f (by omega) d,A2a,A2h k]
   rw[Al4 d,cf]
theorem Gp {N:Nat} {l:List Nat} {n:Nat} {t o:Bool} {K:Nat→LA→O R} (hn:n=l.length) (f:Av l) (d:fit l.length N):G7 N (Au l) n t o K=K (A7 (val l)).length (Au (A7 (val l))):=by
 subst hn
 have k:=d.1;have q:=d.2
 rw[QA];unfold M'
 rw[gA f (by omega) l.length N (A1h _) (by omega),A2e]
theorem KT {N:Nat} {v:Nat} {K:Nat→LA→O R} (k:v<18446744073709551616) (hN:4≤N):It N (v:Int) K=K (A7 v).length (Au (A7 v)):=by
 have f:Av [v%4294967296,v/4294967296]:=Ff.2 ⟨by omega,Ff.2 ⟨by omega,M_⟩⟩
 have d:val [v%4294967296,v/4294967296]=v:=by simp[val];omega
 rw[FS];unfold BT
 rw[Acm,Agj,As5 (show v/4294967296<4294967296 by omega)]
 have:=gA (R:=R) (N:=N) (l:=[v%4294967296,v/4294967296]) (t:=false) (o:=true) (K:=K) f (by simp) 2 N (by simp) (by omega)
 rw[show [v%4294967296,v/4294967296].take 2=[v%4294967296,v/4294967296] by rfl,d] at this
 rw[QA];unfold M'
 exact this
theorem EE {N:Nat} {l:List Nat} {n:Nat} {t o:Bool} {K:Int→Bool→O R} (hn:n=l.length) (v:Av l) (s:fit l.length N):M8 N (Au l) n t o K=if val l<18446744073709551616 then K (val l:Int) true else K 0 false:=by
 have C:=s.1
 rw[WC];unfold IU
 rw[Gp hn v s]
 by_cases h:val l<18446744073709551616
 ·have z:=aO h
  rw[if_pos h,show decide ((((A7 (val l)).length:Nat):Int)>2)=false by simp;omega,cf]
  have f:=A0 (val l)
  have q:=Ay (val l)
  obtain⟨M,hM⟩:∃ M,N=M+4:=⟨N - 4,by omega⟩
  rw[hM]
  generalize A7 (val l)=d at *
  match d,z,f,q with
  | [],_,f,_ =>
   dsimp only
   rw[E9];unfold G8
   rw[←f,i64 (by simp)];rfl
  | [x],_,f,q =>
   have hx:=(Ff.1 q).1
   have k:val l=x:=by rw[←f];simp[val]
   dsimp only
   rw[E9];unfold G8
   rw[i64 (by simp),show((([x]:List Nat).length:Nat):Int) - 1=((0:Nat):Int) by rfl,show decide (((0:Nat):Int)≥0)=true by rfl,ct,Ab (by simp),ct,lK (by simp)]
   rw[E9];unfold G8
   rw[i64 (by simp),show decide ((((0:Nat):Int) - 1)≥0)=false by rfl,cf]
   have:=Azu (a:=0) (b:=x) (by omega) hx
   simp only[A5k]
   rw[LF (show x<18446744073709551616 by omega),show(0:Int)=((0:Nat):Int) by rfl,this,k];simp
  | [x,y],_,f,q =>
   have hx:=(Ff.1 q).1
   have u:=(Ff.1 (Ff.1 q).2).1
   have k:val l=y*4294967296+x:=by rw[←f];simp[val];omega
   dsimp only
   rw[E9];unfold G8
   rw[i64 (by simp),show((([x,y]:List Nat).length:Nat):Int) - 1=((1:Nat):Int) by rfl,show decide (((1:Nat):Int)≥0)=true by rfl,ct,Ab (by simp),ct,lK (by simp)]
   rw[E9];unfold G8
   rw[i64 (by simp),show(((1:Nat):Int) - 1)=((0:Nat):Int) by rfl,show decide (((0:Nat):Int)≥0)=true by rfl,ct,Ab (by simp),ct,lK (by simp)]
   rw[E9];unfold G8
   rw[i64 (by simp),show decide ((((0:Nat):Int) - 1)≥0)=false by rfl,cf]
   have o1:=Azu (a:=0) (b:=y) (by omega) u
   have o2:=Azu (a:=y) (b:=x) u hx
   simp only[A5k,A4o]
   rw[LF (show y<18446744073709551616 by omega),LF (show x<18446744073709551616 by omega),show(0:Int)=((0:Nat):Int) by rfl,o1,A35,A1w,o2,k]
 ·have:¬ (A7 (val l)).length≤2:=fun A=>h (Ajq A)
  rw[if_neg h,show decide ((((A7 (val l)).length:Nat):Int)>2)=true by simp;omega,ct]
theorem x4 {N:Nat} {x y:List Nat} {K:Int→O R} (hx:Av x) (k:Av y) (hs:x.length≤1000000000000) (l:x.length=y.length):∀ (i fuel:Nat),i≤x.length→i<fuel →
  Iu N K x.length y.length (Au x) (Au y) fuel ((i:Int) - 1)=K (Uy (val (x.take i)) (val (y.take i)))
 | 0,fuel+1,_,_=>by
  rw[Iu];unfold Tm
  rw[show decide ((((0:Nat):Int) - 1)≥0)=false by simp,cf]
  simp[OF]
 | i+1,fuel+1,hi,n=>by
  rw[Iu];unfold Tm
  rw[show(((i+1:Nat):Int) - 1)=(i:Int) by omega,show decide ((i:Int)≥0)=true by simp,ct,Ab (by omega),ct,lK (by omega),Ab (by omega),ct,lK (by omega),ct,lK (by omega),ct,lK (by omega),i64 (by omega),
   x4 hx k hs l i fuel (by omega) (by omega),Cr (by omega),Cr (by omega)]
  have d:=M7 (M6 hx i)
  have f:=M7 (M6 k i)
  rw[A2a,A2h (by omega)] at d f
  by_cases c1:x[i]<y[i]
  ·have:=qf d f c1
   rw[show decide (((x[i]:Nat):Int)<((y[i]:Nat):Int))=true by simp;exact c1,ct]
   unfold Uy;rw[if_pos this]
  ·by_cases c2:y[i]<x[i]
   ·have:=qf f d c2
    rw[show decide (((x[i]:Nat):Int)<((y[i]:Nat):Int))=false by simp;omega,cf,show decide (((x[i]:Nat):Int)>((y[i]:Nat):Int))=true by simp;exact c2,ct]
    unfold Uy;rw[if_neg (by omega),if_pos this]
   ·have:x[i]=y[i]:=by omega
    rw[show decide (((x[i]:Nat):Int)<((y[i]:Nat):Int))=false by simp;omega,cf,show decide (((x[i]:Nat):Int)>((y[i]:Nat):Int))=false by simp;omega,cf,this]
    unfold Uy
    congr 1
    by_cases a1:val (x.take i)<val (y.take i)
    ·rw[if_pos a1,if_pos (by omega)]
    ·by_cases a2:val (y.take i)<val (x.take i)
     ·rw[if_neg a1,if_pos a2,if_neg (by omega),if_pos (by omega)]
     ·rw[if_neg a1,if_neg a2,if_neg (by omega),if_neg (by omega)]
theorem Al7 {N:Nat} {a b:List Nat} {n m:Nat} {t o t' o':Bool} {K:Int→O R} (hn:n=a.length) (s:m=b.length) (f:Av a) (k:Av b) (d:fit (a.length+b.length) N) :
  AF N (Au a) n t o (Au b) m t' o' K=K (Uy (val a) (val b)):=by
 subst hn s
 have u:=d.1;have v:=d.2
 rw[TC];unfold DT
 dsimp only
 rw[Gp rfl f (d.le (by omega)),Gp rfl k (d.le (by omega))]
 have la:=(Hh f).2
 have lb:=(Hh k).2
 by_cases l:(A7 (val a)).length=(A7 (val b)).length
 ·rw[show((((A7 (val a)).length:Nat):Int) != (((A7 (val b)).length:Nat):Int))=false by simp;omega,cf,i64 (by omega),x4 (Ay _) (Ay _) (by omega) l _ N (A1h _) (by omega),A2e,l,A2e,A0,A0]
 ·rw[show((((A7 (val a)).length:Nat):Int) != (((A7 (val b)).length:Nat):Int))=true by simp;omega,ct]
  by_cases q:(A7 (val a)).length<(A7 (val b)).length
  ·have:=SB q
   rw[Hf q,ct]
   unfold Uy;rw[if_pos this]
  ·have:=SB (show(A7 (val b)).length<(A7 (val a)).length by omega)
   rw[Hy (by omega),cf]
   unfold Uy;rw[if_neg (by omega),if_pos this]
theorem Axm (a b:Nat):ep (a:Int) (b:Int)=((max a b:Nat):Int):=by
 unfold ep
 by_cases h:(b:Int)>(a:Int)
 ·rw[decide_eq_true h];show(b:Int)=_;omega
 ·rw[decide_eq_false h];show(a:Int)=_;omega
theorem x5 {N:Nat} {a b:List Nat} {t o t' o':Bool} {n:Nat} (v:Av a) (x:Av b) (y:a.length<n) (z:b.length<n) (hn:n≤max a.length b.length+1) (q:fit n N):∀ (m d fuel:Nat) (S:List Nat) (c:Nat),d+m=n→m<fuel→Av S→S.length=n→Aqx S d→c≤1 →
  val S+4294967296 ^ d*c=val (a.take d)+val (b.take d) →
  ∀ K:Nat→LA→O R,Kx N K (Au a) a.length t o (Au b) b.length t' o' fuel n (c:Int) (d:Int) (Au S)=K (A7 (val a+val b)).length (Au (A7 (val a+val b)))
 | 0,d,fuel+1,S,c,T,_,hS,u,A,U,C=>by
  intro K
  have D:d=n:=by omega
  subst D
  rw[A1c (by omega),A1c (by omega)] at C
  have F:c=0:=by
   rcases A2t c with h | h
   ·exact h
   ·exfalso
    have G:c=1:=by omega
    subst G
    obtain⟨e,rfl⟩:∃ e,d=e+1:=⟨d - 1,by omega⟩
    have x1:=M7 v
    have x2:=M7 x
    have y1:4294967296 ^ a.length≤4294967296 ^ e:=A18 (by omega) (by omega)
    have y2:4294967296 ^ b.length≤4294967296 ^ e:=A18 (by omega) (by omega)
    rw[A14] at C
    omega
  subst F
  have I:val S=val a+val b:=by omega
  rw[Kx];unfold IV
  rw[Hy (A1h _),cf,A1x,A1c (by rw[Es];omega),Gp u.symm hS (by rw[u];exact q),I]
 | m+1,d,fuel+1,S,c,T,V,hS,u,A,U,C=>by
  intro K
  have X:=q.1;have Y:=q.2
  have ga:=mN v d
  have gb:=mN x d
  have step:∀ s:Nat,s=c+a.getD d 0+b.getD d 0→val (S.set d (s%4294967296))+4294967296 ^ (d+1)*(s/4294967296)=val (a.take (d+1))+val (b.take (d+1)):=by
   intro s hs
   rw[aN A (by omega),OG a d,OG b d,A14]
   have e:=YP (4294967296 ^ d) s
   have e2:4294967296 ^ d*s=4294967296 ^ d*c+4294967296 ^ d*a.getD d 0+4294967296 ^ d*b.getD d 0:=by rw[hs,A2o,A2o]
   omega
  have next:∀ s:Nat,s=c+a.getD d 0+b.getD d 0→Kx N K (Au a) a.length t o (Au b) b.length t' o' fuel n ((s/4294967296:Nat):Int) ((d+1:Nat):Int) (Au (S.set d (s%4294967296)))=K (A7 (val a+val b)).length (Au (A7 (val a+val b))):=by
   intro s hs
   exact x5 v x y z hn q m (d+1) fuel (S.set d (s%4294967296)) (s/4294967296) (by omega) (by omega) (Ou hS (by omega) d) (by simpa using u) (aM A) (by omega) (step s hs) K
  have second:∀ w:Nat,w=c+a.getD d 0→FT N (Kx N K (Au a) a.length t o (Au b) b.length t' o' fuel) K (Au a) a.length t o (Au b) b.length t' o' n (Au S) (w:Int) (d:Int)=K (A7 (val a+val b)).length (Au (A7 (val a+val b))):=by
   intro w M
   unfold FT
   by_cases f:d<b.length
   ·have l:b.getD d 0=b[d]:=by rw[A1m,A1g f];rfl
    rw[Hf f,ct,Ab f,ct,zR f,Ab (by omega),ct,Aiu (by omega),ct,LF (show b[d]<18446744073709551616 by omega),yq,LF (show w+b[d]<18446744073709551616 by omega),Agj,Acm,s7,wS (by omega)]
    exact next _ (by rw[M,l])
   ·have l:b.getD d 0=0:=by rw[A1m,A2u (by omega)];rfl
    rw[Hy (by omega),cf,Ab (by omega),ct,Aiu (by omega),ct,Agj,Acm,s7,wS (by omega)]
    exact next _ (by rw[M,l];rfl)
  rw[Kx];unfold IV
  rw[Hf (by omega),ct]
  by_cases k:d<a.length
  ·have l:a.getD d 0=a[d]:=by rw[A1m,A1g k];rfl
   rw[Hf k,ct,Ab k,ct,zR k,LF (show a[d]<18446744073709551616 by omega),yq,LF (show c+a[d]<18446744073709551616 by omega)]
   exact second _ (by rw[l])
  ·have l:a.getD d 0=0:=by rw[A1m,A2u (by omega)];rfl
   rw[Hy (by omega),cf]
   exact second _ (by rw[l];rfl)
theorem x6 {N:Nat} {a b:List Nat} {n m:Nat} {t o t' o':Bool} {K:Nat→LA→O R} (hn:n=a.length) (f:m=b.length) (k:Av a) (l:Av b) (d:fit (a.length+b.length+1) N) :
  ZW N (Au a) n t o (Au b) m t' o' K=K (A7 (val a+val b)).length (Au (A7 (val a+val b))):=by
 subst hn f
 have q:=d.1;have s:=d.2
 rw[ni];unfold iR
 rw[Axm,wS (by omega),At9 (by omega),ct,A1d,Mc]
 exact x5 k l (n:=max a.length b.length+1) (by omega) (by omega) (A1h _) (d.le (by omega)) (max a.length b.length+1) 0 N (replicate (max a.length b.length+1) 0) 0 (by omega) (by omega) (Jo _) (by simp) (Zz _) (by omega) (by rw[Kv];simp[val]) K
theorem x7 {N:Nat} {a b:List Nat} (G:Av a) (I:Av b) (v:fit a.length N) (t:b.length≤a.length) (x:val b≤val a):∀ (m d fuel:Nat) (S:List Nat) (c:Nat),d+m=a.length→m<fuel→Av S→S.length=a.length→Aqx S d→c≤1 →
  val S+val (b.take d)=val (a.take d)+4294967296 ^ d*c →
  ∀ K:Nat→Bool→LA→O R,Ky N K a.length b.length (Au a) (Au b) fuel (c:Int) (d:Int) (Au S)=K (A7 (val a - val b)).length true (Au (A7 (val a - val b)))
 | 0,d,fuel+1,S,c,T,_,hS,u,z,U,M=>by
  intro K
  have A:d=a.length:=by omega
  subst A
  rw[A2e,A1c t] at M
  have n:=M7 hS
  rw[u] at n
  have C:c=0:=by
   rcases A40 0 c with h | h
   ·exfalso
    have:c=1:=by omega
    subst this
    omega
   ·omega
  subst C
  have D:val S=val a - val b:=by omega
  rw[Ky];unfold IW
  rw[Hy (A1h _),cf,A1x,A1c (by rw[Es];omega),Gp u.symm hS (by rw[u];exact v),D]
 | m+1,d,fuel+1,S,c,T,V,hS,u,z,U,M=>by
  intro K
  have Y:=v.1;have h2:=v.2
  have f:d<a.length:=by omega
  have ad:=Jn G f
  have gb:=mN I d
  have step:∀ y g k:Nat,y=c+b.getD d 0→a[d]+4294967296*k=g+y→val (S.set d g)+val (b.take (d+1))=val (a.take (d+1))+4294967296 ^ (d+1)*k:=by
   intro y g k s q
   rw[aN z (by omega),Cr f,OG b d,A14,A2p]
   have e:4294967296 ^ d*(a[d]+4294967296*k)=4294967296 ^ d*(g+(c+b.getD d 0)):=by rw[q,s]
   rw[A2o,A2o,A2o] at e
   omega
  have next:∀ y g k:Nat,g<4294967296→k≤1→y=c+b.getD d 0→a[d]+4294967296*k=g+y→Ky N K a.length b.length (Au a) (Au b) fuel (k:Int) ((d+1:Nat):Int) (Au (S.set d g))=K (A7 (val a - val b)).length true (Au (A7 (val a - val b))):=by
   intro y g k q F s X
   exact x7 G I v t x m (d+1) fuel (S.set d g) k (by omega) (by omega) (Ou hS q d) (by simpa using u) (aM z) F (step y g k s X) K
  have second:∀ y:Nat,y=c+b.getD d 0→FU N (Ky N K a.length b.length (Au a) (Au b) fuel) K a.length b.length (Au a) (Au b) (Au S) (d:Int) (y:Int)=K (A7 (val a - val b)).length true (Au (A7 (val a - val b))):=by
   intro y s
   unfold FU
   rw[Ab f,ct,lK f,LF (show a[d]<18446744073709551616 by omega)]
   by_cases n:a[d]<y
   ·rw[Hf n,ct,ct,Aiu (by omega),ct,show((a[d]:Nat):Int)+4294967296=((a[d]+4294967296:Nat):Int) by omega,LF (show a[d]+4294967296<18446744073709551616 by omega),yr (by omega) (by omega),As5 (by omega),s7,wS (by omega)]
    exact next y (a[d]+4294967296 - y) 1 (by omega) (by omega) s (by omega)
   ·rw[Hy (by omega),cf,ct,Aiu (by omega),ct,yr (by omega) (by omega),As5 (by omega),s7,wS (by omega)]
    exact next y (a[d] - y) 0 (by omega) (by omega) s (by omega)
  rw[Ky];unfold IW
  rw[Hf f,ct]
  by_cases l:d<b.length
  ·have q:b.getD d 0=b[d]:=by rw[A1m,A1g l];rfl
   rw[Hf l,ct,Ab l,ct,lK l,LF (show b[d]<18446744073709551616 by omega),yq,LF (show c+b[d]<18446744073709551616 by omega)]
   exact second _ (by rw[q])
  ·have q:b.getD d 0=0:=by rw[A1m,A2u (by omega)];rfl
   rw[Hy (by omega),cf]
   exact second _ (by rw[q];rfl)
theorem Al8 {N:Nat} {a b:List Nat} {n m:Nat} {t o t' o':Bool} {K:Nat→Bool→LA→O R} (hn:n=a.length) (s:m=b.length) (k:Av a) (l:Av b) (f:fit (a.length+b.length) N) :
  iU N (Au a) n t o (Au b) m t' o' K=if val b≤val a then K (A7 (val a - val b)).length true (Au (A7 (val a - val b))) else K 0 false []:=by
 subst hn s
 have u:=f.1;have v:=f.2
 have la:=(Hh k).2
 have lb:=(Hh l).2
 rw[np];unfold iT
 dsimp only
 rw[Al7 rfl rfl k l f]
 by_cases d:val b≤val a
 ·have q:=Kw d
  rw[if_pos d,show decide (Uy (val a) (val b)<0)=false by (unfold Uy;rw[if_neg (by omega)];split<;>rfl),cf,Gp rfl k (f.le (by omega)),Gp rfl l (f.le (by omega)),At9 (by omega),ct,Mc]
  have:=x7 (R:=R) (N:=N) (a:=A7 (val a)) (b:=A7 (val b)) (Ay _) (Ay _) (f.le (by omega)) q (by rw[A0,A0];exact d) (A7 (val a)).length 0 N (replicate (A7 (val a)).length 0) 0 (by omega) (by omega) (Jo _) (by simp) (Zz _) (by omega) (by rw[Kv];simp[val]) K
  rw[A0,A0] at this
  exact this
 ·rw[if_neg d,show decide (Uy (val a) (val b)<0)=true by (unfold Uy;rw[if_pos (by omega)];rfl),ct]
theorem uF {N:Nat}:∀ (k fuel n v:Nat),v<2 ^ k→k<fuel→n+k≤1000000000000→∃ b:Nat,b≤k∧v<2 ^ b∧(v≠0→2 ^ b≤2*v)∧(v=0→b=0)∧∀ K:Int→O R,Mo N K fuel (n:Int) (v:Int)=K ((n+b:Nat):Int)
 | 0,fuel+1,n,v,f,_,_=>by
  have d:v=0:=by simpa using f
  subst d
  refine⟨0,by omega,by simp,fun h=>absurd rfl h,fun _=>rfl,fun K=>?_⟩
  rw[Mo];unfold Vh
  rw[show decide (((0:Nat):Int)>0)=false by rfl,cf];rfl
 | k+1,fuel+1,n,v,f,u,hn=>by
  by_cases d:v=0
  ·subst d
   refine⟨0,by omega,by simp,fun h=>absurd rfl h,fun _=>rfl,fun K=>?_⟩
   rw[Mo];unfold Vh
   rw[show decide (((0:Nat):Int)>0)=false by rfl,cf];rfl
  ·obtain⟨b,x,y,q,s,t⟩:=uF (N:=N) k fuel (n+1) (v/2) (by rw[A14] at f;omega) (by omega) (by omega)
   refine⟨b+1,by omega,by rw[A14];omega,fun _=>?_,fun h=>absurd h d,fun K=>?_⟩
   ·by_cases l:v/2=0
    ·rw[s l];simp;omega
    ·have:=q l;rw[A14];omega
   ·rw[Mo];unfold Vh
    rw[show decide ((v:Int)>0)=true by rw[decide_eq_true_eq];omega,ct,wS (by omega),gp v 1,show v/2 ^ 1=v/2 by rfl,t]
    congr 2;omega
theorem Ahu {N:Nat} {a:List Nat} {n:Nat} {t o:Bool} (hn:n=a.length) (q:Av a) (l:fit a.length N):∃ nb:Nat,nb≤32*a.length∧val a<2 ^ nb∧(val a≠0→2 ^ nb≤2*val a)∧(val a=0→nb=0)∧∀ K:Int→O R,WD N (Au a) n t o K=K (nb:Int):=by
 have C:=l.1;have D:=l.2
 have la:=(Hh q).2
 by_cases f:val a=0
 ·refine⟨0,by omega,by rw[f];simp,fun h=>absurd f h,fun _=>rfl,fun K=>?_⟩
  rw[QC];unfold NC
  rw[Gp hn q l,f,F5];rfl
 ·have v:(A7 (val a)).length≠0:=fun h=>f (Ee.1 h)
  obtain⟨k,s⟩:∃ k,(A7 (val a)).length=k+1:=⟨(A7 (val a)).length - 1,by omega⟩
  have top:=Jn (Ay (val a)) (show k<(A7 (val a)).length by omega)
  have d:(A7 (val a))[k]'(by omega)≠0:=by
   have:=Aob (val a) (fR f)
   rw[A5d] at this
   simp only[s,A6f] at this
   exact this
  have tf:=xZ s
  have tl:=Aht (Ay (val a)) s
  rw[A0] at tf tl
  obtain⟨b,F,x,y,G,z⟩:=uF (R:=R) (N:=N) 32 N (32*k) ((A7 (val a))[k]'(by omega)) (by exact top) (by omega) (by omega)
  have u:(2:Nat) ^ (32*k+b)=4294967296 ^ k*2 ^ b:=by rw[A34,A56]
  refine⟨32*k+b,by omega,?_,fun _=>?_,fun h=>absurd h f,fun K=>?_⟩
  ·rw[u]
   have:((A7 (val a))[k]'(by omega)+1)*4294967296 ^ k≤2 ^ b*4294967296 ^ k:=A16 _ x
   rw[A25 (2 ^ b)] at this;omega
  ·rw[u]
   have:=A30 (4294967296 ^ k) (y d)
   rw[A47] at this
   omega
  ·rw[QC];unfold NC
   have A:wrap .i64 ((((A7 (val a)).length:Nat):Int) - 1)=(k:Int):=by rw[i64 (by omega)];omega
   have w2:wrap .i64 ((32:Int)*(k:Int))=((32*k:Nat):Int):=by rw[i64 (by omega)];omega
   rw[Gp hn q l,Al4 v,cf,A,Ab (by omega),ct,lK (by omega),w2]
   exact z K
theorem Ael {a:List Nat} {j:Nat} (h:j<a.length):val a=val (a.take j)+4294967296 ^ j*(a[j]+4294967296*val (a.drop (j+1))):=by
 have:=fQ (a.take j) (a.drop j)
 rw[A5v,A2a,A2h (by omega),Apk h] at this
 exact this
theorem mO (j k:Nat):(2:Nat) ^ (32*j+k)=4294967296 ^ j*2 ^ k:=by rw[A34,A56]
theorem Ar0 {a:List Nat} {j k:Nat} (d:Av a) (h:j<a.length) (n:k<32):val a/2 ^ (32*j+k)%2=a[j]/2 ^ k%2:=by
 have tl:=M7 (M6 d j)
 rw[A2a,A2h (by omega)] at tl
 have hP:0<4294967296 ^ j:=A4v (by omega)
 have f:0<2 ^ k:=A4v (by omega)
 rw[mO,←A5n,Ael h,A52 _ _ hP,A3n tl,A1w]
 have e:4294967296=2 ^ k*(2*2 ^ (31 - k)):=by rw[←Nat.pow_succ',←A34,show k+(31 - k+1)=32 by omega]
 have l:4294967296*val (a.drop (j+1))=2 ^ k*(2*(2 ^ (31 - k)*val (a.drop (j+1)))):=by
  rw[←A2p 2,←A2p,←e]
 rw[l,A52 _ _ f,Nat.add_mul_mod_self_left]
theorem Al9 {N:Nat} {a:List Nat} {n:Nat} {t o:Bool} {i:Nat} {K:Int→O R} (hn:n=a.length) (l:Av a) (hi:i<32*a.length) (hs:a.length≤1000000000):qc N (Au a) n t o (i:Int) K=K ((val a/2 ^ i%2:Nat):Int):=by
 subst hn
 have d:i/32<a.length:=by omega
 have aj:=Jn l d
 rw[nk];unfold sQ
 have q:wrap .i64 (Int.tdiv (i:Int) 32)=((i/32:Nat):Int):=by rw[show(32:Int)=((32:Nat):Int) by rfl,Aej,i64 (by omega)]
 have w2:wrap .u64 (Int.tmod (i:Int) 32)=((i%32:Nat):Int):=by rw[show(32:Int)=((32:Nat):Int) by rfl,Aek,LF (by omega)]
 rw[q,w2,show decide (((i/32:Nat):Int)≥(a.length:Int))=false by rw[decide_eq_false_iff_not];omega,cf,Ab d,ct,zR d,show decide (((i%32:Nat):Int)<0)=false by rw[decide_eq_false_iff_not];omega,cf,A1d,A2h (by omega),gp]
 have f:a[i/32]/2 ^ (i%32)<4294967296:=A3l (A4f _ _) aj
 have e:=Af8 (k:=.u32) rfl (a:=a[i/32]/2 ^ (i%32)) (b:=1) f (by decide)
 rw[show(1:Int)=((1:Nat):Int) by rfl,e,Nat.and_one_is_mod]
 have:=Ar0 l d (k:=i%32) (by omega)
 rw[A3z] at this
 rw[this]
theorem Apm {Q:List Nat} {j k:Nat} (hQ:Av Q) (h:j<Q.length) (l:k<32) (d:2 ^ (32*j+k+1)∣val Q):2 ^ (k+1)∣Q[j]:=by
 have tl:=M7 (M6 hQ j)
 rw[A2a,A2h (by omega)] at tl
 have hP:0<4294967296 ^ j:=A4v (by omega)
 rw[A2l,mO,Ael h] at d
 have f:val (Q.take j)=0:=by
  have x1:4294967296 ^ j∣val (Q.take j):=(Nat.dvd_add_left (A46 _ _)).1 (Nat.dvd_trans (A46 _ _) d)
  exact Nat.eq_zero_of_dvd_of_lt x1 tl
 rw[f,A1w] at d
 have x2:=Nat.dvd_of_mul_dvd_mul_left hP d
 have x3:2 ^ (k+1)∣4294967296*val (Q.drop (j+1)):=Nat.dvd_trans ⟨2 ^ (31 - k),by rw[←A34,show k+1+(31 - k)=32 by omega]⟩ (A46 _ _)
 exact(Nat.dvd_add_left x3).1 x2
theorem mP {N:Nat} {a b:List Nat} {t o:Bool} {B:Nat} (S:Av a) (q:b=A7 B) (hB:0<B) (l:fit (a.length+2*b.length+4) N):∀ (i fuel:Nat) (Q:List Nat) (r:Nat),i<fuel→i≤32*a.length→Av Q→Q.length=a.length→r=val a/2 ^ i%B→val Q=val a/2 ^ i/B*2 ^ i →
  ∀ K:Nat→Nat→Bool→LA→LA→O R,G1 N K (Au a) a.length t o b.length (Au b) fuel (A7 r).length ((i:Int) - 1) (Au Q) (Au (A7 r))=K (A7 (val a/B)).length (A7 (val a%B)).length true (Au (A7 (val a/B))) (Au (A7 (val a%B)))
 | 0,fuel+1,Q,r,_,_,hQ,A,hr,s=>by
  intro K
  rw[A5p,Nat.div_one] at hr s
  rw[A1x] at s
  have lr:(A7 r).length≤b.length:=by
   rw[q];apply Kw;rw[hr];exact Nat.le_of_lt (A4e _ hB)
  rw[G1];unfold Vi
  rw[show decide ((((0:Nat):Int) - 1)≥0)=false by rfl,cf,A1x,A1c (by rw[Es];omega),Gp A.symm hQ (by rw[A];exact l.le (by omega)),A1x,A1c (by rw[Es];omega),Gp rfl (Ay _) (l.le (by omega)),A0,s,hr]
 | i+1,fuel+1,Q,r,hfu,hi,hQ,A,hr,s=>by
  intro K
  have h1:=l.1;have h2:=l.2
  have hrB:r<B:=by rw[hr];exact A4e _ hB
  have lr:(A7 r).length≤b.length:=by rw[q];exact Kw (Nat.le_of_lt hrB)
  have f:val a/2 ^ i=2*(val a/2 ^ (i+1))+val a/2 ^ i%2:=by
   have:=A3z (val a/2 ^ i) 2
   rw[A5n,←A14] at this
   exact this.symm
  have T:=A3z (val a/2 ^ (i+1)) B
  have hb2:val a/2 ^ i%2<2:=A4e _ (by omega)
  generalize hH:val a/2 ^ (i+1)=H at *
  generalize C:val a/2 ^ i%2=bt at *
  have d:val a/2 ^ i=B*(2*(H/B))+(2*r+bt):=by
   rw[f,hr,A47];omega
  clear hr T f
  have D:i/32<Q.length:=by omega
  have qj:=Jn hQ D
  have F:2 ^ (32*(i/32)+i%32+1)∣val Q:=by rw[A3z,s];exact Nat.dvd_mul_left _ _
  have u:=Apm hQ D (A4e _ (by omega)) F
  have U:2 ^ i=4294967296 ^ (i/32)*2 ^ (i%32):=by rw[←mO,A3z]
  have G:2 ^ (i%32+1)≤4294967296:=(A18 (by omega) (show i%32+1≤32 by omega):2 ^ (i%32+1)≤2 ^ 32)
  have I:nP .u32 ((Q[i/32]:Nat):Int) (wrap .u32 ((1:Int)*2 ^ (min (Int.toNat ((i%32:Nat):Int)) 32)))=((Q[i/32]+2 ^ (i%32):Nat):Int)∧Q[i/32]+2 ^ (i%32)<4294967296:=by
   obtain⟨c,V⟩:=u
   have Y:0<2 ^ (i%32):=A4v (by omega)
   have X:Q[i/32]+2 ^ (i%32)<4294967296:=by
    obtain⟨w,hw⟩:∃ w,4294967296=2 ^ (i%32+1)*w:=⟨2 ^ (31 - i%32),by rw[←A34,show i%32+1+(31 - i%32)=32 by omega]⟩
    have x1:c<w:=by rw[V,hw] at qj;exact Nat.lt_of_mul_lt_mul_left qj
    have x2:=A30 (2 ^ (i%32+1)) (show c+1≤w from x1)
    rw[A2o,←hw,←V,A1x,A14] at x2
    omega
   refine⟨?_,X⟩
   rw[A1d,A2h (by omega),Int.one_mul,show(2:Int) ^ (i%32)=((2 ^ (i%32):Nat):Int) by simp,As5 (by rw[A14] at G;omega),wc (k:=.u32) rfl qj (by show 2 ^ (i%32)<4294967296;rw[A14] at G;omega)]
   congr 1
   have e:Q[i/32]=c*2 ^ (i%32+1):=by rw[V,A25]
   rw[e];exact Agk (by rw[A14];omega)
  have w1:wrap .i64 (Int.tdiv (i:Int) 32)=((i/32:Nat):Int):=by rw[show(32:Int)=((32:Nat):Int) by rfl,Aej,i64 (by omega)]
  have w2:wrap .u64 (Int.tmod (i:Int) 32)=((i%32:Nat):Int):=by rw[show(32:Int)=((32:Nat):Int) by rfl,Aek,LF (by omega)]
  have l2:(A7 (2*r+bt)).length≤b.length+1:=by
   apply FR
   have x1:=M7 (Ay B)
   rw[A0,←q] at x1
   rw[A14];omega
  have second:Ov N (G1 N K (Au a) a.length t o b.length (Au b) fuel) K (Au a) a.length t o b.length (i:Int) (Au b) (Au Q) (A7 (2*r+bt)).length (Au (A7 (2*r+bt)))=K (A7 (val a/B)).length (A7 (val a%B)).length true (Au (A7 (val a/B))) (Au (A7 (val a%B))):=by
   unfold Ov
   have lb:Av b:=by rw[q];exact Ay _
   have vb:val b=B:=by rw[q,A0]
   rw[A1x,A1x,A1c (by rw[Es];omega),A1c (by rw[Es];omega),Al8 rfl rfl (Ay _) lb (l.le (by omega)),A0,vb]
   by_cases M:B≤2*r+bt
   ·have y:val a/2 ^ i/B=2*(H/B)+1:=by
     rw[d,show B*(2*(H/B))+(2*r+bt)=B*(2*(H/B)+1)+(2*r+bt - B) by rw[A2o];omega,Nat.mul_add_div hB,A3n (show 2*r+bt - B<B by omega),A20]
    have z:val a/2 ^ i%B=2*r+bt - B:=by
     rw[d,show B*(2*(H/B))+(2*r+bt)=B*(2*(H/B)+1)+(2*r+bt - B) by rw[A2o];omega,Nat.mul_add_mod,A2b (by omega)]
    rw[if_pos M,ct,w1,w2,Ab (by omega),ct,lK D,show decide (((i%32:Nat):Int)<0)=false by rw[decide_eq_false_iff_not];omega,cf,ct,Aiu D,ct,I.1,s7,i64 (by omega)]
    refine mP S q hB l i fuel (Q.set (i/32) (Q[i/32]+2 ^ (i%32))) (2*r+bt - B) (by omega) (by omega) (Ou hQ I.2 _) (by simpa using A) z.symm ?_ K
    have x1:=qg (v:=Q[i/32]+2 ^ (i%32)) D
    rw[A2o,←U] at x1
    rw[y,A23,A55,A25 2,A2p,A25 2,←A14,←s]
    omega
   ·have y:val a/2 ^ i/B=2*(H/B):=by rw[d,Nat.mul_add_div hB,A3n (show 2*r+bt<B by omega),A20]
    have z:val a/2 ^ i%B=2*r+bt:=by rw[d,Nat.mul_add_mod,A2b (by omega)]
    rw[if_neg M,cf,i64 (by omega)]
    refine mP S q hB l i fuel Q (2*r+bt) (by omega) (by omega) hQ A z.symm ?_ K
    rw[y,A25 2,A2p,A25 2,←A14,←s]
  rw[G1];unfold Vi
  rw[show(((i+1:Nat):Int) - 1)=(i:Int) by omega,show decide ((i:Int)≥0)=true by rw[decide_eq_true_eq];omega,ct,A1x,A1c (by rw[Es];omega),x6 rfl rfl (Ay _) (Ay _) (l.le (by omega)),A0,Al9 rfl S (by omega) (by omega),C]
  have l3:(A7 (r+r)).length≤b.length+1:=by
   apply FR
   have x1:=M7 (Ay B)
   rw[A0,←q] at x1
   rw[A14];omega
  rcases(show bt=0∨bt=1 by omega) with rfl | rfl
  ·rw[show(((0:Nat):Int)==1)=false by rfl,cf]
   rw[show 2*r+0=r+r by omega] at second
   exact second
  ·rw[show(((1:Nat):Int)==1)=true by rfl,ct,A1x,A1c (by rw[Es];omega)]
   have:=x6 (R:=R) (N:=N) (a:=A7 (r+r)) (b:=[1]) (n:=(A7 (r+r)).length) (m:=1) (t:=false) (o:=true) (t':=false) (o':=true) (K:=fun af ag=>Ov N (G1 N K (Au a) a.length t o b.length (Au b) fuel) K (Au a) a.length t o b.length (i:Int) (Au b) (Au Q) af ag) rfl rfl (Ay _) (by intro x hx;simp at hx;omega) (l.le (by simp;omega))
   rw[A0,show val [1]=1 by rfl,show r+r+1=2*r+1 by omega] at this
   exact this.trans second
theorem Aai {N:Nat} {a b:List Nat} {n m:Nat} {t o t' o':Bool} {K:Nat→Nat→Bool→LA→LA→O R} (hn:n=a.length) (z:m=b.length) (s:Av a) (x:Av b) (l:val b≠0) (k:fit (a.length+2*b.length+4) N) :
  T5 N (Au a) n t o (Au b) m t' o' K=K (A7 (val a/val b)).length (A7 (val a%val b)).length true (Au (A7 (val a/val b))) (Au (A7 (val a%val b))):=by
 have A:=k.1;have C:=k.2
 have lb:=(Hh x).2
 have u:(A7 (val b)).length≠0:=fun h=>l (Ee.1 h)
 rw[WE];unfold IX
 dsimp only
 have long:Ss N K (Au a) n t o (A7 (val b)).length (Au (A7 (val b)))=K (A7 (val a/val b)).length (A7 (val a%val b)).length true (Au (A7 (val a/val b))) (Au (A7 (val a%val b))):=by
  obtain⟨nb,n1,n2,n3,n4,n5⟩:=Ahu (R:=R) (N:=N) (a:=a) (n:=n) (t:=false) (o:=o) hn s (k.le (by omega))
  unfold Ss FV
  rw[n5,hn,At9 (by omega),ct,Mc,i64 (by omega)]
  have y:val a/2 ^ nb=0:=A3n n2
  have:=mP (R:=R) (N:=N) (a:=a) (b:=A7 (val b)) (t:=t) (o:=o) (B:=val b) s rfl (by omega) (k.le (by omega)) nb N (replicate a.length 0) 0 (by omega) n1 (Jo _) (by simp) (by rw[y];simp) (by rw[y,Kv];simp) K
  exact this
 rw[Gp z x (k.le (by omega)),Al4 u,cf,EE hn s (k.le (by omega)),A1x,A1c (by rw[Es];exact A1h _)]
 by_cases f:val a<18446744073709551616
 ·rw[if_pos f,EE rfl (Ay _) (k.le (by omega)),A0]
  by_cases d:val b<18446744073709551616
  ·have q:val a/val b<18446744073709551616:=A3l (A4f _ _) f
   have v:val a%val b<18446744073709551616:=A3l (Nat.mod_le _ _) f
   rw[if_pos d,show((true:Bool)==true)=true by rfl,ct,At7,ct,Al4 l,cf,Aej,LF q,KT q (by omega),cf,Aek,KT v (by omega)]
  ·rw[if_neg d,show((true:Bool)==true)=true by rfl,ct,At7,cf,long]
 ·rw[if_neg f,EE rfl (Ay _) (k.le (by omega)),A0]
  by_cases d:val b<18446744073709551616
  ·rw[if_pos d,show((false:Bool)==true)=false by rfl,cf,long]
  ·rw[if_neg d,show((false:Bool)==true)=false by rfl,cf,long]
inductive LS where
 | nil
 | of (l:List Nat) (t o:Bool)
def LS.l:LS→List Nat
 | .nil=>[]
 | .of l _ _=>l
def LS.av:LS→AV
 | .nil=>.nsl
 | .of l t o=>.imm (Au l) l.length 1 t o
theorem Ahv {s:LS} {r:LA} {f:LA→Nat→O R}:Bb 1 (s.av::r) f=f (Au s.l) s.l.length:=by
 cases s<;>simp[Bb,LS.av,LS.l,Am4,Au]
theorem Ati {b:Bool} {r:LA} {f:Bool→O R}:OP (.bool b::r) f=f b:=by simp[OP,asBool]
def BI (neg:Bool) (s:LS):LA:=[.bool neg,s.av]
def Kp (neg:Bool) (s:LS):Int:=if neg then -(val s.l:Int) else (val s.l:Int)
theorem pC (neg:Bool) (s:LS):(Kp neg s).natAbs=val s.l:=by unfold Kp;cases neg<;>simp
theorem gC {neg:Bool} {s:LS} {f:Bool→O R}:OP (BI neg s) f=f neg:=Ati
theorem jo {neg:Bool} {s:LS} {f:LA→Nat→O R}:Bb 1 (drop 1 (BI neg s)) f=f (Au s.l) s.l.length:=by rw[BI,A2f,A1z,Ahv]
theorem Qy {N:Nat} {c:Bool} {a:Nat} {b:LA} {K:Bool→O R}:Ow N c a b K=K (c&&decide (0<a)):=by
 rw[dX];unfold fT
 cases c<;>simp
theorem EO {z:Int} {c:Bool} {m:Nat} (h:z=if c then -(m:Int) else (m:Int)):(c&&decide (0<(A7 m).length))=decide (z<0)∧z.natAbs=m:=by
 have k:z.natAbs=m:=by rw[h];cases c<;>simp
 refine⟨?_,k⟩
 by_cases f:m=0
 ·subst f;rw[h,F5];cases c<;>simp
 ·have:0<(A7 m).length:=by
   rcases A2t (A7 m).length with d | d
   ·exact absurd (Ee.1 d) f
   ·exact d
  rw[h];cases c<;>simp[this]<;>omega
theorem Tc {N:Nat} {v:Int} (n:-9223372036854775808≤v∧v≤9223372036854775807) (hN:4≤N):∃ S,Av S∧val S=v.natAbs∧∀ K:Bool→Nat→LA→O R,M9 N v K=K (decide (v<0)) (A7 v.natAbs).length (Au S):=by
 have k:v.natAbs<18446744073709551616:=by omega
 obtain⟨S,s1,s2,f⟩:=fy (R:=R) (N:=N) k hN
 refine⟨S,s1,s2,fun K=>?_⟩
 rw[WH];unfold WG
 by_cases h:v<0
 ·have e:wrap .u64 ((0:Int) - wrap .u64 v)=(v.natAbs:Int):=by rw[iL,iL];omega
  rw[decide_eq_true h,ct,e,f,Qy]
  have l:v.natAbs≠0:=by omega
  have:0<(A7 v.natAbs).length:=by
   rcases A2t (A7 v.natAbs).length with d | d
   ·exact absurd (Ee.1 d) l
   ·exact d
  simp[this]
 ·have e:wrap .u64 v=(v.natAbs:Int):=by rw[iL];omega
  rw[decide_eq_false h,cf,e,f,Qy];rfl
theorem uG {N:Nat} {neg:Bool} {s:LS} {o:Bool} {K:Int→O R} (hs:Av s.l) (d:fit s.l.length N):Z' N (BI neg s) o K=K (Kp neg s).sign:=by
 rw[nr];unfold s5
 rw[jo,uC rfl hs d]
 unfold Kp
 by_cases h:val s.l=0
 ·rw[h,OF,show((0:Int)==0)=true by rfl,ct];cases neg<;>rfl
 ·have:Uy (val s.l) 0=1:=by unfold Uy;rw[if_neg (by omega),if_pos (by omega)]
  rw[this,show((1:Int)==0)=false by rfl,cf,gC]
  cases neg
  ·rw[cf];simp only[A3r,if_false]
   congr 1
   rw[A2z];omega
  ·rw[ct];simp only[if_true]
   congr 1
   rw[A2i];omega
theorem Ama {N:Nat} {n1 n2:Bool} {s1 s2:LS} {o1 o2:Bool} (d:Av s1.l) (f:Av s2.l) (k:fit (s1.l.length+s2.l.length) N):∃ S,Av S∧val S=(Kp n1 s1*Kp n2 s2).natAbs∧∀ K:Bool→Nat→LA→O R,WI N (BI n1 s1) o1 (BI n2 s2) o2 K=K (decide (Kp n1 s1*Kp n2 s2<0)) (A7 (Kp n1 s1*Kp n2 s2).natAbs).length (Au S):=by
 obtain⟨S,a1,a2,a3⟩:=Apj (R:=R) (N:=N) (a:=s1.l) (b:=s2.l) (t:=false) (o:=o1) (t':=false) (o':=o2) rfl rfl d f k
 have n:Kp n1 s1*Kp n2 s2=if (!(n1==n2)) then -((val s1.l*val s2.l:Nat):Int) else ((val s1.l*val s2.l:Nat):Int):=by
  unfold Kp;cases n1<;>cases n2<;>simp[Int.mul_neg,Int.neg_mul]
 obtain⟨c1,c2⟩:=EO n
 refine⟨S,a1,by rw[a2,c2],fun K=>?_⟩
 rw[sX];unfold zI
 rw[gC,gC,jo,jo,a3,Qy,c1,c2]
theorem Amb {N:Nat} {n1 n2:Bool} {s1 s2:LS} {o1 o2:Bool} (k:Av s1.l) (n:Av s2.l) (q:fit (s1.l.length+s2.l.length+1) N):∃ S,Av S∧val S=(Kp n1 s1+Kp n2 s2).natAbs∧∀ K:Bool→Nat→LA→O R,zN N (BI n1 s1) o1 (BI n2 s2) o2 K=K (decide (Kp n1 s1+Kp n2 s2<0)) (A7 (Kp n1 s1+Kp n2 s2).natAbs).length (Au S):=by
 by_cases hn:n1=n2
 ·subst hn
  obtain⟨S,a1,a2,a3⟩:=Ape (R:=R) (N:=N) (a:=s1.l) (b:=s2.l) (t:=false) (o:=o1) (t':=false) (o':=o2) rfl rfl k n q
  have d:Kp n1 s1+Kp n1 s2=if n1 then -((val s1.l+val s2.l:Nat):Int) else ((val s1.l+val s2.l:Nat):Int):=by
   unfold Kp;cases n1<;>simp;omega
  obtain⟨c1,c2⟩:=EO d
  refine⟨S,a1,by rw[a2,c2],fun K=>?_⟩
  rw[QI];unfold iZ
  rw[gC,gC,show(n1==n1)=true by simp,ct,gC,jo,jo,a3,Qy,c1,c2]
 ·have f:(n1==n2)=false:=by simp[hn]
  by_cases s:val s2.l≤val s1.l
  ·obtain⟨S,a1,a2,a3⟩:=Aei (R:=R) (N:=N) (a:=s1.l) (b:=s2.l) (t:=false) (o:=o1) (t':=false) (o':=o2) rfl rfl k n (q.le (by omega)) s
   have d:Kp n1 s1+Kp n2 s2=if n1 then -((val s1.l - val s2.l:Nat):Int) else ((val s1.l - val s2.l:Nat):Int):=by
    unfold Kp;cases n1<;>cases n2<;>simp at hn ⊢<;>omega
   obtain⟨c1,c2⟩:=EO d
   refine⟨S,a1,by rw[a2,c2],fun K=>?_⟩
   rw[QI];unfold iZ
   rw[gC,gC,f,cf,jo,jo,a3,ct,gC,Qy,c1,c2]
  ·obtain⟨S,a1,a2,a3⟩:=Aei (R:=R) (N:=N) (a:=s2.l) (b:=s1.l) (t:=false) (o:=o2) (t':=false) (o':=o1) rfl rfl n k (q.le (by omega)) (by omega)
   have d:Kp n1 s1+Kp n2 s2=if n2 then -((val s2.l - val s1.l:Nat):Int) else ((val s2.l - val s1.l:Nat):Int):=by
    unfold Kp;cases n1<;>cases n2<;>simp at hn ⊢<;>omega
   obtain⟨c1,c2⟩:=EO d
   refine⟨S,a1,by rw[a2,c2],fun K=>?_⟩
   rw[QI];unfold iZ
   rw[gC,gC,f,cf,jo,jo,Apf rfl rfl k n (q.le (by omega)) (by omega),cf,jo,jo,a3,gC,Qy,c1,c2]
def vq (x y:Int):Int:=if x<y then -1 else if y<x then 1 else 0
theorem Apn (z:Int) (d:Nat) (l:d≠0):(mkRat z d).num.natAbs=z.natAbs/Nat.gcd z.natAbs d∧((mkRat z d).num<0↔z<0)∧(mkRat z d).den=d/Nat.gcd z.natAbs d:=by
 have q:0<Nat.gcd z.natAbs d:=A5a _ (by omega)
 rw[Rat.num_mkRat,Rat.den_mkRat,if_neg l,if_neg l,A5o d]
 have f:((Nat.gcd z.natAbs d:Nat):Int)∣z:=Int.dvd_natAbs.1 (Int.natCast_dvd_natCast.2 (A5g _ _))
 obtain⟨c,n⟩:=f
 have s:z.natAbs.gcd d=Nat.gcd z.natAbs d:=rfl
 generalize Nat.gcd z.natAbs d=g at *
 refine⟨?_,?_,rfl⟩
 ·rw[n,A49 _ (by omega),Int.natAbs_mul,A3s,Nat.mul_div_cancel_left _ q]
 ·rw[n,A49 _ (by omega)]
  constructor
  ·intro h;exact Int.mul_neg_of_pos_of_neg (by omega) h
  ·intro h;rcases Int.lt_or_le c 0 with k | k
   ·exact k
   ·have:=Int.mul_nonneg (show(0:Int)≤g by omega) k;omega
structure RatD where
 neg:Bool
 ns:LS
 ds:LS
def RatD.av (x:RatD):LA:=[.bool x.neg,x.ns.av,x.ds.av]
def RatD.ok (x:RatD):Prop:=Av x.ns.l∧Av x.ds.l
def RatD.m (x:RatD):Nat:=max x.ns.l.length x.ds.l.length
def RatD.q (x:RatD):Rat:=mkRat (Kp x.neg x.ns) (val x.ds.l)
def RatD.can (x:RatD) (q:Rat):Prop:=x.neg=decide (q.num<0)∧x.ns.l=A7 q.num.natAbs∧x.ds.l=A7 q.den
def qm (q:Rat):Nat:=max (A7 q.num.natAbs).length (A7 q.den).length
theorem RatD.can.ok {x:RatD} {q:Rat} (h:x.can q):x.ok:=⟨by rw[h.2.1];exact Ay _,by rw[h.2.2];exact Ay _⟩
theorem RatD.can.m {x:RatD} {q:Rat} (h:x.can q):x.m=qm q:=by unfold RatD.m qm;rw[h.2.1,h.2.2]
theorem RatD.can.q {x:RatD} {q:Rat} (h:x.can q):x.q=q:=by
 unfold RatD.q Kp
 rw[h.1,h.2.1,h.2.2,A0,A0]
 have:(if decide (q.num<0)=true then -(q.num.natAbs:Int) else (q.num.natAbs:Int))=q.num:=by
  by_cases d:q.num<0
  ·rw[if_pos (by simpa using d)];omega
  ·rw[if_neg (by simpa using d)];omega
 rw[this,Rat.mkRat_self]
theorem Auv {x:RatD} {f:Bool→O R}:OP x.av f=f x.neg:=Ati
theorem Auw {x:RatD} {f:LA→Nat→O R}:Bb 1 (drop 1 x.av) f=f (Au x.ns.l) x.ns.l.length:=by rw[RatD.av,A2f,A1z,Ahv]
theorem Ahw {x:RatD} {f:LA→Nat→O R}:Bb 1 (drop 2 x.av) f=f (Au x.ds.l) x.ds.l.length:=by rw[RatD.av,A2f,A2f,A1z,Ahv]
theorem Aem (x:RatD):ble 3 (List.length x.av)=true:=rfl
theorem pD (x:RatD):take 3 x.av=x.av:=rfl
theorem Axn (x:RatD):take 2 x.av=BI x.neg x.ns:=rfl
theorem A0j (x:RatD):((beq 0 0)&&((beq (List.length x.av) 3)&&(beq 3 3)))=true:=rfl
theorem Azv (x:RatD):beq (List.length x.av) 3=true:=rfl
theorem Atj (n:Bool) (s:LS):((beq 0 0)&&((beq (List.length (BI n s)) 2)&&(beq 2 2)))=true:=rfl
theorem vr (n:Bool) (s:LS):ble 2 (List.length (BI n s))=true:=rfl
theorem Axo (n:Bool) (s:LS):take 2 (BI n s)=BI n s:=rfl
theorem Amc:Av [1]:=by intro x hx;simp at hx;omega
theorem Z0:A7 1=[1]:=by rw[DR (by omega)];simp[F5]
theorem I4 {v:Nat} {S:List Nat} (d:Av S) (f:val S=v):take ((A7 v).length*1) (Au S)=Au (A7 v):=by rw[←f,Alf d]
theorem Ar1 (neg:Bool) (l:List Nat) (t o:Bool):([.bool neg,.imm (Au l) l.length 1 t o]:LA)=BI neg (.of l t o):=rfl
theorem Ar2 {z:Int} {t o:Bool}:Kp (decide (z<0)) (.of (A7 z.natAbs) t o)=z:=by
 unfold Kp LS.l;rw[A0]
 by_cases h:z<0
 ·rw[if_pos (by simpa using h)];omega
 ·rw[if_neg (by simpa using h)];omega
theorem vt {N:Nat} {v:Int} (f:-9223372036854775808≤v∧v≤9223372036854775807) (hN:4≤N):∃ d:RatD,d.can (v:Rat)∧∀ K:LA→O R,QJ N v K=K d.av:=by
 obtain⟨S,s1,s2,k⟩:=Tc (R:=R) (N:=N) f hN
 refine⟨⟨decide (v<0),.of (A7 v.natAbs) false false,.of (A7 1) false false⟩,⟨rfl,rfl,rfl⟩,fun K=>?_⟩
 rw[WK];unfold WJ
 rw[k,I4 s1 s2,Z0];rfl
theorem Ahx {N:Nat} {x:RatD} {o:Bool} (hx:x.ok) (n:fit x.m N):∃ (neg:Bool) (s:LS) (l:List Nat) (o1 o2:Bool),Av s.l∧Av l∧val l≠0∧s.l.length≤x.m∧l.length≤max x.m 1∧mkRat (Kp neg s) (val l)=x.q∧∀ K:LA→Bool→LA→Nat→Bool→O R,i8 N x.av o K=K (BI neg s) o1 (Au l) l.length o2:=by
 have f:x.ns.l.length≤x.m:=A5q _ _
 have d:x.ds.l.length≤x.m:=Nat.le_max_right _ _
 by_cases k:val x.ds.l=0
 ·refine⟨false,.nil,[1],false,false,M_,Amc,by decide,by simp[LS.l],by simp;omega,?_,fun K=>?_⟩
  ·unfold RatD.q;rw[k];simp[Kp,LS.l,val]
  ·rw[QL];unfold Z_
   rw[Ahw,uC rfl hx.2 (n.le d),k,OF];rfl
 ·refine⟨x.neg,x.ns,x.ds.l,o,o,hx.1,hx.2,k,f,by omega,rfl,fun K=>?_⟩
  have:Uy (val x.ds.l) 0=1:=by unfold Uy;rw[if_neg (by omega),if_pos (by omega)]
  rw[QL];unfold Z_
  rw[Ahw,uC rfl hx.2 (n.le d),this,show((1:Int)==0)=false by rfl,cf,show ble 2 (List.length x.av)=true by rfl,ct,Ahw,Axn,Atj,ct,vr,ct,Axo]
theorem Axp (z:Int) (d:Nat) (k:d≠0):(mkRat z d).num.sign=z.sign:=by
 obtain⟨n,l,_⟩:=Apn z d k
 rcases A45 z 0 with h | h | h
 ·rw[A2i h,A2i (l.2 h)]
 ·subst h;simp
 ·have hn:¬ (mkRat z d).num<0:=fun f=>by have:=l.1 f;omega
  have q:(mkRat z d).num≠0:=fun f=>by
   have:mkRat z d=0:=Rat.num_eq_zero.1 f
   rw[Rat.mkRat_eq_zero k] at this;omega
  rw[A2z h,A2z (by omega)]
theorem uH {N:Nat} {x:RatD} {o:Bool} {K:Int→O R} (hx:x.ok) (d:fit x.m N):i_ N x.av o K=K x.q.num.sign:=by
 obtain⟨neg,s,l,o1,o2,f,v,k,n,y,t,u⟩:=Ahx (R:=R) (o:=o) hx d
 rw[nv];unfold s6
 rw[Aem,ct,pD,u,Atj,ct,vr,ct,Axo,uG f (d.le n),←t,Axp _ _ k]
theorem x8 {N:Nat} {a b c:Nat} {s:Int} (hN:4≤N) (z:a<18446744073709551616) (T:b<9223372036854775808) (A:0<c) (C:c∣a):∀ (k fuel x y:Nat),k<fuel→x*y<2 ^ k→y≤x→Nat.gcd x y=c→∃ d:RatD,d.neg=decide (s<0)∧d.ns.l=A7 (a/c)∧d.ds.l=A7 (b/c)∧∀ K:LA→O R,Dn N K s (b:Int) (a:Int) fuel (x:Int) (y:Int)=K d.av:=by
 have base:∀ (fuel:Nat),∃ d:RatD,d.neg=decide (s<0)∧d.ns.l=A7 (a/c)∧d.ds.l=A7 (b/c)∧∀ K:LA→O R,Dn N K s (b:Int) (a:Int) (fuel+1) (c:Int) ((0:Nat):Int)=K d.av:=by
  intro fuel
  have u:a/c<18446744073709551616:=A3l (A4f _ _) z
  have v:b/c<18446744073709551616:=A3l (A4f _ _) (by omega)
  obtain⟨S1,s1,s2,D⟩:=fy (R:=R) (N:=N) u hN
  obtain⟨S2,t1,t2,t3⟩:=fy (R:=R) (N:=N) v hN
  refine⟨⟨decide (s<0),.of (A7 (a/c)) false false,.of (A7 (b/c)) false false⟩,rfl,rfl,rfl,fun K=>?_⟩
  rw[Dn];unfold Og
  rw[show(((0:Nat):Int) != 0)=false by rfl,cf,Al4 (by omega),cf,Aej,LF u,D,cf,LF (show b<18446744073709551616 by omega),Aej,LF v,t3,I4 s1 s2,I4 t1 t2];rfl
 intro k
 induction k with
 | zero =>
  intro fuel x y G f q n
  obtain⟨fuel,rfl⟩:∃ F,fuel=F+1:=⟨fuel - 1,by omega⟩
  have I:y=0:=by
   rcases A2t y with h | h
   ·exact h
   ·have U:=A30 x (show 1≤y by omega)
    rw[A5p] at f;omega
  subst I
  rw[A6h] at n;subst n
  exact base fuel
 | succ k M =>
  intro fuel x y G f q n
  obtain⟨fuel,rfl⟩:∃ F,fuel=F+1:=⟨fuel - 1,by omega⟩
  rcases A2t y with h | h
  ·subst h;rw[A6h] at n;subst n;exact base fuel
  ·have V:=Apl (show 1≤y by omega) q
   have X:=A4e x h
   have t:Nat.gcd y (x%y)=Nat.gcd x y:=by rw[A5o,←Nat.gcd_rec,A5o]
   obtain⟨d,S,d2,d3,d4⟩:=M fuel y (x%y) (by omega) (by rw[A14] at f;omega) (by omega) (by rw[t,n])
   refine⟨d,S,d2,d3,fun K=>?_⟩
   rw[Dn];unfold Og
   rw[show((y:Int) != 0)=true by rw[bne_iff_ne];omega,ct,Al4 (by omega),cf,Aek]
   exact d4 K
theorem vu {N:Nat} {s:Int} {b:Nat} (hs:-9223372036854775808≤s∧s≤9223372036854775807) (q:0<b) (v:b<9223372036854775808) (hN:1000≤N):∃ d:RatD,d.can (mkRat s b)∧∀ K:LA→O R,Un N s (b:Int) K=K d.av:=by
 obtain⟨m1,m2,m3⟩:=Apn s b (by omega)
 have f:∀ d:RatD,d.neg=decide (s<0)→d.ns.l=A7 (s.natAbs/Nat.gcd s.natAbs b)→d.ds.l=A7 (b/Nat.gcd s.natAbs b)→d.can (mkRat s b):=by
  intro d x y z
  exact⟨by rw[x];congr 1;exact propext m2.symm,by rw[y,m1],by rw[z,m3]⟩
 have n:s.natAbs<18446744073709551616:=by omega
 have start:∀ K:LA→O R,Un N s (b:Int) K=Dn N K s (b:Int) (s.natAbs:Int) N (b:Int) (s.natAbs:Int):=by
  intro K
  rw[TJ];unfold D_ V5 BU
  dsimp only
  by_cases h:s<0
  ·have e:wrap .u64 ((0:Int) - wrap .u64 s)=(s.natAbs:Int):=by rw[iL,iL];omega
   rw[decide_eq_true h,ct,e,LF (by omega)]
  ·have e:wrap .u64 s=(s.natAbs:Int):=by rw[iL];omega
   rw[decide_eq_false h,cf,e,LF (by omega)]
 have k:0<Nat.gcd s.natAbs b:=A5a _ q
 by_cases t:s.natAbs≤b
 ·obtain⟨d,u,d2,d3,d4⟩:=x8 (R:=R) (N:=N) (a:=s.natAbs) (b:=b) (c:=Nat.gcd s.natAbs b) (s:=s) (by omega) n v k (A5g _ _) 128 N b s.natAbs (by omega) (by
   have:=A5i (show b<18446744073709551616 by omega) n;exact this) t (A5o _ _)
  exact⟨d,f d u d2 d3,fun K=>by rw[start,d4]⟩
 ·obtain⟨F,hF⟩:∃ F,N=F+1:=⟨N - 1,by omega⟩
  obtain⟨d,u,d2,d3,d4⟩:=x8 (R:=R) (N:=N) (a:=s.natAbs) (b:=b) (c:=Nat.gcd s.natAbs b) (s:=s) (by omega) n v k (A5g _ _) 128 F s.natAbs (b%s.natAbs) (by omega) (by
   rw[A2b (by omega)]
   have:=A5i n (show b<18446744073709551616 by omega);exact this) (by rw[A2b (by omega)];omega) (by rw[A2b (by omega)])
  refine⟨d,f d u d2 d3,fun K=>?_⟩
  rw[start,←d4 K]
  conv=>lhs;rw[show(Dn N K s (b:Int) (s.natAbs:Int) N)=Dn N K s (b:Int) (s.natAbs:Int) (F+1) by rw[←hF]]
  rw[Dn];unfold Og
  rw[show((s.natAbs:Int) != 0)=true by rw[bne_iff_ne];omega,ct,Al4 (by omega),cf,Aek]
theorem Aen {N:Nat} {a b:Int} {K:Int→O R}:Tn N a b K=K (vq a b):=by
 rw[CK];unfold X9
 simp only[JB];unfold F'
 rw[show(a != a)=false by simp,show(b != b)=false by simp]
 dsimp only
 rw[cf,cf]
 unfold vq
 by_cases h:a<b
 ·rw[decide_eq_true h,ct,if_pos h]
 ·rw[decide_eq_false h,cf,if_neg h]
  by_cases d:b<a
  ·rw[decide_eq_true (show a>b from d),ct,if_pos d]
  ·rw[decide_eq_false (show ¬ a>b from d),cf,if_neg d]
theorem vw {N:Nat} {a b:Int} {K:Int→O R}:Pj N a b K=K (vq a b):=by
 rw[W5];unfold T7
 simp only[CV];unfold Yc
 rw[show(a != a)=false by simp,show(b != b)=false by simp]
 dsimp only
 rw[cf,cf]
 unfold vq
 by_cases h:a<b
 ·rw[decide_eq_true h,ct,if_pos h]
 ·rw[decide_eq_false h,cf,if_neg h]
  by_cases d:b<a
  ·rw[decide_eq_true (show a>b from d),ct,if_pos d]
  ·rw[decide_eq_false (show ¬ a>b from d),cf,if_neg d]
theorem Apo {k l:Nat} (h:k≤l):4294967296 ^ k≤4294967296 ^ l:=A18 (by omega) h
theorem Aux {v k:Nat} (h:(A7 v).length≤k):v<4294967296 ^ k:=by
 have:=M7 (Ay v);rw[A0] at this
 exact A22 this (Apo h)
def Td (z:Int):LA:=BI (decide (z<0)) (.of (A7 z.natAbs) false false)
theorem App (z:Int) (K:LA→O R):(cond ((beq 0 0)&&((beq (List.length (Td z)) 2)&&(beq 2 2))) (cond (ble 2 (List.length (Td z))) (K (take 2 (Td z))) none) none)=K (Td z):=rfl
theorem Azw (z w:Int):setCells (Td z) 0 (Td w)=Td w:=rfl
theorem A0k (z:Int):take 2 (Td z)=Td z:=rfl
theorem Axq (z:Int):ble 2 (List.length (Td z))=true:=rfl
theorem Axr (z:Int):beq (List.length (Td z)) 2=true:=rfl
theorem Avl (v:Nat):take ((A7 v).length*1) (Au (A7 v))=Au (A7 v):=I4 (Ay _) (A0 v)
theorem gE {N:Nat} {neg:Bool} {l:List Nat} {n:Nat} {t o:Bool} {K:LA→O R} (hn:n=l.length) (d:Av l) (f:fit l.length N):NB N neg (Au l) n t o K=K (Td (if neg then -(val l:Int) else (val l:Int))):=by
 obtain⟨c1,c2⟩:=EO (z:=if neg then -(val l:Int) else (val l:Int)) (c:=neg) (m:=val l) rfl
 rw[iM];unfold ky
 rw[Gp hn d f,Avl]
 unfold Td
 rw[←c1,c2]
 cases neg
 ·rfl
 ·rw[show((true:Bool)==true)=true by rfl,ct,At7];simp[BI,LS.av]
theorem vz {N:Nat} {v:Int} {K:LA→O R} (f:-9223372036854775808≤v∧v≤9223372036854775807) (hN:2000≤N):AE N v K=K (Td v):=by
 have d:v.natAbs<18446744073709551616:=by omega
 have k:=aO d
 rw[TB];unfold QB
 by_cases h:v<0
 ·have e:wrap .u64 (wrap .u64 (wrap .i64 ((0:Int) - wrap .i64 (v+1)))+1)=(v.natAbs:Int):=by
   rw[i64 (a:=v+1) (by omega),i64 (by omega),iL,iL];omega
  rw[decide_eq_true h,ct,e,KT d (by omega),Avl,gE rfl (Ay _) ⟨by omega,by omega⟩,A0]
  have:(if true=true then -(v.natAbs:Int) else (v.natAbs:Int))=v:=by rw[if_pos rfl];omega
  rw[this];exact App _ _
 ·have e:wrap .u64 v=(v.natAbs:Int):=by rw[iL];omega
  rw[decide_eq_false h,cf,e,KT d (by omega),Avl,gE rfl (Ay _) ⟨by omega,by omega⟩,A0]
  have:(if false=true then -(v.natAbs:Int) else (v.natAbs:Int))=v:=by rw[if_neg (by decide)];omega
  rw[this];exact App _ _
theorem Ahy {N:Nat} {n:Bool} {s:LS} {o:Bool} {K:LA→O R} (hs:Av s.l) (d:fit s.l.length N):iN N (BI n s) o K=K (Td (Kp n s)):=by
 rw[iO];unfold kz
 rw[gC,jo,gE rfl hs d];exact App _ _
end
end Gx
namespace Gx
open Go
def De (c:UInt8):Bool:=decide (48≤c.toNat)&&decide (c.toNat≤57)
def Jd (s:Lu):Nat:=s.foldl (fun a c=>10*a+(c.toNat - 48)) 0
def Aeo (s:Lu):Bool:=s.all De&&!s.isEmpty
def Sj (s:Lu):Bool:=Aeo s&&(s==[48]||s.head? != some 48)
abbrev dec:=Lib.decDigits
theorem Amd (s:Lu):∀ a,s.foldl (fun a c=>10*a+(c.toNat - 48)) a=a*10 ^ s.length+Jd s:=by
 unfold Jd
 induction s with
 | nil=>intro a;simp
 | cons c r d =>
  intro a
  rw[A3x,A3x,d,d (10*0+_),A1a,A14,A23,A23]
  have:10*a*10 ^ r.length=a*(10 ^ r.length*10):=by rw[A25 10 a,A2p,A25 10]
  rw[this];omega
theorem YQ (a b:Lu):Jd (a++b)=Jd a*10 ^ b.length+Jd b:=by
 have:=Amd b (Jd a)
 unfold Jd at *
 rw[List.foldl_append];exact this
theorem Ame (a:Lu) (c:UInt8):Jd (a++[c])=10*Jd a+(c.toNat - 48):=by rw[YQ];simp[Jd];omega
theorem mQ (c:UInt8) (r:Lu):Jd (c::r)=(c.toNat - 48)*10 ^ r.length+Jd r:=by
 have:=YQ [c] r
 simpa[Jd] using this
theorem Aaj {s:Lu} (h:s.all De=true):Jd s<10 ^ s.length:=by
 induction s with
 | nil=>simp[Jd]
 | cons c r d =>
  simp only[A12,A1f] at h
  have f:=d h.2
  have k:c.toNat≤57:=by have:=h.1;simp[De] at this;omega
  rw[mQ,A1a,A14]
  have:(c.toNat - 48)*10 ^ r.length≤9*10 ^ r.length:=A16 _ (by omega)
  omega
theorem Uw {u:Nat} (h:u<10):dec u=[UInt8.ofNat (48+u)]:=by rw[dec,Lib.decDigits,dif_pos h]
theorem SC {u:Nat} (h:10≤u):dec u=dec (u/10)++[UInt8.ofNat (48+u%10)]:=by
 rw[dec,Lib.decDigits,dif_neg (by omega)]
theorem aP {k:Nat} (h:k<10):De (UInt8.ofNat (48+k))=true∧(UInt8.ofNat (48+k)).toNat=48+k:=by
 have:(UInt8.ofNat (48+k)).toNat=48+k:=by simp;omega
 exact⟨by simp[De,this];omega,this⟩
theorem OH:∀ u,(dec u).all De=true:=by
 intro u
 induction u using Nat.strongRecOn with
 | ind u d =>
  by_cases h:u<10
  ·rw[Uw h];simpa using(aP h).1
  ·rw[SC (by omega),List.all_append,d (u/10) (by omega)]
   simpa using(aP (k:=u%10) (by omega)).1
theorem gF (u:Nat):dec u≠[]:=by
 by_cases h:u<10
 ·rw[Uw h];simp
 ·rw[SC (by omega)];simp
theorem YR:∀ u,Jd (dec u)=u:=by
 intro u
 induction u using Nat.strongRecOn with
 | ind u d =>
  by_cases h:u<10
  ·rw[Uw h];simp only[Jd,A3x,List.foldl_nil,(aP h).2];omega
  ·rw[SC (by omega),Ame,d (u/10) (by omega),(aP (k:=u%10) (by omega)).2];omega
theorem Aep:∀ u,0<u→(dec u).head?≠some 48:=by
 intro u
 induction u using Nat.strongRecOn with
 | ind u f =>
  intro k
  by_cases h:u<10
  ·rw[Uw h]
   intro e
   simp at e
   have:=congrArg UInt8.toNat e
   simp at this;omega
  ·rw[SC (by omega)]
   have:=f (u/10) (by omega) (by omega)
   cases d:dec (u/10) with
   | nil=>exact absurd d (gF _)
   | cons c r=>rw[d] at this;simpa using this
theorem mR (u:Nat):Sj (dec u)=true:=by
 have d:=OH u
 have f:=gF u
 rcases A2t u with h | h
 ·subst h;rw[Uw (by omega)];decide
 ·have k:=Aep u h
  simp only[Sj,Aeo,d,A2c,A1f,A4x,bne_iff_ne]
  refine⟨?_,.inr k⟩
  cases l:dec u with
  | nil=>exact absurd l f
  | cons c r=>rfl
theorem Ar3 {u k:Nat} (x:0<k):(dec u).length≤k↔u<10 ^ k:=by
 constructor
 ·intro h
  have:=Aaj (OH u)
  rw[YR] at this
  exact A22 this (A18 (by omega) h)
 ·intro h
  apply A44
  intro hn
  have d:k<(dec u).length:=by omega
  have q:0<u:=by
   rcases A2t u with e | e
   ·subst e;rw[Uw (by omega)] at d;simp at d;omega
   ·exact e
  have n:=Aep u q
  cases f:dec u with
  | nil=>exact gF u f
  | cons c r =>
   rw[f] at n d
   have s:De c=true:=by have:=OH u;rw[f] at this;simp at this;exact this.1
   have l:c≠48:=by simpa using n
   have t:1≤c.toNat - 48:=by
    simp[De] at s
    have:c.toNat≠48:=fun e=>l (A5r.1 (by simpa using e))
    omega
   have v:=YR u
   rw[f,mQ] at v
   simp at d
   have y:10 ^ k≤10 ^ r.length:=A18 (by omega) (by omega)
   have z:1*10 ^ r.length≤(c.toNat - 48)*10 ^ r.length:=A16 _ t
   omega
end Gx
namespace Gx
open Go Go.Proofs
section
variable {R:Type}
theorem Apq {v:Int} (h:v.natAbs<18446744073709551616):qm (v:Rat)≤2:=by
 unfold qm;rw[A2r,A3q,Z0]
 have:=aO h
 simp;omega
theorem x9 {N:Nat} {n1:Bool} {s1:LS} {o1:Bool} {K:Bool→Nat→LA→O R} (d:Av s1.l) (f:fit s1.l.length N):lG N (BI n1 s1) o1 K=K (decide (-Kp n1 s1<0)) (A7 (Kp n1 s1).natAbs).length (Au (A7 (Kp n1 s1).natAbs)):=by
 obtain⟨c1,c2⟩:=EO (z:=-Kp n1 s1) (c:=!n1) (m:=val s1.l) (by unfold Kp;cases n1<;>simp)
 rw[sZ];unfold zJ
 rw[gC,jo,Al6 rfl d f,Qy,c1,pC]
theorem A04 (z:Int):((beq 0 0)&&((beq (List.length (Td z)) 2)&&(beq 2 2)))=true:=rfl
theorem Azx (z:Int):((beq (List.length (Td z)) 2)&&(true&&(!false)))=true:=rfl
theorem Azy (z:Int) (f:Bool→O R):OP (Td z) f=f (decide (z<0)):=gC
theorem Ax3 (z:Int) (f:LA→Nat→O R):Bb 1 (drop 1 (Td z)) f=f (Au (A7 z.natAbs)) (A7 z.natAbs).length:=jo
theorem Apr (v:Nat):Td (v:Int)=BI false (.of (A7 v) false false):=by unfold Td;rw[decide_eq_false (by omega),A3s]
theorem Atk (z:Int):Td z=BI (decide (z<0)) (.of (A7 z.natAbs) false false):=rfl
theorem eS {N:Nat} {b:Lu} {c:UInt8} {K:Lu→Bool→O R}:Fh N (c::b) [c] K=K b true:=by
 rw[O1];unfold Nr
 rw[Em];unfold Dk
 rw[El];unfold Dj
 have d:((decide ((((c::b).length:Nat):Int)≥((([c]:Lu).length:Nat):Int)))==true)=true:=by simp;omega
 have f:((decide ((0:Int)≤(0:Int)))&&((decide ((0:Int)≤((([c]:Lu).length:Nat):Int)))&&((decide (((([c]:Lu).length:Nat):Int)≤(((c::b).length:Nat):Int)))&&(decide ((((c::b).length:Nat):Int)≤(((c::b).length:Nat):Int))))))=true:=by simp;omega
 have k:((decide ((0:Int)≤((([c]:Lu).length:Nat):Int)))&&((decide (((([c]:Lu).length:Nat):Int)≤(((c::b).length:Nat):Int)))&&((decide ((((c::b).length:Nat):Int)≤(((c::b).length:Nat):Int)))&&(decide ((((c::b).length:Nat):Int)≤(((c::b).length:Nat):Int))))))=true:=by simp;omega
 rw[d,ct,f,ct,show cond true ((take ([c]:Lu).length (c::b))==[c]) false=true by simp]
 dsimp only
 rw[show(!true)=false by rfl,cf,k,ct]
 simp
theorem YS {N:Nat} {b:Lu} {c:UInt8} {K:Lu→Bool→O R} (h:b.head?≠some c):Fh N b [c] K=K b false:=by
 rw[O1];unfold Nr
 rw[Em];unfold Dk
 rw[El];unfold Dj
 cases b with
 | nil=>rfl
 | cons d r =>
  have f:d≠c:=by simpa using h
  have k:((decide ((((d::r).length:Nat):Int)≥((([c]:Lu).length:Nat):Int)))==true)=true:=by simp;omega
  have l:((decide ((0:Int)≤(0:Int)))&&((decide ((0:Int)≤((([c]:Lu).length:Nat):Int)))&&((decide (((([c]:Lu).length:Nat):Int)≤(((d::r).length:Nat):Int)))&&(decide ((((d::r).length:Nat):Int)≤(((d::r).length:Nat):Int))))))=true:=by simp;omega
  rw[k,ct,l,ct,show cond true ((take ([c]:Lu).length (d::r))==[c]) false=false by simp[f]]
  rfl
theorem gG {s:Lu} {p:Nat} (h:p<s.length) (d:s[p].toNat<128):BM s (p:Int)=(s[p].toNat,1):=by
 unfold BM
 rw[A1d]
 exact decode_ascii ⟨⟨s⟩⟩ p h d
theorem Amf {s:Lu} {p:Nat} (h:p<s.length) (d:128≤s[p].toNat):128≤(BM s (p:Int)).1:=by
 unfold BM
 rw[A1d]
 exact(decode_high ⟨⟨s⟩⟩ p h d).1
theorem wB {N:Nat} {s:Lu} {K:Bool→O R} (hs:s≠[]):∀ (m p fuel:Nat),p≤s.length→s.length - p=m→m<fuel→Iy N K s fuel (p:Int)=K ((s.drop p).all De):=by
 intro m
 induction m with
 | zero =>
  intro p fuel f k l
  cases fuel with
  | zero=>omega
  | succ fuel =>
   rw[Iy];unfold Tp
   rw[Hy (by omega),cf,A3e (by omega),show(!(s==([]:Lu)))=true by simp[hs]]
   rfl
 | succ m n =>
  intro p fuel f k l
  cases fuel with
  | zero=>omega
  | succ fuel =>
   have d:p<s.length:=by omega
   rw[Iy];unfold Tp
   rw[Hf d,ct,A17 d,A12]
   by_cases q:s[p].toNat<128
   ·rw[gG d q]
    simp only
    by_cases t:s[p].toNat<48
    ·rw[show(decide (((s[p].toNat:Nat):Int)<48)==false)=false by simp;omega,cf]
     have:De s[p]=false:=by simp[De];omega
     rw[this];rfl
    ·rw[show(decide (((s[p].toNat:Nat):Int)<48)==false)=true by simp;omega,ct]
     by_cases u:s[p].toNat>57
     ·rw[show cond false true (decide (((s[p].toNat:Nat):Int)>57))=true by simp;omega,ct]
      have:De s[p]=false:=by simp[De];omega
      rw[this];rfl
     ·rw[show cond false true (decide (((s[p].toNat:Nat):Int)>57))=false by simp;omega,cf]
      have:De s[p]=true:=by simp[De];omega
      rw[this,A2c,show((p:Int)+((1:Nat):Int))=((p+1:Nat):Int) by omega]
      exact n (p+1) fuel (by omega) (by omega) (by omega)
   ·have v:=Amf d (by omega)
    have:De s[p]=false:=by simp[De];omega
    rw[this,show(decide ((((BM s (p:Int)).1:Nat):Int)<48)==false)=true by simp;omega,ct,show cond false true (decide ((((BM s (p:Int)).1:Nat):Int)>57))=true by simp;omega,ct]
    rfl
theorem wC {N:Nat} {s:Lu} {K:Bool→O R} (d:s.length<N):Uo N s K=K (Aeo s):=by
 rw[TK];unfold EA
 cases s with
 | nil =>
  obtain⟨n,rfl⟩:∃ n,N=n+1:=⟨N - 1,by simp at d;omega⟩
  rfl
 | cons c r =>
  have:=wB (R:=R) (N:=N) (s:=c::r) (K:=K) (by simp) (c::r).length 0 N (by omega) (by omega) d
  refine A4g this ?_
  congr 1
  simp[Aeo]
theorem jq {N:Nat} {s:Lu} {K:Bool→O R} (l:s.length<N):Ye N s K=K (Sj s):=by
 rw[XK];unfold XJ
 rw[wC l]
 by_cases d:Aeo s=true
 ·rw[d,show(true==true)=true by rfl,ct]
  unfold Sj
  rw[d,A2c]
  by_cases k:s=[48]
  ·subst k;rfl
  ·have n:(s==[48])=false:=by simpa using k
   rw[n,show(false==false)=true by rfl,ct,A2v]
   cases s with
   | nil=>simp[Aeo] at d
   | cons c r =>
    rw[show Ag 0 (c::r).length=true by unfold Ag;simp,ct]
    congr 1
    simp only[cond_true,cond_false,List.getD_cons_zero,List.head?_cons]
    by_cases f:c=48
    ·subst f;rfl
    ·have:((c.toNat:Int) != 48)=true:=by
      rw[bne_iff_ne];intro e
      apply f;apply A5r.1
      have:c.toNat=48:=by omega
      rw[this];rfl
     rw[this]
     have q:((some c:Option UInt8) != some 48)=true:=by rw[bne_iff_ne];simpa using f
     rw[q]
 ·have d:Aeo s=false:=by simpa using d
  rw[d,show(false==true)=false by rfl,cf]
  unfold Sj
  rw[d];rfl
def mS (s:Lu):Bool:=match s with
 | 45::r=>Sj r&&!(r==[48])
 | s=>Sj s
theorem eT {N:Nat} {s:Lu} {K:Bool→O R} (d:s.length<N):Up N s K=K (mS s):=by
 rw[TL];unfold RG
 by_cases h:s.head?=some 45
 ·obtain⟨r,rfl⟩:∃ r,s=45::r:=by
   cases s with
   | nil=>simp at h
   | cons c r=>simp at h;exact⟨r,by rw[h]⟩
  rw[eS,jq (by simp at d;omega)]
  show _=K (Sj r&&!(r==[48]))
  cases Sj r
  ·rfl
  ·rw[A2c];cases r==[48]<;>rfl
 ·rw[YS h,jq d]
  have:mS s=Sj s:=by
   unfold mS
   split
   ·simp at h
   ·rfl
  rw[this]
  cases Sj s<;>rfl
def Aak (s:Lu):Nat:=s.countP De
theorem Aal {N:Nat} {s:Lu} {K:Bool→O R} (hs:∀ c ∈ s,c.toNat<128) (v:s.length≤1000000000000):∀ (m p d fuel:Nat),p≤s.length→s.length - p=m→m<fuel→d≤p→Lf N K s fuel (d:Int) (p:Int)=K (decide (4096<d+Aak (s.drop p))):=by
 intro m
 induction m with
 | zero =>
  intro p d fuel l n q t
  cases fuel with
  | zero=>omega
  | succ fuel =>
   rw[Lf];unfold V7
   rw[Hy (by omega),cf,A3e (by omega)]
   congr 1
   rw[decide_eq_decide];simp[Aak];omega
 | succ m k =>
  intro p d fuel l n q t
  cases fuel with
  | zero=>omega
  | succ fuel =>
   have f:p<s.length:=by omega
   have u:s[p].toNat<128:=hs _ (A1q f)
   rw[Lf];unfold V7
   rw[Hf f,ct,A17 f,gG f u]
   simp only
   rw[show((p:Int)+((1:Nat):Int))=((p+1:Nat):Int) by omega]
   have hn:Aak (s[p]::s.drop (p+1))=Aak (s.drop (p+1))+(if De s[p] then 1 else 0):=by unfold Aak;rw[List.countP_cons]
   rw[hn]
   by_cases x:48≤s[p].toNat
   ·rw[show(decide (((s[p].toNat:Nat):Int)≥48)==true)=true by simp;omega,ct]
    by_cases y:s[p].toNat≤57
    ·rw[show cond true (decide (((s[p].toNat:Nat):Int)≤57)) false=true by simp;omega,ct,wS (by omega),k (p+1) (d+1) fuel (by omega) (by omega) (by omega) (by omega)]
     have:De s[p]=true:=by simp[De];omega
     rw[this,if_pos rfl]
     congr 1;rw[decide_eq_decide];omega
    ·rw[show cond true (decide (((s[p].toNat:Nat):Int)≤57)) false=false by simp;omega,cf,k (p+1) d fuel (by omega) (by omega) (by omega) (by omega)]
     have:De s[p]=false:=by simp[De];omega
     rw[this];rfl
   ·rw[show(decide (((s[p].toNat:Nat):Int)≥48)==true)=false by simp;omega,cf,k (p+1) d fuel (by omega) (by omega) (by omega) (by omega)]
    have:De s[p]=false:=by simp[De];omega
    rw[this];rfl
theorem jr {N:Nat} {s:Lu} {K:Bool→O R} (hs:∀ c ∈ s,c.toNat<128) (d:s.length≤1000000000000) (f:s.length<N):Yf N s K=K (decide (4096<Aak s)):=by
 rw[XL];unfold JV
 have:=Aal (R:=R) (N:=N) (K:=K) hs d s.length 0 0 N (by omega) (by omega) f (by omega)
 simpa using this
theorem Aps (m:Nat):(Int.tmod (m:Int) 2==1)=decide (m%2=1):=by
 rw[show Int.tmod (m:Int) 2=((m%2:Nat):Int) by rfl]
 rw[Bool.eq_iff_iff];simp;omega
theorem Apt {m:Nat} (h:m≤1000000000000):wrap .i64 (Int.tdiv (m:Int) 2)=((m/2:Nat):Int):=by
 rw[show Int.tdiv (m:Int) 2=((m/2:Nat):Int) by rfl,i64 (by omega)]
theorem Ajr (n:Bool) (s:LS) (x y:AV):Du (BI n s) 0 [x,y]=[x,y]:=rfl
theorem Avm (s:LS):Kp false s=(val s.l:Int):=rfl
theorem Apu {N:Nat} {s1 s2:LS} {o1 o2:Bool} (d:Av s1.l) (f:Av s2.l) (k:fit (s1.l.length+s2.l.length) N):∃ S,Av S∧val S=val s1.l*val s2.l∧∀ K:Bool→Nat→LA→O R,WI N (BI false s1) o1 (BI false s2) o2 K=K false (A7 (val s1.l*val s2.l)).length (Au S):=by
 obtain⟨S,a1,a2,a3⟩:=Ama (R:=R) (N:=N) (n1:=false) (n2:=false) (o1:=o1) (o2:=o2) d f k
 rw[Avm,Avm,←Int.natCast_mul] at a2 a3
 rw[A3s] at a2 a3
 refine⟨S,a1,a2,fun K=>?_⟩
 rw[a3,decide_eq_false (by omega)]
theorem gH {P Q m j:Nat} (hP:1≤P) (hQ:1≤Q) (d:j≤m):P ^ j≤Q*P ^ m:=by
 have f:P ^ j≤P ^ m:=A18 hP d
 have k:1*P ^ m≤Q*P ^ m:=A16 _ hQ
 omega
theorem Ahz {N k:Nat} (D:fit (2*k+4) N):∀ (fuel m P Q:Nat) (c:Bool) (s:LS) (S:List Nat),m<fuel→m≤1000000000→1≤P→1≤Q→Q*P ^ m<4294967296 ^ k→Av s.l→val s.l=P→s.l.length≤k+1→Av S→val S=Q →
  ∃ S',Av S'∧val S'=Q*P ^ m∧∀ K:Bool→Nat→LA→O R,Kf N K fuel (m:Int) c (BI false s) false (A7 Q).length (Au S)=K false (A7 (Q*P ^ m)).length (Au S'):=by
 intro fuel
 induction fuel with
 | zero=>intro m P Q c s S h;omega
 | succ fuel q =>
  intro m P Q c s S M G hP hQ f hs v x hS hSv
  rcases A2t m with y | y
  ·subst y
   refine⟨S,hS,by simp[hSv],fun K=>?_⟩
   rw[Kf];unfold Rp
   rw[show decide (((0:Nat):Int)>0)=false by decide,cf,A5p,A1x]
  ·have lQ:(A7 Q).length≤k:=FR (A3l (A5h Q (A4v hP)) f)
   have hPm:P ^ 1≤Q*P ^ m:=gH hP hQ y
   obtain⟨S1,a1,a2,a3⟩:=Apu (R:=R) (N:=N) (s1:=.of (A7 Q) false true) (s2:=s) (o1:=true) (o2:=c) (Ay _) hs (D.le (show(A7 Q).length+s.l.length≤_ by omega))
   have vQ:val (LS.of (A7 Q) false true).l=Q:=A0 Q
   rw[vQ,v] at a2 a3
   obtain⟨S2,F,z,A⟩:=Apu (R:=R) (N:=N) (s1:=s) (s2:=s) (o1:=c) (o2:=c) hs hs (D.le (show s.l.length+s.l.length≤_ by omega))
   rw[v] at z A
   have sq:∀ n t:Nat,(P*P) ^ n=P ^ (2*n):=fun n t=>by rw[←A6w,←A56]
   have gt0:decide ((m:Int)>0)=true:=by simp;omega
   have cell:∀ (t:Nat) (u:List Nat),([.bool false,.imm (take ((A7 t).length*1) (Au u)) (A7 t).length 1 false false]:LA)=[.bool false,.imm (take ((A7 t).length*1) (Au u)) (A7 t).length 1 false false]:=fun _ _=>rfl
   by_cases d:m%2=1
   ·by_cases I:1<m
    ·have e:Q*P ^ m=(Q*P)*(P*P) ^ (m/2):=by
      rw[sq _ 0,A2p,←Nat.pow_succ']
      congr 2;omega
     have l2:(A7 (P*P)).length≤k:=FR (A3l (by have:=gH (j:=2) hP hQ (show 2≤m by omega);rwa [A6w] at this) f)
     obtain⟨S',c1,c2,c3⟩:=q (m/2) (P*P) (Q*P) (c||false) (.of (A7 (P*P)) false false) S1 (by omega) (by omega) (A54 hP hP) (A54 hQ hP) (by rw[←e];exact f) (Ay _) (A0 _) (by show(A7 (P*P)).length≤_;omega) a1 a2
     refine⟨S',c1,by rw[c2,e],fun K=>?_⟩
     rw[Kf];unfold Rp
     rw[gt0,ct,Aps,decide_eq_true d,ct,vr,ct,Axo,I4 hS hSv,Ar1,a3,show decide ((m:Int)>1)=true by simp;omega,ct,ct,ct,A,show((beq 2 2)&&(true&&(!false)))=true by rfl,ct,Apt (by omega),Ajr,I4 F z,Ar1,c3,e]
    ·have C:m=1:=by omega
     subst C
     obtain⟨S',c1,c2,c3⟩:=q 0 P (Q*P) c s S1 (by omega) (by omega) hP (A54 hQ hP) (by simpa using f) hs v x a1 a2
     rw[A5p,A1x] at c2 c3
     refine⟨S',c1,by rw[c2,Nat.pow_one],fun K=>?_⟩
     rw[Kf];unfold Rp
     rw[gt0,ct,Aps,decide_eq_true d,ct,vr,ct,Axo,I4 hS hSv,Ar1,a3,show decide (((1:Nat):Int)>1)=false by decide,cf,Apt (by omega),c3,Nat.pow_one]
   ·have I:1<m:=by omega
    have e:Q*P ^ m=Q*(P*P) ^ (m/2):=by
     rw[sq _ 0];congr 2;omega
    have l2:(A7 (P*P)).length≤k:=FR (A3l (by have:=gH (j:=2) hP hQ (show 2≤m by omega);rwa [A6w] at this) f)
    obtain⟨S',c1,c2,c3⟩:=q (m/2) (P*P) Q (c||false) (.of (A7 (P*P)) false false) S (by omega) (by omega) (A54 hP hP) hQ (by rw[←e];exact f) (Ay _) (A0 _) (by show(A7 (P*P)).length≤_;omega) hS hSv
    refine⟨S',c1,by rw[c2,e],fun K=>?_⟩
    rw[Kf];unfold Rp
    rw[gt0,ct,Aps,decide_eq_false d,cf,show decide ((m:Int)>1)=true by simp;omega,ct,vr,ct,ct,Axo,A,show((beq 2 2)&&(true&&(!false)))=true by rfl,ct,Apt (by omega),Ajr,I4 F z,Ar1,c3,e]
theorem Ar4:A7 10=[10]:=by rw[DR (by omega)];simp[F5]
theorem Apv (n:Nat):10 ^ n<4294967296 ^ (n+1):=by
 have d:10 ^ n≤4294967296 ^ n:=A58 (by omega) n
 have f:4294967296 ^ n<4294967296 ^ (n+1):=Nat.pow_lt_pow_right (by omega) (by omega)
 omega
theorem Amg {N n:Nat} (d:fit (2*n+6) N):∃ S,Av S∧val S=10 ^ n∧∀ (K:Bool→Nat→LA→O R),(M9 N 10 fun g e i=>XM N [(.bool g),(.imm (i.take (e*1)) e 1 false true)] true (n:Int) K)=K false (A7 (10 ^ n)).length (Au S):=by
 have t:=d.1;have u:=d.2
 obtain⟨S0,a1,a2,a3⟩:=Tc (R:=R) (N:=N) (v:=1) (by omega) (by omega)
 obtain⟨S1,f,q,s⟩:=Tc (R:=R) (N:=N) (v:=10) (by omega) (by omega)
 obtain⟨S',c1,c2,c3⟩:=Ahz (R:=R) (N:=N) (k:=n+1) (d.le (by omega)) N n 10 1 true (.of (A7 10) false true) S0 (by omega) (by omega) (by omega) (by omega) (by rw[A55];exact Apv n) (Ay _) (A0 _) (by rw[Ar4];simp[LS.l]) a1 a2
 rw[A55] at c2 c3
 refine⟨S',c1,c2,fun K=>?_⟩
 rw[s,jO];unfold aE
 rw[a3]
 refine A4g ?_ (c3 K)
 rw[show(10:Int).natAbs=10 by rfl,show(1:Int).natAbs=1 by rfl] at *
 rw[I4 f q]
 rfl
theorem Azz:(A7 (10 ^ 9)).length≤1:=FR (by decide)
theorem HV (v:Nat) (a b:Bool):Av (LS.of (A7 v) a b).l:=Ay v
theorem Apw {N v:Nat} {o:Bool} {K:Int→O R} (d:fit ((A7 v).length) N):Z' N (Td (v:Int)) o K=K (v:Int).sign:=by
 rw[Apr,uG (HV _ _ _) d,Avm]
 simp only[LS.l]
 rw[A0]
theorem Ah0 {v k:Nat} (h:v<10 ^ k):(dec v).length≤k+1:=by
 have:=(Ar3 (u:=v) (k:=k+1) (by omega)).2 (A22 h (A18 (by omega) (by omega)))
 exact this
theorem Ar5 (k:Nat):4294967296 ^ k≤10 ^ (10*k):=by
 rw[A56];exact A58 (by decide) _
theorem uI (v:Nat):(dec v).length≤10*(A7 v).length+1:=Ah0 (A22 (Aux (A1h _)) (Ar5 _))
def Aeq (z:Int) (s:Lu):Lu:=if z<0 then 45::s else s
theorem Apx {a b:Nat} (h:a≤b):ble a b=true:=by simpa using h
def uJ (z:Int):Lu:=Aeq z (dec z.natAbs)
theorem uK {v:Nat} (d:v<10):(take ((wrap .u64 ((v:Int)+1)).toNat - (v:Int).toNat) (drop (v:Int).toNat ([48,49,50,51,52,53,54,55,56,57]:Lu)))=[UInt8.ofNat (48+v)]:=by
 rw[show(v:Int)+1=((v+1:Nat):Int) by omega,LF (by omega),A1d,A1d]
 rcases v with _ | _ | _ | _ | _ | _ | _ | _ | _ | _ | v<;>first | rfl | omega
theorem Aer {v:Nat} (d:v<10):((decide (0≤(v:Int)))&&((decide ((v:Int)≤(wrap .u64 ((v:Int)+1))))&&((decide ((wrap .u64 ((v:Int)+1))≤10))&&(decide ((10:Int)≤(10:Int))))))=true:=by
 rw[show(v:Int)+1=((v+1:Nat):Int) by omega,LF (by omega)]
 simp;omega
theorem Axs {N v:Nat} {t o:Bool} {K:Nat→Nat→Bool→LA→LA→O R} (d:fit ((A7 v).length+6) N):T5 N (Au (A7 v)) (A7 v).length t o [(.int .u32 10)] 1 false true K=K (A7 (v/10)).length (A7 (v%10)).length true (Au (A7 (v/10))) (Au (A7 (v%10))):=by
 have:=Aai (R:=R) (N:=N) (a:=A7 v) (b:=[10]) (t:=t) (o:=o) (t':=false) (o':=true) (K:=K) rfl rfl (Ay _) (by intro x hx;simp at hx;omega) (by decide) (d.le (by simp))
 rw[A0] at this
 exact this
theorem Apy {N v:Nat} {K:Int→Bool→O R} (f:v<10) (d:fit 1 N):M8 N (take ((A7 v).length*1) (Au (A7 v))) (A7 v).length false true K=K (v:Int) true:=by
 have:(A7 v).length≤1:=FR (by omega)
 rw[Avl,EE rfl (Ay _) (d.le (by omega)),A0,if_pos (by omega)]
theorem Aam {N:Nat} {l:LA} {c:Nat} {e d:Bool} {K:Lu→O R}:∀ (fuel v:Nat) (f:Lu),0<v→(dec v).length≤fuel→(dec v).length+f.length≤100000000000→fit ((A7 v).length+6) N→Sy N K l c e d fuel (A7 v).length f (Au (A7 v))=K (dec v++f):=by
 intro fuel
 induction fuel with
 | zero=>intro v f _ h;exact absurd (A3m.1 (by omega)) (gF v)
 | succ fuel q =>
  intro v f y s t k
  have n:v%10<10:=A4e _ (by omega)
  have hs:(([UInt8.ofNat (48+v%10)]:Lu).length)=1:=rfl
  rw[Sy];unfold GI
  rw[Avl,Axs k,Apy n (k.le (by omega)),Aer n,ct,uK n,Apx (by rw[hs];omega),ct]
  by_cases h:v<10
  ·rw[A3n h,F5,show(((([]:List Nat).length:Nat):Int)==0)=true by rfl,ct,Uw h,A2b h]
  ·have x:0<v/10:=Nat.div_pos (by omega) (by omega)
   rw[Al4 (fun e=>by have:=Ee.1 e;omega),cf]
   rw[SC (by omega),A09,A2d] at s t
   rw[q (v/10) _ x (by omega) (by rw[A09,hs];omega) (k.le (by have:=Kw (A4f v 10);omega)),SC (u:=v) (by omega),A1l]
theorem js {N v:Nat} {e d:Bool} {K:Lu→O R} (f:fit ((A7 v).length+6) N):Yb N (Au (A7 v)) (A7 v).length e d K=K (dec v):=by
 have t:=f.1;have x:=f.2
 have y:=uI v
 rw[WX];unfold JN
 obtain⟨n,rfl⟩:∃ n,N=n+1:=⟨N - 1,by omega⟩
 have k:v%10<10:=A4e _ (by omega)
 have hs:(([UInt8.ofNat (48+v%10)]:Lu).length)=1:=rfl
 rw[Sz];unfold GJ
 rw[Axs f,Apy k (f.le (by omega)),Aer k,ct,uK k,Apx (by rw[hs];omega),ct]
 by_cases h:v<10
 ·rw[A3n h,F5,show(((([]:List Nat).length:Nat):Int)==0)=true by rfl,ct,Uw h,A2b h];rfl
 ·have l:0<v/10:=Nat.div_pos (by omega) (by omega)
  have q:=uI (v/10)
  have s:=Kw (A4f v 10)
  rw[Al4 (fun e=>by have:=Ee.1 e;omega),cf,A1p]
  exact(Aam (R:=R) n (v/10) _ l (by omega) (by rw[hs];omega) (f.le (by omega))).trans (by rw[SC (u:=v) (by omega)])
theorem Apz {N:Nat} {z:Int} {u:Bool} {K:Lu→O R} (d:fit ((A7 z.natAbs).length+6) N):S4 N (Td z) u K=K (uJ z):=by
 have f:=d.2
 have k:=uI z.natAbs
 rw[JO];unfold GK
 rw[Axq,ct,A0k,Atk,Ahy (HV _ _ _) (d.le (by show(A7 z.natAbs).length≤_;omega)),Ar2,←Atk,Azx,ct,Azw,Azy]
 unfold uJ Aeq
 by_cases h:z<0
 ·rw[decide_eq_true h,ct,Ax3,js d,Apx (by omega),ct,if_pos h];rfl
 ·rw[decide_eq_false h,cf,Ax3,js d,if_neg h]
end
end Gx
namespace Gx.Ct
open Go Go.Proofs Gx.Cf
theorem YT:Ew:=fun z h=>A3f (Lib.itoa_length_le z h.1 h.2) (by decide)
theorem Wn (z:Int):tx z=uJ z:=by
 unfold tx Lib.itoa uJ Aeq
 by_cases d:z<0
 ·rw[if_pos d,if_pos d]
 ·rw[if_neg d,if_neg d];unfold dec
  first | rfl | (rw[show z.toNat=z.natAbs by omega])
theorem Ap0 (u:Nat):Lib.decDigits u≠[]∧(Lib.decDigits u).getLast?≠some 10:=by
 have d:(Lib.decDigits u).length≠0:=by rw[Lib.decDigits_length];rw[Lib.nDigits];split<;>omega
 refine⟨fun e=>d (by rw[e];rfl),fun e=>?_⟩
 rw[Lib.decDigits] at e
 split at e
 ·simp at e
  rename_i h
  have:u=0∨u=1∨u=2∨u=3∨u=4∨u=5∨u=6∨u=7∨u=8∨u=9:=by omega
  rcases this with rfl | rfl | rfl | rfl | rfl | rfl | rfl | rfl | rfl | rfl<;>revert e<;>decide
 ·rw[A4t] at e
  simp at e
  generalize f:u%10=v at e
  have:v=0∨v=1∨v=2∨v=3∨v=4∨v=5∨v=6∨v=7∨v=8∨v=9:=by omega
  rcases this with rfl | rfl | rfl | rfl | rfl | rfl | rfl | rfl | rfl | rfl<;>revert e<;>decide
theorem Ap1 (z:Int):Arc (tx z):=by
 unfold tx Lib.itoa
 split
 ·obtain⟨d,f⟩:=Ap0 z.natAbs
  refine⟨by simp,?_⟩
  rw[show(45::Lib.decDigits z.natAbs)=[45]++Lib.decDigits z.natAbs from rfl,ng d]
  exact f
 ·exact Ap0 _
theorem Axt {R:Type} {N:Nat} (hN:1000000000<N):FI R N:=fun z d K=>by
 rw[vz d (by omega),Apz,Wn]
 have:=aO (v:=z.natAbs) (by unfold FQ at d;omega)
 exact⟨by omega,by omega⟩
theorem H9 {lo hi v:Int} (h:Fu lo hi v=true) (d:-1000000000000000000≤lo) (f:hi≤1000000000000000000):FQ v:=by
 unfold Fu at h;simp only[A1f,decide_eq_true_eq] at h;unfold FQ;omega
theorem DG {v:Int} (h:-1000000000000000000≤v∧v≤1000000000000000000):FQ v:=by unfold FQ;omega
theorem uL {f:FracD} (h:M5 f=true):FQ f.num∧FQ f.den:=by
 unfold M5 at h;simp only[A1f] at h
 exact⟨H9 h.2 (by decide) (by decide),H9 h.1 (by decide) (by decide)⟩
theorem OI {M:Nat} (hM:1000≤M) {c:CaseD} (g:BF c):CaseI M c∧ListsOk c:=by
 obtain⟨H,res,bs,ls,us,ss,ts,os,b,og,v,rfl⟩:=g
 have h:=b.h;have bl:=b.bl;have ll:=b.ll;have ul:=b.ul;have sl:=b.sl;have tl:=b.tl;have ol:=og.l
 refine⟨⟨DG (by simp only[US];omega),⟨fun z d=>DG (by have:=b.rr z d;omega),by have:=b.rl;simp only[US,Sl.l];omega⟩,fun x hx=>?_,fun x hx=>?_,fun x hx=>?_,fun x hx=>?_,fun x hx=>?_,fun x hx=>?_⟩,
  ⟨by simp only[US,Sl.l];omega,by simp only[US,Sl.l];omega,by simp only[US,Sl.l];omega,by simp only[US,Sl.l];omega,by simp only[US,Sl.l];omega,by simp only[US,Sl.l];omega⟩⟩
 all_goals simp only[US,Sl.l] at hx
 ·obtain⟨i,hi,rfl⟩:=A1t hx
  have g:=b.bg i hi
  exact⟨⟨fun z d=>DG (by have:=g.dr z d;omega),by have:=g.dl;omega⟩,DG (by have:=g.shed;omega)⟩
 ·obtain⟨i,hi,rfl⟩:=A1t hx
  have g:=(b.lg i hi).g
  have k:=g.re;have n:=g.smin;have f:=g.smax;have t:=g.lim;have q:=g.em
  simp only[A1f] at k n f
  refine⟨uL k.1,uL n.1,uL f.1,⟨H9 t (by decide) (by decide),?_⟩,fun z d=>DG (by have:=g.awr z d;omega),by have:=g.aw;omega⟩
  unfold Fu at t q
  simp only[A1f,decide_eq_true_eq] at t q
  exact DG (by omega)
 ·obtain⟨i,hi,rfl⟩:=A1t hx
  have g:=b.ug i hi
  have so:=A1u.1 g.sok
  refine⟨?_,⟨fun s hs=>?_,by have:=g.sl;omega⟩,fun z d=>DG (by have:=g.awr z d;omega),by have:=g.aw;omega⟩
  ·have k:=g.min;have n:=g.max;have f:=g.startRamp;have t:=g.stopRamp;have q:=g.output
   unfold Fu at k n f t q
   simp only[A1f,decide_eq_true_eq] at k n f t q
   intro z d
   simp only[A1j,A1v,or_false] at d
   rcases d with rfl | rfl | rfl | rfl | rfl | rfl | rfl | rfl | rfl | rfl | rfl | rfl | rfl | rfl | rfl | rfl | rfl
   ·exact DG (by omega)
   ·exact DG (by omega)
   ·exact H9 g.noLoad (by decide) (by decide)
   ·exact H9 g.rampUp (by decide) (by decide)
   ·exact H9 g.rampDown (by decide) (by decide)
   ·exact DG (by omega)
   ·exact DG (by omega)
   ·exact H9 g.upTime (by decide) (by decide)
   ·exact H9 g.downTime (by decide) (by decide)
   ·exact H9 g.startTime (by decide) (by decide)
   ·exact H9 g.hotCost (by decide) (by decide)
   ·exact H9 g.coldCost (by decide) (by decide)
   ·exact H9 g.hotHours (by decide) (by decide)
   ·exact H9 g.reserve (by decide) (by decide)
   ·exact H9 g.reservePrice (by decide) (by decide)
   ·exact H9 g.hours (by decide) (by decide)
   ·refine DG ?_
    cases hs:us[i].state==2<;>rw[hs] at q<;>simp at q<;>omega
  ·have:=so s hs
   unfold ic at this
   simp only[A1f] at this
   exact⟨H9 this.1 (by decide) (by decide),H9 this.2 (by decide) (by decide)⟩
 ·have g:=b.sg x hx
  have k:=g.cap;have n:=g.ini;have f:=g.fin;have t:=g.ch;have q:=g.dis;have y:=g.eff
  refine⟨fun z d=>?_⟩
  simp only[A1j,A1v,or_false] at d
  rcases d with rfl | rfl | rfl | rfl | rfl | rfl | rfl<;>exact DG (by omega)
 ·have g:=b.tg x hx
  have k:=g.il;have n:=g.el;have f:=g.pl
  exact⟨⟨fun z d=>DG (by have:=g.ir z d;omega),by omega⟩,⟨fun z d=>DG (by have:=g.er z d;omega),by omega⟩,⟨fun z d=>DG (by have:=g.pr z d;omega),by omega⟩⟩
 ·obtain⟨i,hi,rfl⟩:=A1t hx
  have g:=og.g i hi
  have k:=g.ll;have n:=g.ml;have f:=A1u.1 g.mi
  refine⟨by omega,fun m u=>?_,by omega⟩
  have:=f m u
  unfold Ac2 at this
  simp only[A1f] at this
  exact⟨H9 this.1 (by decide) (by decide),H9 this.2 (by decide) (by decide)⟩
end Gx.Ct
namespace Gx
open Go Go.Proofs
section
variable {R:Type}
theorem Aes:∀ (s:Lu) (d k:Nat),d<10 ^ k→s.length+k≤18→s.all De=true→Lib.parseUint10 d s=.ok (d*10 ^ s.length+Jd s)
 | [],d,_,_,_,_=>by simp[Lib.parseUint10,Jd]
 | c::r,d,k,v,u,l=>by
  simp only[A12,A1f] at l
  have t:=l.1
  simp[De] at t
  simp only[A1a] at u
  have f:10 ^ (k+1)≤10 ^ 18:=A18 (by omega) (by omega)
  rw[A14] at f
  have n:d*10+(c.toNat - 48)<10 ^ k*10:=by omega
  have q:(10:Nat) ^ 18=1000000000000000000:=by decide
  rw[q] at f
  rw[Lib.parseUint10,if_pos t,if_neg (by omega),if_neg (by omega),Aes r (d*10+(c.toNat - 48)) (k+1) (by rw[A14];exact n) (by omega) l.2,mQ,A1a,A14,A23]
  congr 1
  rw[show d*10*10 ^ r.length=d*(10 ^ r.length*10) by rw[A2p,A25 10]]
  omega
theorem Amh {N:Nat} {s:Lu} {K:Int→O R} (hs:s.all De=true) (d:s≠[]) (f:s.length≤18):DW N s K=K (Jd s:Int):=by
 have k:=Aaj hs
 have l:10 ^ s.length≤10 ^ 18:=A18 (by omega) f
 have n:(10:Nat) ^ 18=1000000000000000000:=by decide
 have key:Lib.atoiAll s=.ok (Jd s:Int):=by
  cases s with
  | nil=>exact absurd rfl d
  | cons c r =>
   have q:De c=true:=by simp only[A12,A1f] at hs;exact hs.1
   simp[De] at q
   rw[Lib.atoiAll_plain c r (by omega) (by omega),Lib.parseMag,if_neg d,Aes (c::r) 0 0 (by decide) (by omega) hs,A35,A1w,Lib.signless,if_neg (by omega)]
 rw[Me];unfold Ox
 rw[Apx (by omega),ct,key]
theorem Ar6 (k:Nat):10 ^ k<4294967296 ^ (k+1):=Apv k
theorem Atl {v k:Nat} (h:v<10 ^ k):(A7 v).length≤k+1:=FR (Nat.lt_trans h (Ar6 k))
theorem pE {N:Nat} {c:Bool} {q:Nat} {S9:List Nat} {K:LA→O R} (Y:Av S9) (h2:val S9=10 ^ q) (hq:q=9):∀ (fuel j v:Nat) (g:Lu) (S:List Nat),g.length<fuel→g.all De=true→v<10 ^ j→(v=0∨g.length%9=0)→fit (j+g.length+20) N→Av S→val S=v →
  Kg N K c false (A7 (10 ^ q)).length (Au S9) fuel g false (A7 v).length (Au S)=K (Td (if c then -((v*10 ^ g.length+Jd g:Nat):Int) else ((v*10 ^ g.length+Jd g:Nat):Int))):=by
 intro fuel
 induction fuel with
 | zero=>intro j v g S h;omega
 | succ fuel ih =>
  intro j v g S hl A D n k hS hSv
  have f1:=k.1;have f2:=k.2
  have F:(A7 (10 ^ q)).length≤1:=by rw[hq];exact Azz
  have hdv:=Atl D
  rw[Kg];unfold LR
  cases s:g with
  | nil =>
   rw[show(!(([]:Lu)==[]))=false by rfl,cf]
   rw[show v*10 ^ ([]:Lu).length+Jd []=v by simp[Jd]]
   cases c
   ·rw[cf,I4 hS hSv,if_neg (by simp)]
    congr 1
   ·rw[ct,I4 hS hSv,Ar1,x9 (HV _ _ _) (k.le (by show(A7 v).length≤_;omega)),Avm,show val (LS.of (A7 v) false true).l=v from A0 v,A3s,Avl,if_pos rfl]
    congr 1
    unfold Td
    rw[Int.natAbs_neg,A3s];rfl
  | cons d r =>
   rw[←s]
   have t:g≠[]:=by rw[s];simp
   have M:=List.length_pos_iff.2 t
   rw[show(!(g==[]))=true by simp[t],ct]
   have step:∀ o:Nat,1≤o→o≤9→o≤g.length→(g.length - o)%9=0→(v=0∨o=q)→V8 N (Kg N K c false (A7 (10 ^ q)).length (Au S9) fuel) K c false (A7 (10 ^ q)).length (Au S9) g (o:Int) false (A7 v).length (Au S)=K (Td (if c then -((v*10 ^ g.length+Jd g:Nat):Int) else ((v*10 ^ g.length+Jd g:Nat):Int))):=by
    intro o o1 o9 ol om oz
    have T:(g.take o).all De=true:=by
     rw[A1u] at A ⊢;exact fun x hx=>A x (A4h hx)
    have f:(g.take o).length=o:=by rw[A2a];omega
    have u:(g.drop o).length=g.length - o:=List.length_drop ..
    have y:=Aaj T
    rw[f] at y
    have C:10 ^ o≤10 ^ q:=A18 (by omega) (by omega)
    have e9:10 ^ q=1000000000:=by rw[hq]
    obtain⟨S1,a1,a2,a3⟩:=Apu (R:=R) (N:=N) (s1:=.of (A7 v) false true) (s2:=.of (A7 (10 ^ q)) false true) (o1:=true) (o2:=true) (HV _ _ _) (HV _ _ _) (k.le (by have:=F;show(A7 v).length+(A7 (10 ^ q)).length≤_;omega))
    rw[show val (LS.of (A7 v) false true).l=v from A0 v,show val (LS.of (A7 (10 ^ q)) false true).l=10 ^ q from A0 _] at a2 a3
    obtain⟨S2,b1,U,V⟩:=Tc (R:=R) (N:=N) (v:=(Jd (g.take o):Int)) (by omega) (by omega)
    rw[A3s] at U V
    have hm:v*10 ^ q<10 ^ (j+q):=by rw[A34];exact Nat.mul_lt_mul_of_pos_right D (A4v (by omega))
    have hdm:=Atl hm
    have hdx:(A7 (Jd (g.take o))).length≤1:=FR (by omega)
    obtain⟨S3,c1,c2,c3⟩:=Amb (R:=R) (N:=N) (n1:=false) (n2:=false) (s1:=.of (A7 (v*10 ^ q)) false true) (s2:=.of (A7 (Jd (g.take o))) false true) (o1:=true) (o2:=true) (HV _ _ _) (HV _ _ _) (k.le (by show(A7 (v*10 ^ q)).length+(A7 (Jd (g.take o))).length+1≤_;omega))
    rw[Avm,Avm,show val (LS.of (A7 (v*10 ^ q)) false true).l=v*10 ^ q from A0 _,show val (LS.of (A7 (Jd (g.take o))) false true).l=Jd (g.take o) from A0 _,yq,A3s] at c2 c3
    unfold V8
    rw[show((decide ((0:Int)≤(0:Int)))&&((decide (0≤(o:Int)))&&((decide ((o:Int)≤(((g.length):Nat):Int)))&&(decide ((((g.length):Nat):Int)≤(((g.length):Nat):Int))))))=true by simp;omega,ct,A1d]
    rw[Amh T (by intro e;rw[e] at f;simp at f;omega) (by omega)]
    rw[I4 hS hSv,I4 Y h2,Ar1,Ar1,a3,V,I4 a1 a2,I4 b1 U,Ar1,show decide (((Jd (g.take o):Nat):Int)<0)=false by simp,Ar1,c3]
    rw[show decide (((v*10 ^ q+Jd (g.take o):Nat):Int)<0)=false by rw[decide_eq_false_iff_not];omega]
    rw[show((decide (0≤(o:Int)))&&((decide ((o:Int)≤(((g.length):Nat):Int)))&&((decide ((((g.length):Nat):Int)≤(((g.length):Nat):Int)))&&(decide ((((g.length):Nat):Int)≤(((g.length):Nat):Int))))))=true by simp;omega,ct]
    rw[A1c (l:=g.drop o) (by omega)]
    have G:v*10 ^ q+Jd (g.take o)<10 ^ (j+q):=by
     rcases oz with oz | oz
     ·subst oz;rw[A35,A1w]
      have:10 ^ q≤10 ^ (j+q):=A18 (by omega) (by omega)
      omega
     ·have:(v+1)*10 ^ q≤10 ^ j*10 ^ q:=A16 _ D
      rw[A23,A55] at this
      rw[A34];omega
    have I:v*10 ^ q+Jd (g.take o)<10 ^ (j+o):=by
     rcases oz with oz | oz
     ·subst oz;rw[A35,A1w]
      have:10 ^ o≤10 ^ (j+o):=A18 (by omega) (by omega)
      omega
     ·rw[show j+o=j+q by rw[oz]];exact G
    rw[ih (j+o) (v*10 ^ q+Jd (g.take o)) (g.drop o) S3 (by omega) (by rw[A1u] at A ⊢;exact fun x hx=>A x (List.mem_of_mem_drop hx)) I (.inr (by rw[u];exact om)) (k.le (by omega)) c1 c2]
    have e:(v*10 ^ q+Jd (g.take o))*10 ^ (g.drop o).length+Jd (g.drop o)=v*10 ^ g.length+Jd g:=by
     have X:=YQ (g.take o) (g.drop o)
     rw[A5v] at X
     rw[X,A23,A2l]
     congr 1
     rcases oz with oz | oz
     ·subst oz;simp
     ·rw[A2p,←A34,u];congr 2;omega
    rw[e]
   have z:Int.tmod (g.length:Int) 9=((g.length%9:Nat):Int):=rfl
   rw[z]
   by_cases C:g.length%9=0
   ·rw[C,show((((0:Nat):Int))==0)=true by rfl,ct]
    exact step 9 (by omega) (by omega) (by omega) (by omega) (.inr hq.symm)
   ·rw[Al4 C,cf]
    exact step (g.length%9) (by omega) (by omega) (Nat.mod_le _ _) (by omega) (.inl (by rcases n with n | n;exact n;exact absurd n C))
def HW (s:Lu):Int:=match s with
 | 45::r=>-((Jd r:Nat):Int)
 | s=>((Jd s:Nat):Int)
def SD (s:Lu):Bool:=match s with
 | 45::r=>r.all De
 | s=>s.all De
theorem YU {N:Nat} {s:Lu} {K:LA→O R} (hs:SD s=true) (d:fit (s.length+30) N):Yg N s K=K (Td (HW s)):=by
 have q:=d.1;have u:=d.2
 obtain⟨S0,a1,a2,a3⟩:=Tc (R:=R) (N:=N) (v:=0) (by omega) (by omega)
 obtain⟨S,f,k,l⟩:=Amg (R:=R) (N:=N) (n:=9) (d.le (by omega))
 rw[eN];unfold RH
 by_cases h:s.head?=some 45
 ·obtain⟨r,rfl⟩:∃ r,s=45::r:=by
   cases s with
   | nil=>simp at h
   | cons c r=>simp at h;exact⟨r,by rw[h]⟩
  rw[eS,a3]
  refine A4g (l _) ?_
  have:=pE (R:=R) (N:=N) (c:=true) (K:=K) f k rfl N 0 0 r S0 (by rw[A1a] at q;omega) hs (by decide) (.inl rfl) (d.le (by rw[A1a];omega)) a1 a2
  rw[A35,A1w] at this
  exact this
 ·have e1:HW s=((Jd s:Nat):Int):=by
   unfold HW
   split
   ·simp at h
   ·rfl
  have t:s.all De=true:=by
   rw[←hs];unfold SD
   split
   ·simp at h
   ·rfl
  rw[YS h,a3]
  refine A4g (l _) ?_
  have:=pE (R:=R) (N:=N) (c:=false) (K:=K) f k rfl N 0 0 s S0 (by omega) t (by decide) (.inl rfl) (d.le (by omega)) a1 a2
  rw[A35,A1w] at this
  rw[e1]
  exact this
theorem aQ {s:Lu} (h:Sj s=true):s.all De=true:=by
 simp only[Sj,Aeo,A1f] at h;exact h.1.1
theorem aR {s:Lu} (h:mS s=true):SD s=true:=by
 by_cases d:s.head?=some 45
 ·obtain⟨r,rfl⟩:∃ r,s=45::r:=by
   cases s with
   | nil=>simp at d
   | cons c r=>simp at d;exact⟨r,by rw[d]⟩
  have h:(Sj r&&!(r==[48]))=true:=h
  simp only[A1f] at h;exact aQ h.1
 ·have e1:mS s=Sj s:=by
   unfold mS;split
   ·simp at d
   ·rfl
  have f:SD s=s.all De:=by
   unfold SD;split
   ·simp at d
   ·rfl
  rw[f];rw[e1] at h;exact aQ h
theorem x_ {s:Lu} (h:s.all De=true):∀ c ∈ s,c.toNat<128:=by
 intro c d
 have:=A1u.1 h c d
 simp[De] at this;omega
theorem Aet {s:Lu} (h:SD s=true):∀ c ∈ s,c.toNat<128:=by
 unfold SD at h
 split at h
 ·intro c d
  rcases A1j.1 d with rfl | d
  ·decide
  ·exact x_ h c d
 ·exact x_ h
theorem wD {N:Nat} {s:Lu} {K:LA→Int→O R} (hs:mS s=true) (d:fit (s.length+30) N):JW N s K=if 4096<Aak s then K [(.bool false),.nsl] 8 else K (Td (HW s)) 0:=by
 have f:=d.1;have k:=d.2
 rw[TM];unfold RI
 rw[eT (by omega),hs,show(!true)=false by rfl,cf,jr (Aet (aR hs)) (by omega) (by omega)]
 by_cases h:4096<Aak s
 ·rw[decide_eq_true h,ct,if_pos h]
 ·rw[decide_eq_false h,cf,YU (aR hs) d,A04,ct,Axq,ct,A0k,if_neg h]
theorem Ap2 (u:Nat):mS (dec u)=true:=by
 have d:=mR u
 unfold mS
 split
 ·rename_i r f
  have:=aQ d
  rw[f] at this
  simp only[A12,A1f] at this
  exact absurd this.1 (by decide)
 ·exact d
theorem Ah1 (u:Nat):HW (dec u)=(u:Int):=by
 unfold HW
 split
 ·rename_i r d
  have:=aQ (mR u)
  rw[d] at this
  simp only[A12,A1f] at this
  exact absurd this.1 (by decide)
 ·rw[YR]
theorem aS (z:Int):mS (uJ z)=true:=by
 unfold uJ Aeq
 by_cases h:z<0
 ·rw[if_pos h]
  show(Sj (dec z.natAbs)&&!(dec z.natAbs==[48]))=true
  rw[mR,A2c]
  simp only[A4n,beq_eq_false_iff_ne]
  intro e
  have:=congrArg Jd e
  rw[YR] at this
  have:z.natAbs=0:=this
  omega
 ·rw[if_neg h];exact Ap2 _
theorem YV (z:Int):HW (uJ z)=z:=by
 unfold uJ Aeq
 by_cases h:z<0
 ·rw[if_pos h]
  show -((Jd (dec z.natAbs):Nat):Int)=z
  rw[YR];omega
 ·rw[if_neg h,Ah1];omega
theorem gI (c b:UInt8) (l:Lu):Lib.index (b::l) [c]=if c=b then 0 else if Lib.index l [c]=-1 then -1 else Lib.index l [c]+1:=by
 rw[Lib.index]
 have f:([c].isPrefixOf (b::l)=true)↔c=b:=by simp[List.isPrefixOf]
 by_cases h:c=b
 ·rw[if_pos (f.2 h),if_pos h]
 ·rw[if_neg (fun e=>h (f.1 e)),if_neg h]
  by_cases d:Lib.index l [c]=-1
  ·rw[d];rfl
  ·rw[if_neg (by simpa using d),if_neg d]
theorem Aeu (c:UInt8):∀ s:Lu,c ∉ s→Lib.index s [c]=-1
 | [],_=>rfl
 | b::l,h=>by
  rw[gI,if_neg (fun e=>h (by simp[e])),Aeu c l (fun e=>h (by simp[e])),if_pos rfl]
theorem OJ (c:UInt8) (b:Lu):∀ a:Lu,c ∉ a→Lib.index (a++c::b) [c]=(a.length:Int)
 | [],_=>by rw[A11,gI,if_pos rfl];rfl
 | d::l,h=>by
  have:=OJ c b l (fun e=>h (by simp[e]))
  rw[A1o,gI,if_neg (fun e=>h (by simp[e])),this,if_neg (by omega),A1a];omega
theorem Auy {c:UInt8} {s:Lu} (h:c ∉ s):Lib.cut s [c]=(s,[],false):=by
 unfold Lib.cut;rw[Aeu c s h,if_neg (by omega)]
theorem Ap3 {c:UInt8} {a b:Lu} (h:c ∉ a):Lib.cut (a++c::b) [c]=(a,b,true):=by
 unfold Lib.cut;rw[OJ c b a h,if_pos (by omega),A1d]
 rw[A51,A2d,←List.drop_drop,A42];rfl
theorem Ar7 {N:Nat} {s t:Lu} {K:Lu→Lu→Bool→O R} (h:s.length≤4294967280):strings_Cut N s t K=K (Lib.cut s t).1 (Lib.cut s t).2.1 (Lib.cut s t).2.2:=by
 rw[Ob];unfold Rk;rw[Apx h,ct]
theorem Ami {N:Nat} {s:Lu} {K:Lu→Lu→Bool→O R} (hs:mS s=true) (d:s.length<N):XP N s K=K s [49] true:=by
 rw[jX];unfold aG
 rw[eT d,hs,ct]
end
end Gx
namespace Gx.Ct
open Go Go.Proofs Gx.Cf
def Ai (z:Int):Prop:=-1073741824≤z∧z≤1073741824
section
variable {R:Type} {N:Nat}
theorem Amj {x:RatD} {z:Int} (h:x.can (z:Rat)) (d:Ai z):val x.ns.l=z.natAbs∧val x.ds.l=1∧z.natAbs<2147483648:=by
 unfold Ai at d
 refine⟨?_,?_,by omega⟩
 ·rw[h.2.1,A2r,A0]
 ·rw[h.2.2,A3q,A0]
theorem Aev {x:RatD} {z:Int} (h:x.can (z:Rat)):Kp x.neg x.ns=z:=by
 unfold Kp
 rw[h.1,h.2.1,A2r,A0]
 by_cases d:z<0
 ·rw[if_pos (by simpa using d)];omega
 ·rw[if_neg (by simpa using d)];omega
theorem mT {x:RatD} {z:Int} {o:Bool} (hx:x.can (z:Rat)) (q:Ai z) (k:fit x.m N) {K:Int→Int→Bool→O R}:GX N x.av o K=K z 1 true:=by
 have d:x.ns.l.length≤x.m:=A5q _ _
 have f:x.ds.l.length≤x.m:=Nat.le_max_right _ _
 obtain⟨v1,v2,v3⟩:=Amj hx q
 have hi:=Aev hx
 have hn:=pC x.neg x.ns
 rw[jG];unfold aC
 rw[Auw,pA rfl hx.ok.1 (k.le d),if_pos (by omega),Ahw,pA rfl hx.ok.2 (k.le f),if_pos (by omega),v2]
 rw[show((!true)==false)=true by rfl,ct,show((cond false true (!true))==false)=true by rfl,ct,show decide (((val x.ns.l:Nat):Int)≥2147483648)=false by rw[decide_eq_false_iff_not];omega]
 show AU N K (val x.ns.l:Int) ((1:Nat):Int) o x.av false=_
 unfold AU
 rw[cf,Al4 (by omega),cf,Auv,i64 (a:=((val x.ns.l:Nat):Int)) (by omega)]
 unfold Kp at hi
 cases n:x.neg
 ·rw[n,if_neg (by decide)] at hi
  rw[hi];rfl
 ·rw[n,if_pos rfl] at hi
  show K (wrap .i64 (0 - ((val x.ns.l:Nat):Int))) (wrap .i64 ((1:Nat):Int)) true=_
  rw[Gx.i64 (by omega),show(0:Int) - ((val x.ns.l:Nat):Int)=z by omega];rfl
theorem gJ {x:RatD} {z:Int} {o:Bool} (hx:x.can (z:Rat)) (f:Ai z) (k:fit (4*x.m+1000) N):∃ d:RatD,d.can (z:Rat)∧∀ K:LA→O R,aD N x.av o K=K d.av:=by
 have l:=k.1
 unfold Ai at f
 obtain⟨c,c1,c2⟩:=vu (R:=R) (N:=N) (s:=z) (b:=1) (by omega) (by omega) (by omega) (by omega)
 rw[Rat.mkRat_one] at c1
 refine⟨c,c1,fun K=>?_⟩
 rw[oH];unfold tE
 rw[Aem,ct,pD,mT hx f (k.le (by omega)),ct]
 refine(c2 _).trans ?_
 rfl
theorem Amk {x:RatD} {z:Int} (hx:x.can (z:Rat)) (n:Ai z) (k:fit (4*x.m+1000) N):∃ d:RatD,d.can ((-z:Int):Rat)∧∀ K:LA→O R,zp N x.av false K=K d.av:=by
 have f:RatD.can ⟨x.neg,.of x.ns.l false false,.of x.ds.l false false⟩ (z:Rat):=hx
 obtain⟨c,c1,c2⟩:=gJ (R:=R) (N:=N) (o:=false) f n k
 have q:c.ns.l.length≤x.m:=by
  rw[hx.m];rw[c1.2.1];exact A5q _ _
 refine⟨⟨decide (-z<0),.of (A7 z.natAbs) false false,c.ds⟩,⟨by rw[A2r],by rw[A2r,Int.natAbs_neg];rfl,by rw[A3q];exact c1.2.2⟩,fun K=>?_⟩
 rw[tF];unfold zo
 rw[Auv,Auw,Ahw,Azv,ct]
 refine(c2 _).trans ?_
 show lG N (BI c.neg c.ns) false _=_
 rw[x9 c1.ok.1 (k.le (by omega)),Aev c1]
 rw[A1c (l:=Au (A7 z.natAbs)) (by rw[show(Au (A7 z.natAbs)).length=(A7 z.natAbs).length from A1i _];omega)]
 rfl
theorem xa {x y:RatD} {a b:Int} {o o':Bool} {K:Int→O R} (hx:x.can (a:Rat)) (k:Ai a) (f:y.can (b:Rat)) (l:Ai b) (d:fit (4*(x.m+y.m)+10) N):Yd N x.av o y.av o' K=K (vq a b):=by
 have n:=d.1
 rw[XF];unfold JU
 rw[Aem,ct,pD,uH hx.ok (d.le (by omega)),Aem,ct,pD,uH f.ok (d.le (by omega)),hx.q,f.q,A2r,A2r]
 unfold Ai at k l
 by_cases hs:a.sign=b.sign
 ·rw[show(a.sign != b.sign)=false by simp[hs],cf,ct,mT hx k (d.le (by omega)),ct,mT f l (d.le (by omega)),show((true:Bool)==true)=true by rfl,ct,At7,ct,vw,Int.mul_one,Int.mul_one,i64 (by omega),i64 (by omega)]
 ·rw[show(a.sign != b.sign)=true by simp[hs],ct,Aen]
  congr 1
  unfold vq
  rcases A45 a 0 with p | p | p<;>rcases A45 b 0 with q | q | q
  all_goals first
   | (rw[A2i p,A2i q] at hs;exact absurd rfl hs)
   | (rw[A2z p,A2z q] at hs;exact absurd rfl hs)
   | (rw[p,q] at hs;exact absurd rfl hs)
   | skip
  ·rw[A2i p,q];rw[if_pos (by decide),if_pos (by omega)]
  ·rw[A2i p,A2z q];rw[if_pos (by decide),if_pos (by omega)]
  ·rw[p,A2i q];rw[if_neg (by decide),if_pos (by decide),if_neg (by omega),if_pos (by omega)]
  ·rw[p,A2z q];rw[if_pos (by decide),if_pos (by omega)]
  ·rw[A2z p,A2i q];rw[if_neg (by decide),if_pos (by decide),if_neg (by omega),if_pos (by omega)]
  ·rw[A2z p,q];rw[if_neg (by decide),if_pos (by decide),if_neg (by omega),if_pos (by omega)]
theorem Aml {a:Int} (k:Ai a) (f:fit (4*((A7 a.natAbs).length+2)+1000) N):∃ d:RatD,d.can (a:Rat)∧∀ K:LA→Bool→O R,zr N (Td a) false (Td 1) false K=K d.av true:=by
 have hx:RatD.can ⟨decide (a<0),.of (A7 a.natAbs) false false,.of [1] false false⟩ (a:Rat):=⟨by rw[A2r],by rw[A2r];rfl,by rw[A3q,Z0];rfl⟩
 have q:RatD.m ⟨decide (a<0),.of (A7 a.natAbs) false false,.of [1] false false⟩≤(A7 a.natAbs).length+1:=Nat.max_le.2 ⟨by show(A7 a.natAbs).length≤_;omega,by show 1≤_;omega⟩
 obtain⟨d,l,d2⟩:=gJ (R:=R) (N:=N) (o:=(false||(false||false))) hx k (f.le (by omega))
 refine⟨d,l,fun K=>?_⟩
 rw[tG];unfold zq
 rw[Azy,Ax3,Axr,ct,Azy,Ax3,Axr,ct]
 have e1:([(.bool (decide ((1:Int)<0))),(.imm (Au (A7 (1:Int).natAbs)) (A7 (1:Int).natAbs).length 1 false false)]:LA)=Td ((1:Nat):Int):=rfl
 rw[e1,Apw (f.le (by show(A7 1).length≤_;rw[Z0,A2d];omega))]
 show cond (((1:Int).sign==0)) _ _=_
 rw[show((1:Int).sign==0)=false from rfl,cf]
 have n:([(.bool (!(decide (a<0)==decide ((1:Int)<0)))),(.imm (Au (A7 a.natAbs)) (A7 a.natAbs).length 1 false false),(.imm (Au (A7 (1:Int).natAbs)) (A7 (1:Int).natAbs).length 1 false false)]:LA)=RatD.av ⟨decide (a<0),.of (A7 a.natAbs) false false,.of [1] false false⟩:=by
  rw[show(1:Int).natAbs=1 from rfl,Z0,show(!(decide (a<0)==decide ((1:Int)<0)))=decide (a<0) by cases decide (a<0)<;>rfl];rfl
 rw[n]
 refine(d2 _).trans ?_
 rfl
end
end Gx.Ct
namespace Gx.Ct
open Go Go.Proofs Gx.Cf
section
variable {R:Type} {N:Nat}
theorem mU {v:Nat} (h:v<4294967296):A7 v=if v=0 then [] else [v]:=by
 by_cases d:v=0
 ·rw[if_pos d,d,F5]
 ·rw[if_neg d,DR (by omega),A2b h,A3n h,F5]
theorem uM {x:RatD} {z:Int} (hx:x.can (z:Rat)) (q:Ai z) (k:fit (4*(x.m+10)+1000) N) {K:Int→Bool→O R}:GY N x.av false K=K z true:=by
 have f:=q
 unfold Ai at q
 have y:=k.1
 obtain⟨d,l,d2⟩:=vt (R:=R) (N:=N) (v:=1073741824) (by omega) (by omega)
 have md:d.m≤2:=by
  rw[l.m];show max (A7 (Rat.num ((1073741824:Int):Rat)).natAbs).length (A7 (Rat.den ((1073741824:Int):Rat))).length≤2
  rw[A2r,A3q,mU (by omega),Z0];decide
 obtain⟨e,e1,u⟩:=Amk (R:=R) (N:=N) l (by unfold Ai;omega) (k.le (by omega))
 have me:e.m≤2:=by
  rw[e1.m];show max (A7 (Rat.num ((-1073741824:Int):Rat)).natAbs).length (A7 (Rat.den ((-1073741824:Int):Rat))).length≤2
  rw[A2r,A3q,mU (by omega),Z0];decide
 obtain⟨n,n1,n2⟩:=gJ (R:=R) (N:=N) (x:=x) (o:=false) hx f (k.le (by omega))
 rw[jS];unfold aF
 rw[d2,A0j,ct,Aem,ct,Aem,ct,pD,pD,xa hx f l (by unfold Ai;omega) (k.le (by omega))]
 rw[show decide (vq z 1073741824>0)=false by unfold vq;rw[decide_eq_false_iff_not];split<;>(try split)<;>omega,show((false:Bool)==false)=true from rfl,ct,u]
 rw[xa hx f e1 (by unfold Ai;omega) (k.le (by omega))]
 rw[show decide (vq z (-1073741824)<0)=false by unfold vq;rw[decide_eq_false_iff_not];split<;>(try split)<;>omega]
 rw[show cond false true false=false from rfl,cf]
 unfold JY RL
 rw[Aem,ct,pD,n2]
 rw[show setCells x.av 0 n.av=n.av from rfl]
 rw[ct,ct,show(beq (List.length n.av) 3&&(true&&!false))=true from rfl,ct]
 rw[Ahw,n1.2.2,A3q,Z0]
 rw[show(((((([1]:List Nat).length:Nat):Int) != 1)==false):Bool)=true from rfl,ct]
 rw[Ahw,n1.2.2,A3q,Z0]
 show JX N K false n.av=_
 rw[JX];unfold RK
 rw[Auw,n1.2.1,A2r,mU (by omega)]
 have s:∀ F:Bool→O R,OP n.av F=F (decide (z<0)):=fun F=>by rw[Auv,n1.1,A2r]
 obtain⟨m,rfl⟩:∃ m,N=m+2:=⟨N - 2,by omega⟩
 by_cases t:z.natAbs=0
 ·have:z=0:=by omega
  subst this
  rw[if_pos t]
  show Qp (m+2) K (Au []) 0 false n.av (m+2) 0 0 0=_
  rw[Qp];unfold EB
  rw[show decide ((0:Int)<0)=false from rfl,cf,s];rfl
 ·rw[if_neg t]
  show Qp (m+2) K (Au [z.natAbs]) 1 false n.av (m+1) (wrap .i64 (z.natAbs:Int)) 1 (wrap .i64 (0+1))=_
  rw[Gx.i64 (by omega),Qp];unfold EB
  rw[show decide (wrap .i64 (0+1)<1)=false from rfl,cf,s]
  by_cases hn:z<0
  ·rw[decide_eq_true hn]
   show K (wrap .i64 (0 - (z.natAbs:Int))) true=_
   rw[Gx.i64 (by omega)];congr 1;omega
  ·rw[decide_eq_false hn]
   show K (z.natAbs:Int) true=_
   congr 1;omega
theorem mV {z:Int} (d:Ai z):(tx z).length≤30∧Aak (tx z)≤4096:=by
 have h:=YT z (by unfold FQ;unfold Ai at d;omega)
 exact⟨h,A3f (A3f List.countP_le_length h) (by omega)⟩
theorem Aan {z:Int} (d:Ai z) (f:fit 1500 N) {K:Int→Bool→Int→O R}:JZ N (tx z) K=K z true 0:=by
 have k:=mV d
 rw[oM];unfold tQ
 have e:HW (tx z)=z:=by rw[Wn];exact YV z
 rw[wD (by rw[Wn];exact aS z) (f.le (by omega)),if_neg (by omega),e]
 show GY N (RatD.av ⟨decide (z<0),.of (A7 z.natAbs) false false,.of [1] false false⟩) false _=_
 have c:RatD.can ⟨decide (z<0),.of (A7 z.natAbs) false false,.of [1] false false⟩ (z:Rat):=⟨by rw[A2r],by rw[A2r];rfl,by rw[A3q,Z0];rfl⟩
 exact uM c d (f.le (by
  rw[c.m]
  have:=Apq (v:=z) (by unfold Ai at d;omega)
  omega))
theorem Ajs {s:RB} {z c d:Int} {r:List Aq} (f:Ai z) (q:c≤z) (t:z≤d) (l:fit 1500 N) (h:At s.nw s.cw s.nx (tx z::r)) (n:s.er=0) {K:Int→Int→Int→O R} {Y:O R} (k:∀ x,At s.nw s.cw x r→K z x 0=Y):Oh N c d s K=Y:=by
 rw[CW];unfold Yh
 refine Fk h n fun x hx=>?_
 show JZ N (tx z) _=_
 rw[Aan f l]
 show cond ((cond false true (decide (z<c)))==false) _ _=_
 rw[show decide (z<c)=false from decide_eq_false (by omega)]
 show cond (cond false true (decide (z>d))) _ _=_
 rw[show decide (z>d)=false from decide_eq_false (by omega)]
 exact k x hx
theorem Ar8 {s:RB} {z:Int} {r:List Aq} (d:Ai z) (f:fit 1500 N) (h:At s.nw s.cw s.nx (tx z::r)) (l:s.er=0) {K:Int→Int→Int→O R} {Y:O R} (k:∀ x,At s.nw s.cw x r→K z x 0=Y):Zv N s K=Y:=by
 rw[KE];unfold HE
 exact Ajs d d.1 d.2 f h l k
theorem Auz {d n:Nat} (h:d<n):Ag (d:Int) n=true:=by unfold Ag;simp;omega
theorem gD {pre post:Lu} {c:UInt8}:List.getD (pre++c::post) pre.length 0=c:=by simp
def Aqy (c:UInt8):Bool:=De c||decide (c.toNat=45)
theorem Amm {n:Nat} {b pre post:Lu} {c:UInt8} {K:Int→O R} (l:b=pre++c::post) (s:b.length≤1000000000) (k:Aqy c=true) :
  G2 N K b (n+1) (pre.length:Int)=G2 N K b n ((pre.length+1:Nat):Int):=by
 have d:pre.length<b.length:=by rw[l];simp
 have q:List.getD b ((pre.length:Int)).toNat 0=c:=by rw[A1d,l];exact gD
 rw[G2];unfold Zt
 rw[q,Hf d,Auz d,Gx.wS (by omega)]
 unfold Aqy De at k
 by_cases f:c.toNat=45
 ·rw[show decide ((c.toNat:Int)≥48)=false from decide_eq_false (by omega),f];rfl
 ·rw[decide_eq_false f,A3j] at k
  simp only[A1f,decide_eq_true_eq] at k
  rw[show decide ((c.toNat:Int)≥48)=true from decide_eq_true (by omega),show decide ((c.toNat:Int)≤57)=true from decide_eq_true (by omega)];rfl
theorem Aew {b:Lu} {K:Int→O R} (k:b.length≤1000000000):∀ (w pre:Lu) (n:Nat),b=pre++w→w.all Aqy=true →
  G2 N K b (n+w.length) (pre.length:Int)=G2 N K b n (b.length:Int)
 | [],pre,n,d,_=>by rw[d,A1p];rfl
 | c::w,pre,n,d,f=>by
  simp only[A12,A1f] at f
  have l:=Aew (K:=K) k w (pre++[c]) n (by rw[d];simp) f.2
  rw[A09,A2d] at l
  rw[A1a,←A2l,Amm (post:=w) d k f.1,l]
theorem Ah2 {t:Lu} {K:Int→O R} (k:t.all Aqy=true) (d:t≠[]) (s:t.length≤1000000000) (hN:t.length+5≤N):NN N t K=K (t.length:Int):=by
 rw[eO];unfold RM
 have l:=Aew (R:=R) (N:=N) (K:=K) s t [] (N - t.length) rfl k
 rw[show N - t.length+t.length=N by omega,A1b] at l
 refine l.trans ?_
 obtain⟨n,hn⟩:∃ n,N - t.length=n+1:=⟨N - t.length - 1,by omega⟩
 rw[hn,G2];unfold Zt
 rw[Hy (A1h _)]
 show Rq N K t N (t.length:Int)=_
 obtain⟨m,u⟩:∃ m,N=m+1:=⟨N - 1,by omega⟩
 have un:∀ j,Rq N K t (j+1) (t.length:Int)=K (t.length:Int):=fun j=>by
  rw[Rq];unfold LU
  obtain⟨r,z,hr⟩:∃ r z,t=r++[z]:=⟨t.dropLast,t.getLast d,(A4y d).symm⟩
  have f:Aqy z=true:=A1u.1 k z (by rw[hr];simp)
  have q:t.length=r.length+1:=by rw[hr];simp
  rw[show decide ((t.length:Int)>0)=true from decide_eq_true (by omega),show wrap .i64 ((t.length:Int) - 1)=(r.length:Int) by rw[Gx.i64 (by omega)];omega,Auz (show r.length<t.length by omega),A1d,hr,gD]
  rw[show((z.toNat:Int)==47)=false by
   rw[beq_eq_false_iff_ne]
   unfold Aqy De at f
   intro e
   have v:z.toNat=47:=by omega
   rw[v] at f;revert f;decide]
  rfl
 have:=un m
 rw[←u] at this;exact this
theorem Atm {t:Lu} (h:SD t=true):t.all Aqy=true:=by
 unfold SD at h
 have q:∀ r:Lu,r.all De=true→r.all Aqy=true:=fun r hr=>A1u.2 fun x hx=>by
  unfold Aqy;rw[A1u.1 hr x hx];rfl
 split at h
 ·rw[A12,q _ h];rfl
 ·exact q _ h
theorem Amn {z:Int} (f:Ai z) (d:fit 1500 N):∃ x:RatD,x.can (z:Rat)∧∀ K:LA→Int→O R,KA N (tx z) K=K x.av 0:=by
 have k:=mV f
 have hn:mS (tx z)=true:=by rw[Wn];exact aS z
 have hi:HW (tx z)=z:=by rw[Wn];exact YV z
 have l:=d.1
 have n:(A7 z.natAbs).length≤2:=by unfold Ai at f;exact aO (by omega)
 obtain⟨x,x1,x2⟩:=Aml (R:=R) (N:=N) f (d.le (by omega))
 refine⟨x,x1,fun K=>?_⟩
 rw[TN];unfold RN
 rw[Ami hn (by omega),show(!true)=false by rfl,cf,jr (Aet (aR hn)) (by omega) (by omega),decide_eq_false (by omega),cf,Gx.YU (aR hn) (d.le (by omega)),Gx.YU (s:=[49]) (by decide) (d.le (by decide)),hi,show HW [49]=1 by decide,x2];rfl
def Az0:LA:=[.int .i64 0,.int .i64 0,.int .i64 0,.int .i64 0]
theorem Au0 {z:Int} (d:Ai z) (f:fit 2000 N):∃ x:RatD,x.can (z:Rat)∧∀ K:LA→LA→Int→O R,NO N (tx z) K=K x.av Az0 0:=by
 have k:=mV d
 have l:=f.1
 have hn:mS (tx z)=true:=by rw[Wn];exact aS z
 have hi:HW (tx z)=z:=by rw[Wn];exact YV z
 obtain⟨x,x1,x2⟩:=Amn (R:=R) (N:=N) d (f.le (by omega))
 refine⟨x,x1,fun K=>?_⟩
 rw[jY];unfold aH
 rw[Ah2 (Atm (aR hn)) (Ap1 z).1 (by omega) (by omega)]
 rw[show((decide ((0:Int)≤(0:Int)))&&((decide (0≤(((tx z).length:Nat):Int)))&&((decide ((((tx z).length:Nat):Int)≤(((tx z).length:Nat):Int)))&&(decide ((((tx z).length:Nat):Int)≤(((tx z).length:Nat):Int))))))=true by simp,ct,A1d,A2e,x2]
 rw[A0j,ct,show((0:Int) != 0)=false from rfl,cf]
 rw[show((decide (0≤(((tx z).length:Nat):Int)))&&((decide ((((tx z).length:Nat):Int)≤(((tx z).length:Nat):Int)))&&((decide ((((tx z).length:Nat):Int)≤(((tx z).length:Nat):Int)))&&(decide ((((tx z).length:Nat):Int)≤(((tx z).length:Nat):Int))))))=true by simp,ct]
 rw[List.drop_length,Nat.sub_self,show take 0 ([]:Lu)=[] from rfl,show(([]:Lu)==[])=true from rfl,ct]
 rfl
theorem Ar9 (z:Int):∃ r c,tx z=r++[c]∧De c=true:=by
 have f:∀ n:Nat,∃ r c,dec n=r++[c]∧De c=true:=fun n =>
  ⟨_,_,(A4y (gF n)).symm,A1u.1 (OH n) _ (List.getLast_mem _)⟩
 obtain⟨r,c,e,h⟩:=f z.natAbs
 rw[Wn];unfold uJ Aeq
 by_cases d:z<0
 ·rw[if_pos d,e];exact⟨45::r,c,rfl,h⟩
 ·rw[if_neg d,e];exact⟨r,c,rfl,h⟩
theorem Au1 (z:Int):(tx z).all Aqy=true:=Atm (aR (by rw[Wn];exact aS z))
theorem Axu (z:Int):(47:UInt8) ∉ tx z:=fun h=>by
 have:=A1u.1 (Au1 z) _ h
 revert this;decide
theorem Ap4 {z:Int} (h:0≤z):∃ c r,tx z=c::r∧De c=true:=by
 rw[Wn];unfold uJ Aeq
 rw[if_neg (by omega)]
 cases e:dec z.natAbs with
 | nil=>exact absurd e (gF _)
 | cons c r=>exact⟨c,r,rfl,A1u.1 (OH z.natAbs) c (by rw[e];simp)⟩
theorem aT {s:RB} {z:Int} {b:LA} {o:Bool} {r:List Aq} (d:Ai z) (f:fit 2000 N) (h:At s.nw s.cw s.nx (tx z::r)) (q:s.er=0) {K:Int→Int→Int→O R} {Y:O R} (k:∀ x,At s.nw s.cw x r→K z x 0=Y):C4 N b o s K=Y:=by
 rw[AW];unfold Pk
 refine Fk h q fun x hx=>?_
 obtain⟨y,y1,y2⟩:=Au0 (R:=R) (N:=N) d f
 have t:=mV d
 obtain⟨p,c,e,l⟩:=Ar9 z
 have n:(tx z).length=p.length+1:=by rw[e];simp
 show NO N (tx z) _=_
 rw[y2]
 show cond (Ag (wrap .i64 ((((tx z).length:Nat):Int) - 1)) (tx z).length) _ _=_
 rw[show wrap .i64 (((tx z).length:Int) - 1)=(p.length:Int) by rw[Gx.i64 (by omega)];omega,Auz (show p.length<(tx z).length by omega),ct,A1d]
 rw[show List.getD (tx z) p.length 0=c by rw[e];exact gD]
 unfold De at l
 simp only[A1f,decide_eq_true_eq] at l
 rw[show decide ((c.toNat:Int)<48)=false from decide_eq_false (by omega),show decide ((c.toNat:Int)>57)=false from decide_eq_false (by omega)]
 show Hw N K s x 0 y.av=_
 unfold Hw
 rw[Aem,ct,pD,uM y1 d (f.le (by
  rw[y1.m]
  have:=Apq (v:=z) (by unfold Ai at d;omega)
  omega))]
 exact k x hx
def I5 (f:FracD):Prop:=Ai f.num∧Ai f.den∧1≤f.den
theorem qh {s:RB} {f:FracD} {r:List Aq} (t:I5 f) (d:fit 2000 N) (h:At s.nw s.cw s.nx (Lj f::r)) (u:s.er=0) {K:LA→Int→Int→O R} {Y:O R} (k:∀ x,At s.nw s.cw x r→K [.int .i64 f.num,.int .i64 f.den] x 0=Y):Bw N s K=Y:=by
 obtain⟨l,n,v⟩:=t
 rw[W7];unfold Ns
 refine Fk h u fun x hx=>?_
 have l1:=mV l
 have l2:=mV n
 show strings_Cut N (Lj f) [47] _=_
 rw[Ar7 (by unfold Lj;rw[A09,A1a];omega)]
 unfold Lj
 rw[Ap3 (Axu f.num)]
 show JZ N (tx f.num) _=_
 rw[Aan l (d.le (by omega))]
 show Hb N K f.num true s x 0 (tx f.den)=_
 unfold Hb O2
 rw[Aan n (d.le (by omega))]
 obtain⟨c,w,e,q⟩:=Ap4 (show 0≤f.den by omega)
 unfold De at q
 simp only[A1f,decide_eq_true_eq] at q
 rw[e]
 rw[show Ag 0 (c::w).length=true by unfold Ag;simp,show(((UInt8.toNat (List.getD (c::w) 0 0):Nat):Int)==45)=false by
  rw[beq_eq_false_iff_ne];show ¬ (c.toNat:Int)=45;omega]
 show Ki N K f.num true f.den true s x 0=_
 unfold Ki
 rw[show decide (f.den<1)=false from decide_eq_false (by omega)]
 exact k x hx
theorem uN {l:List Aq} {d f:Bool} (q:l.length≤1000000) (hn:l.Nodup) {i:Nat} (hi:i<l.length) {K:Int→O R}:∀ (m j fuel:Nat),j+m=i→l.length<fuel+j →
  Az N K (A8 l) l.length d f l[i] fuel (l.length:Int) (j:Int)=K (i:Int)
 | 0,j,0,k,n=>by omega
 | m+1,j,0,k,n=>by omega
 | 0,j,fuel+1,k,_=>by
  have:j=i:=by omega
  subst this
  rw[Az];unfold Bm
  rw[Hf hi,ct,Ab hi,ct,A1d,A1x,Oa hi,beq_self_eq_true,ct]
 | m+1,j,fuel+1,k,n=>by
  have h:j<l.length:=by omega
  have e:¬ l[i]=l[j]:=fun e=>by
   have:=(List.getElem_inj hn).1 e
   omega
  rw[Az];unfold Bm
  rw[Hf h,ct,Ab h,ct,A1d,A1x,Oa h,beq_false_of_ne e,cf,LW (by omega)]
  exact uN q hn hi m (j+1) fuel (by omega) (by omega)
theorem OJ {l:List Aq} {n:Nat} {d f:Bool} (hN:1000000000<N) (hn:n=l.length) (k:l.length≤1000000) (q:l.Nodup) {i:Nat} (hi:i<l.length) {K:Int→O R}:A5 N (A8 l) n d f l[i] K=K (i:Int):=by
 subst hn
 rw[Fz];unfold Cz
 exact uN k q hi i 0 N (by omega) (by omega)
theorem Ap5 {s:RB} {w:Aq} {r ns:List Aq} (hN:1000000000<N) (d:Ba w=true) (f:w ∉ ns) (t:ns.length<32) (l:s.zB=ns.length) (n:s.yB=A8 ns) (h:At s.nw s.cw s.nx (w::r)) (q:s.er=0) {K:Int→Int→O R} {L:Lu→Int→Int→Nat→LA→O R} {Y:O R} (k:∀ x,At s.nw s.cw x r→L w x 0 (ns++[w]).length (A8 (ns++[w]))=Y):V9 N s K L=Y:=by
 rw[HB];unfold BX
 refine Fk h q fun x hx=>?_
 show Lv N w _=_
 rw[R2 (by omega),d]
 show Ar N _ _ _ _ _ _=_
 rw[l,n,Gn,Uv hN rfl (by omega),show ns.contains w=false by simpa using f,cf,Qq]
 show cond (decide ((ns.length:Int)≥32)) _ _=_
 rw[show decide ((ns.length:Int)≥32)=false from decide_eq_false (by omega),cf,B' (by omega),ct,Ij]
 have e:ns.length+1=(ns++[w]).length:=by simp
 rw[e]
 exact k x hx
theorem Ap6 {s:RB} {w:Aq} {r ns:List Aq} (hN:1000000000<N) (d:Ba w=true) (f:w ∉ ns) (t:ns.length<64) (l:s.zC=ns.length) (n:s.yC=A8 ns) (h:At s.nw s.cw s.nx (w::r)) (q:s.er=0) {K:Int→Int→O R} {L:Lu→Int→Int→Nat→LA→O R} {Y:O R} (k:∀ x,At s.nw s.cw x r→L w x 0 (ns++[w]).length (A8 (ns++[w]))=Y):Pm N s K L=Y:=by
 rw[W6];unfold T9
 refine Fk h q fun x hx=>?_
 show Lv N w _=_
 rw[R2 (by omega),d]
 show Ar N _ _ _ _ _ _=_
 rw[l,n,Gn,Uv hN rfl (by omega),show ns.contains w=false by simpa using f,cf,Qq]
 show cond (decide ((ns.length:Int)≥64)) _ _=_
 rw[show decide ((ns.length:Int)≥64)=false from decide_eq_false (by omega),cf,B' (by omega),ct,Ij]
 have e:ns.length+1=(ns++[w]).length:=by simp
 rw[e]
 exact k x hx
theorem Ap7 {s:RB} {w:Aq} {r ns:List Aq} (hN:1000000000<N) (d:Ba w=true) (f:w ∉ ns) (t:ns.length<16) (l:s.zD=ns.length) (n:s.yD=A8 ns) (h:At s.nw s.cw s.nx (w::r)) (q:s.er=0) {K:Int→Int→O R} {L:Lu→Int→Int→Nat→LA→O R} {Y:O R} (k:∀ x,At s.nw s.cw x r→L w x 0 (ns++[w]).length (A8 (ns++[w]))=Y):Pp N s K L=Y:=by
 rw[W8];unfold Ub
 refine Fk h q fun x hx=>?_
 show Lv N w _=_
 rw[R2 (by omega),d]
 show Ar N _ _ _ _ _ _=_
 rw[l,n,Gn,Uv hN rfl (by omega),show ns.contains w=false by simpa using f,cf,Qq]
 show cond (decide ((ns.length:Int)≥16)) _ _=_
 rw[show decide ((ns.length:Int)≥16)=false from decide_eq_false (by omega),cf,B' (by omega),ct,Ij]
 have e:ns.length+1=(ns++[w]).length:=by simp
 rw[e]
 exact k x hx
theorem Ap8 {s:RB} {w:Aq} {r ns:List Aq} (hN:1000000000<N) (d:Ba w=true) (f:w ∉ ns) (t:ns.length<8) (l:s.zE=ns.length) (n:s.yE=A8 ns) (h:At s.nw s.cw s.nx (w::r)) (q:s.er=0) {K:Int→Int→O R} {L:Lu→Int→Int→Nat→LA→O R} {Y:O R} (k:∀ x,At s.nw s.cw x r→L w x 0 (ns++[w]).length (A8 (ns++[w]))=Y):Pr N s K L=Y:=by
 rw[W9];unfold Uc
 refine Fk h q fun x hx=>?_
 show Lv N w _=_
 rw[R2 (by omega),d]
 show Ar N _ _ _ _ _ _=_
 rw[l,n,Gn,Uv hN rfl (by omega),show ns.contains w=false by simpa using f,cf,Qq]
 show cond (decide ((ns.length:Int)≥8)) _ _=_
 rw[show decide ((ns.length:Int)≥8)=false from decide_eq_false (by omega),cf,B' (by omega),ct,Ij]
 have e:ns.length+1=(ns++[w]).length:=by simp
 rw[e]
 exact k x hx
theorem Ap9 {s:RB} {w:Aq} {r ns:List Aq} (hN:1000000000<N) (d:Ba w=true) (f:w ∉ ns) (t:ns.length<8) (l:s.zF=ns.length) (n:s.yF=A8 ns) (h:At s.nw s.cw s.nx (w::r)) (q:s.er=0) {K:Int→Int→O R} {L:Lu→Int→Int→Nat→LA→O R} {Y:O R} (k:∀ x,At s.nw s.cw x r→L w x 0 (ns++[w]).length (A8 (ns++[w]))=Y):Ps N s K L=Y:=by
 rw[Xa];unfold Ud
 refine Fk h q fun x hx=>?_
 show Lv N w _=_
 rw[R2 (by omega),d]
 show Ar N _ _ _ _ _ _=_
 rw[l,n,Gn,Uv hN rfl (by omega),show ns.contains w=false by simpa using f,cf,Qq]
 show cond (decide ((ns.length:Int)≥8)) _ _=_
 rw[show decide ((ns.length:Int)≥8)=false from decide_eq_false (by omega),cf,B' (by omega),ct,Ij]
 have e:ns.length+1=(ns++[w]).length:=by simp
 rw[e]
 exact k x hx
theorem Aqa {s:RB} {w:Aq} {r ns:List Aq} (hN:1000000000<N) (d:Ba w=true) (f:w ∉ ns) (t:ns.length<64) (l:s.zG=ns.length) (n:s.yG=A8 ns) (h:At s.nw s.cw s.nx (w::r)) (q:s.er=0) {L:Lu→Int→Int→Nat→LA→O R} {Y:O R} (k:∀ x,At s.nw s.cw x r→L w x 0 (ns++[w]).length (A8 (ns++[w]))=Y):Pu N s L=Y:=by
 rw[Xc];unfold Ue
 refine Fk h q fun x hx=>?_
 show Lv N w _=_
 rw[R2 (by omega),d]
 show Ar N _ _ _ _ _ _=_
 rw[l,n,Gn,Uv hN rfl (by omega),show ns.contains w=false by simpa using f,cf,Qq]
 show cond (decide ((ns.length:Int)≥64)) _ _=_
 rw[show decide ((ns.length:Int)≥64)=false from decide_eq_false (by omega),cf,B' (by omega),ct,Ij]
 have e:ns.length+1=(ns++[w]).length:=by simp
 rw[e]
 exact k x hx
theorem OK {s:RB} {i:Int} {r ns:List Aq} (hN:1000000000<N) (f:ns.Nodup) (u:0≤i) (hi:i<(ns.length:Int)) (l:ns.length≤1000000) (n:s.zB=ns.length) (q:s.yB=A8 ns) (h:At s.nw s.cw s.nx (Bc ns i::r)) (t:s.er=0) {K:Int→Int→Int→O R} {Y:O R} (k:∀ x,At s.nw s.cw x r→K i x 0=Y):B7 N s K=Y:=by
 rw[CZ];unfold Ym
 refine Fk h t fun x hx=>?_
 show A5 N _ _ _ _ _ _=_
 have d:i.toNat<ns.length:=by omega
 rw[n,q,Gn,show Bc ns i=ns[i.toNat] by unfold Bc;rw[A1m,A1g d];rfl,OJ hN rfl l f d,show(i.toNat:Int)=i by omega,show decide (i<0)=false from decide_eq_false (by omega),cf]
 exact k x hx
theorem Amo {s:RB} {i:Int} {r ns:List Aq} (hN:1000000000<N) (f:ns.Nodup) (u:0≤i) (hi:i<(ns.length:Int)) (l:ns.length≤1000000) (n:s.zC=ns.length) (q:s.yC=A8 ns) (h:At s.nw s.cw s.nx (Bc ns i::r)) (t:s.er=0) {K:Int→Int→Int→O R} {Y:O R} (k:∀ x,At s.nw s.cw x r→K i x 0=Y):Nw N s K=Y:=by
 rw[Wc];unfold Se
 refine Fk h t fun x hx=>?_
 show A5 N _ _ _ _ _ _=_
 have d:i.toNat<ns.length:=by omega
 rw[n,q,Gn,show Bc ns i=ns[i.toNat] by unfold Bc;rw[A1m,A1g d];rfl,OJ hN rfl l f d,show(i.toNat:Int)=i by omega,show decide (i<0)=false from decide_eq_false (by omega),cf]
 exact k x hx
theorem Amp {s:RB} {i:Int} {r ns:List Aq} (hN:1000000000<N) (f:ns.Nodup) (u:0≤i) (hi:i<(ns.length:Int)) (l:ns.length≤1000000) (n:s.zD=ns.length) (q:s.yD=A8 ns) (h:At s.nw s.cw s.nx (Bc ns i::r)) (t:s.er=0) {K:Int→Int→Int→O R} {Y:O R} (k:∀ x,At s.nw s.cw x r→K i x 0=Y):Nx N s K=Y:=by
 rw[Wd];unfold Sf
 refine Fk h t fun x hx=>?_
 show A5 N _ _ _ _ _ _=_
 have d:i.toNat<ns.length:=by omega
 rw[n,q,Gn,show Bc ns i=ns[i.toNat] by unfold Bc;rw[A1m,A1g d];rfl,OJ hN rfl l f d,show(i.toNat:Int)=i by omega,show decide (i<0)=false from decide_eq_false (by omega),cf]
 exact k x hx
theorem Hx {s:RB} {z:Int} {r:List Aq} (d:Ai z) (f:fit 2000 N) (h:At s.nw s.cw s.nx (tx z::r)) (l:s.er=0) {K:Int→Int→Int→O R} {Y:O R} (k:∀ x,At s.nw s.cw x r→K z x 0=Y):A4 N s K=Y:=by
 rw[G'];unfold BW
 exact aT d f h l k
theorem jt {s:RB} {z:Int} {r:List Aq} (d:Ai z) (f:fit 2000 N) (h:At s.nw s.cw s.nx (tx z::r)) (l:s.er=0) {K:Int→Int→Int→O R} {Y:O R} (k:∀ x,At s.nw s.cw x r→K z x 0=Y):Ha N s K=Y:=by
 rw[HC];unfold BY
 exact aT d f h l k
theorem Asa {s:RB} {z:Int} {r:List Aq} (d:Ai z) (f:fit 2000 N) (h:At s.nw s.cw s.nx (tx z::r)) (l:s.er=0) {K:Int→Int→Int→O R} {Y:O R} (k:∀ x,At s.nw s.cw x r→K z x 0=Y):Zw N s K=Y:=by
 rw[KH];unfold HH
 exact aT d f h l k
theorem ju {s:RB} {z:Int} {r:List Aq} (d:Ai z) (f:fit 2000 N) (h:At s.nw s.cw s.nx (tx z::r)) (l:s.er=0) {K:Int→Int→Int→O R} {Y:O R} (k:∀ x,At s.nw s.cw x r→K z x 0=Y):Ic N s K=Y:=by
 rw[KI];unfold HI
 exact aT d f h l k
theorem Aex {s:RB} {z:Int} {r:List Aq} (d:Ai z) (f:fit 2000 N) (h:At s.nw s.cw s.nx (tx z::r)) (l:s.er=0) {K:Int→Int→Int→O R} {Y:O R} (k:∀ x,At s.nw s.cw x r→K z x 0=Y):Qs N s K=Y:=by
 rw[HJ];unfold B_
 exact aT d f h l k
theorem mW {s:RB} {z:Int} {r:List Aq} (d:Ai z) (f:fit 2000 N) (h:At s.nw s.cw s.nx (tx z::r)) (l:s.er=0) {K:Int→Int→Int→O R} {Y:O R} (k:∀ x,At s.nw s.cw x r→K z x 0=Y):Eg N s K=Y:=by
 rw[DB];unfold Yo
 exact aT d f h l k
theorem Ajt {n:Nat} (h:n≤2000000000):((ble n 140737488355328)&&(ble (n*8) 140737488355328))=true:=by simp;omega
theorem OL (l:List Int):take (l.length*1) (Ax l)=Ax l:=by rw[A1x,A1c (by rw[Js];exact A1h _)]
theorem aU (l:List Int) (z:Int):Ax l++[.int .i64 z]=Ax (l++[z]):=by rw[←VP];rfl
theorem Kq {α:Type} (l:List α) (z:α):l.length+1=(l++[z]).length:=by simp
theorem Ah3 {nw:Nat} {cw:LA} {nx:Int} {r:List Aq} (h:At nw cw nx r):r.length≤2000000:=by
 obtain⟨p,e1,d,e3,e4⟩:=h
 rw[A09] at e4;omega
theorem BJ (l:List Int):(AV.imm (take (l.length*1) (Ax l)) l.length 1 false false)=Sl.av 1 F3 (.of l false false):=by
 rw[OL];show _=AV.imm (l.flatMap F3) l.length 1 false false;rw[Cc]
theorem uO {s:RB} (n:fit 2000 N) {r:List Aq} {K:Nat→Int→Int→LA→O R} {Y:O R}:∀ (l pre:List Int) (fuel:Nat) (x:Int),(∀ z ∈ l,Ai z)→l.length<fuel→pre.length+l.length≤1000000→((pre.length+l.length:Nat):Int)=s.th→At s.nw s.cw x (l.map tx++r)→(∀ y,At s.nw s.cw y r→K (pre++l).length y 0 (Ax (pre++l))=Y)→C7 N K s fuel pre.length (pre.length:Int) x 0 (Ax pre)=Y
 | [],pre,fuel+1,x,d,q,t,f,h,k=>by
  rw[C7];unfold Kh
  rw[←f]
  rw[A1b,A20,Hy (A1h _),cf]
  have:=k x h
  rw[A1p] at this
  exact this
 | z::l,pre,fuel+1,x,d,q,t,f,h,k=>by
  have hL:=Ah3 h
  rw[A09,A1i,A1a] at hL
  rw[A1a] at q f t
  rw[C7];unfold Kh
  rw[show decide ((pre.length:Int)<s.th)=true from decide_eq_true (by omega),ct]
  refine Hx (d z (A21 ..)) n h rfl fun y v=>?_
  show cond _ (C7 N K s fuel _ _ y 0 _) none=_
  rw[Ajt (by omega),ct,LW (by omega),OL,aU,Kq pre z]
  have A:(pre++[z]).length=pre.length+1:=by simp
  refine uO n l (pre++[z]) fuel y (fun w C=>d w (A15 _ C)) (by omega) (by omega) (by omega) v fun u D=>?_
  have:=k u D
  rw[A5c] at this
  exact this
theorem aV {s:RB} (d:fit 2000 N) (hN:1000000000<N) {l:List Int} {r:List Aq} (f:∀ z ∈ l,Ai z) (t:l.length≤1000) (n:(l.length:Int)=s.th) (h:At s.nw s.cw s.nx (l.map tx++r)) (q:s.er=0) {K:Nat→Int→Int→LA→O R} {Y:O R} (k:∀ x,At s.nw s.cw x r→K l.length x 0 (Ax l)=Y):Cm N s K=Y:=by
 rw[AX];unfold Pl
 rw[q]
 exact uO d l [] N s.nx f (by omega) (by rw[A1b];omega) (by rw[A1b,A1w];exact n) h k
theorem eU {s:RB} (n:fit 2000 N) {r:List Aq} {K:Nat→Int→Int→LA→O R} {Y:O R}:∀ (l pre:List Int) (fuel:Nat) (x:Int),(∀ z ∈ l,Ai z)→l.length<fuel→pre.length+l.length≤1000000→((pre.length+l.length:Nat):Int)=s.th→At s.nw s.cw x (l.map tx++r)→(∀ y,At s.nw s.cw y r→K (pre++l).length y 0 (Ax (pre++l))=Y)→B8 N K s fuel pre.length (pre.length:Int) x 0 (Ax pre)=Y
 | [],pre,fuel+1,x,d,q,t,f,h,k=>by
  rw[B8];unfold Hk
  rw[←f]
  rw[A1b,A20,Hy (A1h _),cf]
  have:=k x h
  rw[A1p] at this
  exact this
 | z::l,pre,fuel+1,x,d,q,t,f,h,k=>by
  have hL:=Ah3 h
  rw[A09,A1i,A1a] at hL
  rw[A1a] at q f t
  rw[B8];unfold Hk
  rw[show decide ((pre.length:Int)<s.th)=true from decide_eq_true (by omega),ct]
  refine jt (d z (A21 ..)) n h rfl fun y v=>?_
  show cond _ (B8 N K s fuel _ _ y 0 _) none=_
  rw[Ajt (by omega),ct,LW (by omega),OL,aU,Kq pre z]
  have A:(pre++[z]).length=pre.length+1:=by simp
  refine eU n l (pre++[z]) fuel y (fun w C=>d w (A15 _ C)) (by omega) (by omega) (by omega) v fun u D=>?_
  have:=k u D
  rw[A5c] at this
  exact this
theorem Aao {s:RB} (d:fit 2000 N) (hN:1000000000<N) {l:List Int} {r:List Aq} (f:∀ z ∈ l,Ai z) (t:l.length≤1000) (n:(l.length:Int)=s.th) (h:At s.nw s.cw s.nx (l.map tx++r)) (q:s.er=0) {K:Nat→Int→Int→LA→O R} {Y:O R} (k:∀ x,At s.nw s.cw x r→K l.length x 0 (Ax l)=Y):Fq N s K=Y:=by
 rw[Uq];unfold Kj
 rw[q]
 exact eU d l [] N s.nx f (by omega) (by rw[A1b];omega) (by rw[A1b,A1w];exact n) h k
theorem Aey {s:RB} {a:Aq} (f:fit 2000 N) {r:List Aq} {K:Nat→Int→Int→LA→O R} {Y:O R} (n:∀ z:Int,tx z≠a) (hr:∀ w ∈ r.head?,w=a):∀ (l pre:List Int) (fuel:Nat) (x:Int),(∀ z ∈ l,Ai z)→l.length<fuel→pre.length+l.length≤2000000→At s.nw s.cw x (l.map tx++r)→(∀ y,At s.nw s.cw y r→K (pre++l).length y 0 (Ax (pre++l))=Y)→Fj N K a s fuel pre.length x 0 (Ax pre)=Y
 | [],pre,fuel+1,x,d,q,t,h,k=>by
  rw[Fj];unfold Nt
  have fin:K pre.length x 0 (Ax pre)=Y:=by
   have:=k x h
   rw[A1p] at this
   exact this
  cases r with
  | nil=>exact oS (s:={ s with nx:=x,er:=0 }) h rfl fin
  | cons w r =>
   refine Yr (s:={ s with nx:=x,er:=0 }) (a:=a) h rfl ?_
   rw[hr w rfl,beq_self_eq_true]
   exact fin
 | z::l,pre,fuel+1,x,d,q,t,h,k=>by
  rw[A1a] at q t
  rw[Fj];unfold Nt
  refine Yr (s:={ s with nx:=x,er:=0 }) (a:=a) h rfl ?_
  rw[beq_false_of_ne (n z)]
  refine Ar8 (s:={ s with nx:=x,er:=0 }) (d z (A21 ..)) (f.le (by omega)) h rfl fun y v=>?_
  rw[Ajt (by omega),ct,OL,aU,Kq pre z]
  have A:(pre++[z]).length=pre.length+1:=by simp
  refine Aey f n hr l (pre++[z]) fuel y (fun w C=>d w (A15 _ C)) (by omega) (by omega) v fun u D=>?_
  have:=k u D
  rw[A5c] at this
  exact this
theorem Aju {s:RB} {a:Aq} (d:fit 2000 N) (hN:1000000000<N) (f:∀ z:Int,tx z≠a) {l:List Int} {r:List Aq} (hr:∀ w ∈ r.head?,w=a) (n:∀ z ∈ l,Ai z) (h:At s.nw s.cw s.nx (l.map tx++r)) (q:s.er=0) {K:Nat→Int→Int→LA→O R} {Y:O R} (k:∀ x,At s.nw s.cw x r→K l.length x 0 (Ax l)=Y):I0 N a s K=Y:=by
 rw[HF];unfold Tq
 rw[q]
 have hL:=Ah3 h
 rw[A09,A1i] at hL
 exact Aey d f hr l [] N s.nx n (by omega) (by rw[A1b];omega) h k
theorem Aqb {s:RB} {z:Int} {r:List Aq} (f:z=0∨z=1∨z=2) (h:At s.nw s.cw s.nx (Xw z++r)) (d:s.er=0) {K:Int→Int→Int→O R} {Y:O R} (k:∀ x,At s.nw s.cw x r→K z x 0=Y):Tr N s K=Y:=by
 rw[DA];unfold Yn
 rcases f with rfl | rfl | rfl
 ·exact Fk (w:=Ai5) h d fun x hx=>k x hx
 ·exact Fk (w:=P_) h d fun x hx=>k x hx
 ·exact Fk (w:=Arb) h d fun x hx=>k x hx
theorem eV {n k:Nat} (h:n≤2000000000) (d:k≤1000):((ble n 140737488355328)&&(ble (n*k) 140737488355328))=true:=by
 have:n*k≤2000000000*1000:=A53 h d
 simp;omega
def eX {α:Type} (l:Sl α):Sl α:=.of l.l false false
def jy (b:BusD):BusD:={ b with demand:=eX b.demand }
def Wq (l:LineD):LineD:={ l with away:=eX l.away }
def uY (t:TieD):TieD:={ t with imp:=eX t.imp,exp:=eX t.exp,price:=eX t.price }
def Ax4 (s:RB) (l:Sl Int):Prop:=(l.l.length:Int)=s.th∧l.l.length≤1000∧∀ z ∈ l.l,Ai z
theorem Au2 (z:Int):tx z≠[]:=(Ap1 z).1
theorem Au3 {s:RB} {b:BusD} {ns B r:List Aq} (f:fit 2000 N) (hN:1000000000<N) (n:Ba b.name=true) (q:b.name ∉ ns) (t:ns.length<32) (u:s.zB=ns.length) (v:s.yB=A8 ns) (hn:s.nB≤1000000) (hdemand:Ax4 s b.demand) (d:Ai b.shed) (h:At s.nw s.cw s.nx (b.name::Vd::(b.demand.l.map tx++(sF::tx b.shed::r)))) (y:s.er=0) {K:Int→Int→Nat→Nat→LA→LA→O R} {Y:O R} (k:∀ x,At s.nw s.cw x r→K x 0 (s.nB+1) (ns++[b.name]).length (s.cB.take (s.nB*3)++(jy b).av) (A8 (ns++[b.name]))=Y):Zu N s K=Y:=by
 rw[KD];unfold HD
 refine Ap5 hN n q t u v h y fun x h=>?_
 refine Cg (w:=Vd) h rfl fun x h=>?_
 refine aV f hN hdemand.2.2 hdemand.2.1 (by exact hdemand.1) h rfl fun x h=>?_
 refine Cg (w:=sF) h rfl fun x h=>?_
 refine jt d f h rfl fun x h=>?_
 rw[eV (by omega) (by omega),ct,BJ]
 exact k x h
theorem Aqc {s:RB} {u:StoreD} {ns B r:List Aq} (l:fit 2000 N) (hN:1000000000<N) (q:Ba u.name=true) (t:u.name ∉ ns) (v:ns.length<8) (y:s.zE=ns.length) (z:s.yE=A8 ns) (hn:s.nS≤1000000) (hB:B.Nodup) (hBl:B.length≤1000000) (hzB:s.zB=B.length) (hyB:s.yB=A8 B) (f:0≤u.bus∧u.bus<(B.length:Int)) (hcapacity:Ai u.capacity) (hinitial:Ai u.initial) (d:Ai u.final) (hcharge:Ai u.charge) (hdischarge:Ai u.discharge) (n:I5 u.eff) (h:At s.nw s.cw s.nx (u.name::Bc B u.bus::Qg::tx u.capacity::iI::tx u.initial::tx u.final::sG::tx u.charge::tx u.discharge::Vf::Lj u.eff::r)) (A:s.er=0) {K:Int→Int→Nat→Nat→LA→LA→O R} {Y:O R} (k:∀ x,At s.nw s.cw x r→K x 0 (s.nS+1) (ns++[u.name]).length (s.cS.take (s.nS*9)++u.av) (A8 (ns++[u.name]))=Y):Tt N s K=Y:=by
 rw[DC];unfold Yp
 refine Ap8 hN q t v y z h A fun x h=>?_
 refine OK hN hB (f:_∧_).1 f.2 hBl (by exact hzB) (by exact hyB) h rfl fun x h=>?_
 refine Cg (w:=Qg) h rfl fun x h=>?_
 refine mW hcapacity l h rfl fun x h=>?_
 refine Cg (w:=iI) h rfl fun x h=>?_
 refine mW hinitial l h rfl fun x h=>?_
 refine mW d l h rfl fun x h=>?_
 refine Cg (w:=sG) h rfl fun x h=>?_
 refine Hx hcharge l h rfl fun x h=>?_
 refine Hx hdischarge l h rfl fun x h=>?_
 refine Cg (w:=Vf) h rfl fun x h=>?_
 refine qh n l h rfl fun x h=>?_
 show cond (_&&_) (K x 0 (s.nS+1) _ (s.cS.take (s.nS*9)++u.av) _) none=_
 rw[eV (by omega) (by omega),ct]
 exact k x h
theorem Au4 {s:RB} {t:TieD} {ns B r:List Aq} (u:fit 2000 N) (hN:1000000000<N) (v:Ba t.name=true) (y:t.name ∉ ns) (z:ns.length<8) (A:s.zF=ns.length) (C:s.yF=A8 ns) (hn:s.nT≤1000000) (hB:B.Nodup) (hBl:B.length≤1000000) (hzB:s.zB=B.length) (hyB:s.yB=A8 B) (q:0≤t.bus∧t.bus<(B.length:Int)) (f:Ax4 s t.imp) (n:Ax4 s t.exp) (d:Ax4 s t.price) (h:At s.nw s.cw s.nx (t.name::Bc B t.bus::AC::(t.imp.l.map tx++(WB::(t.exp.l.map tx++(iJ::(t.price.l.map tx++r))))))) (D:s.er=0) {K:Int→Int→Nat→Nat→LA→LA→O R} {Y:O R} (k:∀ x,At s.nw s.cw x r→K x 0 (s.nT+1) (ns++[t.name]).length (s.cT.take (s.nT*5)++(uY t).av) (A8 (ns++[t.name]))=Y):Zx N s K=Y:=by
 rw[KK];unfold HL
 refine Ap9 hN v y z A C h D fun x h=>?_
 refine OK hN hB (q:_∧_).1 q.2 hBl (by exact hzB) (by exact hyB) h rfl fun x h=>?_
 refine Cg (w:=AC) h rfl fun x h=>?_
 refine aV u hN f.2.2 f.2.1 (by exact f.1) h rfl fun x h=>?_
 refine Cg (w:=WB) h rfl fun x h=>?_
 refine aV u hN n.2.2 n.2.1 (by exact n.1) h rfl fun x h=>?_
 refine Cg (w:=iJ) h rfl fun x h=>?_
 refine Aao u hN d.2.2 d.2.1 (by exact d.1) h rfl fun x h=>?_
 rw[eV (by omega) (by omega),ct,BJ,BJ,BJ]
 exact k x h
theorem Asb {s:RB} {l:LineD} {ns B r:List Aq} (u:fit 2000 N) (hN:1000000000<N) (C:Ba l.name=true) (D:l.name ∉ ns) (F:ns.length<64) (G:s.zC=ns.length) (I:s.yC=A8 ns) (hn:s.nL≤1000000) (hB:B.Nodup) (hBl:B.length≤1000000) (hzB:s.zB=B.length) (hyB:s.yB=A8 B) (v:0≤l.fr∧l.fr<(B.length:Int)) (y:0≤l.tl∧l.tl<(B.length:Int)) (A:I5 l.re) (f:I5 l.smin) (n:I5 l.smax) (d:Ai l.limit) (q:Ai l.emer) (t:∀ z ∈ l.away.l,Ai z) (hr:∀ w ∈ r.head?,w=([]:Aq)) (h:At s.nw s.cw s.nx (l.name::Bc B l.fr::Bc B l.tl::As4::Lj l.re::iF::Lj l.smin::Lj l.smax::iG::tx l.limit::tx l.emer::FO::(l.away.l.map tx++r))) (M:s.er=0) {K:Int→Int→Nat→Nat→LA→LA→O R} {Y:O R} (k:∀ x,At s.nw s.cw x r→K x 0 (s.nL+1) (ns++[l.name]).length (s.cL.take (s.nL*12)++(Wq l).av) (A8 (ns++[l.name]))=Y):Wa N s K=Y:=by
 rw[HG];unfold BZ
 refine Ap6 hN C D F G I h M fun x h=>?_
 refine OK hN hB (v:_∧_).1 v.2 hBl (by exact hzB) (by exact hyB) h rfl fun x h=>?_
 refine OK hN hB (y:_∧_).1 y.2 hBl (by exact hzB) (by exact hyB) h rfl fun x h=>?_
 refine Cg (w:=As4) h rfl fun x h=>?_
 refine qh A u h rfl fun x h=>?_
 refine Cg (w:=iF) h rfl fun x h=>?_
 refine qh f u h rfl fun x h=>?_
 refine qh n u h rfl fun x h=>?_
 refine Cg (w:=iG) h rfl fun x h=>?_
 refine Hx d u h rfl fun x h=>?_
 refine Hx q u h rfl fun x h=>?_
 refine Cg (w:=FO) h rfl fun x h=>?_
 refine Aju u hN Au2 hr t h rfl fun x h=>?_
 rw[BJ]
 show cond (_&&_) (K x 0 (s.nL+1) _ (s.cL.take (s.nL*12)++(Wq l).av) _) none=_
 rw[eV (by omega) (by omega),ct]
 exact k x h
def OQ (u:UnitD):UnitD:={ u with segs:=eX u.segs,away:=eX u.away }
def YW (u:UnitD):List Int:=[u.min,u.max,u.noLoad,u.rampUp,u.rampDown,u.startRamp,u.stopRamp,u.upTime,u.downTime,u.startTime,u.hotCost,u.coldCost,u.hotHours,u.reserve,u.reservePrice,u.hours,u.output]
def Aez (u:UnitD) (r:List Aq):List Aq:=Ve::tx u.noLoad::ku::tx u.rampUp::tx u.rampDown::ZS::tx u.startRamp::kv::tx u.stopRamp::ZT::tx u.upTime::tx u.downTime::tx u.startTime::kw::tx u.hotCost::tx u.coldCost::tx u.hotHours::D6::tx u.reserve::tx u.reservePrice::FO::(u.away.l.map tx++(Y8::(Xw u.state++(tx u.hours::tx u.output::r))))
theorem Amq (z:Int):tx z≠Ve:=fun e=>by
 have:=Au1 z;rw[e] at this;revert this;decide
theorem Aqd (z:Int):tx z≠Y8:=fun e=>by
 have:=Au1 z;rw[e] at this;revert this;decide
theorem Aqe (l:List SegD):(AV.imm (take (l.length*2) (l.flatMap SegD.av)) l.length 2 false false)=Sl.av 2 SegD.av (.of l false false):=by
 rw[A1c (by rw[BE (e:=SegD.av) (sz:=2) (fun _=>rfl)];exact A1h _)];rfl
theorem Amr {s:RB} {u:UnitD} {a:Nat} {b:LA} {fuel:Nat} {x:Int} {r:List Aq} (d:fit 2000 N) (hN:1000000000<N) (hn:s.nU≤1000000) (t:∀ z ∈ YW u,Ai z) (f:∀ z ∈ u.away.l,Ai z) (n:u.state=0∨u.state=1∨u.state=2) (h:At s.nw s.cw x (Aez u r)) {K:Int→Int→Nat→Nat→LA→LA→O R} {Y:O R} (k:∀ x,At s.nw s.cw x r→K x 0 (s.nU+1) a (s.cU.take (s.nU*22)++(OQ u).av) b=Y):D0 N K s (fuel+1) x 0 a u.name u.bus u.min u.max u.segs.l.length b (u.segs.l.flatMap SegD.av)=Y:=by
 unfold Aez at h
 have q:∀ z:Int,z ∈ YW u→Ai z:=t
 unfold YW at q
 rw[D0];unfold Nu
 refine Yr (w:=Ve) h rfl ?_
 rw[show(Ve==([110,111,108,111,97,100]:Lu))=true from rfl,A3d,cf]
 refine Cg (w:=Ve) h rfl fun x h=>?_
 refine Asa (q u.noLoad (by simp)) d h rfl fun x h=>?_
 refine Cg (w:=ku) h rfl fun x h=>?_
 refine Hx (q u.rampUp (by simp)) d h rfl fun x h=>?_
 refine Hx (q u.rampDown (by simp)) d h rfl fun x h=>?_
 refine Cg (w:=ZS) h rfl fun x h=>?_
 refine Hx (q u.startRamp (by simp)) d h rfl fun x h=>?_
 refine Cg (w:=kv) h rfl fun x h=>?_
 refine Hx (q u.stopRamp (by simp)) d h rfl fun x h=>?_
 refine Cg (w:=ZT) h rfl fun x h=>?_
 refine ju (q u.upTime (by simp)) d h rfl fun x h=>?_
 refine ju (q u.downTime (by simp)) d h rfl fun x h=>?_
 refine ju (q u.startTime (by simp)) d h rfl fun x h=>?_
 refine Cg (w:=kw) h rfl fun x h=>?_
 refine Aex (q u.hotCost (by simp)) d h rfl fun x h=>?_
 refine Aex (q u.coldCost (by simp)) d h rfl fun x h=>?_
 refine ju (q u.hotHours (by simp)) d h rfl fun x h=>?_
 refine Cg (w:=D6) h rfl fun x h=>?_
 refine Hx (q u.reserve (by simp)) d h rfl fun x h=>?_
 refine jt (q u.reservePrice (by simp)) d h rfl fun x h=>?_
 refine Cg (w:=FO) h rfl fun x h=>?_
 refine Aju (a:=Y8) d hN Aqd (by intro w v;cases v;rfl) f h rfl fun x h=>?_
 refine Cg (w:=Y8) h rfl fun x h=>?_
 refine Aqb n h rfl fun x h=>?_
 refine ju (q u.hours (by simp)) d h rfl fun x h=>?_
 refine Hx (q u.output (by simp)) d h rfl fun x h=>?_
 rw[eV (by omega) (by omega),ct,BJ,Aqe]
 exact k x h
theorem Ae0 {s:RB} {u:UnitD} {a:Nat} {b:LA} {r:List Aq} (n:fit 2000 N) (hN:1000000000<N) (hn:s.nU≤1000000) (t:∀ z ∈ YW u,Ai z) (d:∀ z ∈ u.away.l,Ai z) (f:u.state=0∨u.state=1∨u.state=2) {K:Int→Int→Nat→Nat→LA→LA→O R} {Y:O R} (k:∀ x,At s.nw s.cw x r→K x 0 (s.nU+1) a (s.cU.take (s.nU*22)++(OQ u).av) b=Y):∀ (l pre:List SegD) (fuel:Nat) (x:Int),pre++l=u.segs.l→(∀ g ∈ l,Ai g.width∧Ai g.price)→l.length<fuel→u.segs.l.length≤1000000→At s.nw s.cw x (l.flatMap fN++Aez u r)→D0 N K s fuel x 0 a u.name u.bus u.min u.max pre.length b (pre.flatMap SegD.av)=Y
 | [],pre,fuel+1,x,e,q,v,y,h=>by
  rw[A1p] at e
  rw[e]
  exact Amr n hN hn t d f h k
 | g::l,pre,fuel+1,x,e,q,v,y,h=>by
  have A:=q g (A21 ..)
  rw[A1a] at v
  have D:(pre++g::l).length=u.segs.l.length:=by rw[e]
  rw[A09,A1a] at D
  have e3:(pre++[g])++l=u.segs.l:=by rw[←e,A1l];rfl
  rw[D0];unfold Nu
  have C:At s.nw s.cw x (tx g.width::tx g.price::(l.flatMap fN++Aez u r)):=h
  refine Yr C rfl ?_
  rw[show(tx g.width==([110,111,108,111,97,100]:Lu))=false from beq_false_of_ne (Amq g.width),A3c,ct]
  refine Hx A.1 n C rfl fun x h=>?_
  refine jt A.2 n h rfl fun x h=>?_
  rw[eV (by omega) (by omega),ct,Kq pre g]
  rw[A1c (by rw[BE (e:=SegD.av) (sz:=2) (fun _=>rfl)];exact A1h _)]
  rw[show List.flatMap SegD.av pre++[.int .i64 g.width,.int .i64 g.price]=List.flatMap SegD.av (pre++[g]) by rw[A2n];rfl]
  exact Ae0 n hN hn t d f k l (pre++[g]) fuel x e3 (fun w F=>q w (A15 _ F)) (by omega) y h
theorem Asc {s:RB} {u:UnitD} {ns B r:List Aq} (n:fit 2000 N) (hN:1000000000<N) (C:Ba u.name=true) (D:u.name ∉ ns) (F:ns.length<16) (G:s.zD=ns.length) (I:s.yD=A8 ns) (hn:s.nU≤1000000) (hB:B.Nodup) (hBl:B.length≤1000000) (hzB:s.zB=B.length) (hyB:s.yB=A8 B) (d:0≤u.bus∧u.bus<(B.length:Int)) (A:∀ z ∈ YW u,Ai z) (f:∀ z ∈ u.away.l,Ai z) (t:u.state=0∨u.state=1∨u.state=2) (v:∀ g ∈ u.segs.l,Ai g.width∧Ai g.price) (y:u.segs.l.length≤1000000) (h:At s.nw s.cw s.nx (u.name::Bc B u.bus::iH::tx u.min::wi::tx u.max::Xv::(u.segs.l.flatMap fN++Aez u r))) (M:s.er=0) {K:Int→Int→Nat→Nat→LA→LA→O R} {Y:O R} (k:∀ x,At s.nw s.cw x r→K x 0 (s.nU+1) (ns++[u.name]).length (s.cU.take (s.nU*22)++(OQ u).av) (A8 (ns++[u.name]))=Y):Qt N s K=Y:=by
 have q:∀ z:Int,z ∈ YW u→Ai z:=A
 unfold YW at q
 rw[HK];unfold Ts
 refine Ap7 hN C D F G I h M fun x h=>?_
 refine OK hN hB d.1 d.2 hBl (by exact hzB) (by exact hyB) h rfl fun x h=>?_
 refine Cg (w:=iH) h rfl fun x h=>?_
 refine Hx (q u.min (by simp)) n h rfl fun x h=>?_
 refine Cg (w:=wi) h rfl fun x h=>?_
 refine Hx (q u.max (by simp)) n h rfl fun x h=>?_
 refine Cg (w:=Xv) h rfl fun x h=>?_
 exact Ae0 n hN hn A f t k u.segs.l [] N x rfl v (by omega) y h
def aW (o:OutD):OutD:={ o with lines:=eX o.lines,moves:=eX o.moves }
theorem Ams (l:List MoveD):(AV.imm (take (l.length*3) (l.flatMap MoveD.av)) l.length 3 false false)=Sl.av 3 MoveD.av (.of l false false):=by
 rw[A1c (by rw[BE (e:=MoveD.av) (sz:=3) (fun _=>rfl)];exact A1h _)];rfl
theorem xb {s:RB} {o:OutD} {U:List Aq} {a:Nat} {b:LA} (f:fit 2000 N) (hN:1000000000<N) (hn:s.nO≤1000000) (hU:U.Nodup) (hUl:U.length≤1000000) (hzD:s.zD=U.length) (hyD:s.yD=A8 U) {K:Int→Int→Nat→Nat→LA→LA→O R} {Y:O R} (k:∀ x,At s.nw s.cw x []→K x 0 (s.nO+1) a (s.cO.take (s.nO*4)++(aW o).av) b=Y):∀ (l pre:List MoveD) (fuel:Nat) (x:Int),pre++l=o.moves.l→(∀ m ∈ l,(0≤m.unit∧m.unit<(U.length:Int))∧Ai m.up∧Ai m.down)→l.length<fuel→o.moves.l.length≤1000000→At s.nw s.cw x (l.flatMap (AD U))→Fr N K s a o.name o.lines.l.length o.corr b (Ax o.lines.l) fuel x 0 pre.length (pre.flatMap MoveD.av)=Y
 | [],pre,fuel+1,x,e,n,q,t,h=>by
  rw[A1p] at e
  rw[e]
  rw[Fr];unfold Kk
  refine YH h rfl ?_
  rw[cf,eV (by omega) (by omega),ct,BJ,Ams]
  exact k x h
 | g::l,pre,fuel+1,x,e,n,q,t,h=>by
  have d:=n g (A21 ..)
  rw[A1a] at q
  have v:(pre++g::l).length=o.moves.l.length:=by rw[e]
  rw[A09,A1a] at v
  have e3:(pre++[g])++l=o.moves.l:=by rw[←e,A1l];rfl
  rw[Fr];unfold Kk
  have u:At s.nw s.cw x (Bc U g.unit::tx g.up::tx g.down::l.flatMap (AD U)):=h
  refine aK u rfl ?_
  rw[ct]
  refine Amp hN hU d.1.1 d.1.2 hUl (by exact hzD) (by exact hyD) u rfl fun x h=>?_
  refine Hx d.2.1 f h rfl fun x h=>?_
  refine Hx d.2.2 f h rfl fun x h=>?_
  rw[eV (by omega) (by omega),ct,Kq pre g]
  rw[A1c (by rw[BE (e:=MoveD.av) (sz:=3) (fun _=>rfl)];exact A1h _)]
  rw[show List.flatMap MoveD.av pre++[.int .i64 g.unit,.int .i64 g.up,.int .i64 g.down]=List.flatMap MoveD.av (pre++[g]) by rw[A2n];rfl]
  exact xb f hN hn hU hUl hzD hyD k l (pre++[g]) fuel x e3 (fun w y=>n w (A15 _ y)) (by omega) t h
def Ae1 (U:List Aq) (o:OutD):List Aq:=cond o.corr [B5] []++o.moves.l.flatMap (AD U)
theorem Asd {U:List Aq} {o:OutD} (f:o.corr=false) (d:(o.corr||o.moves.l.isEmpty)=true):Ae1 U o=[]:=by
 unfold Ae1
 rw[f] at d ⊢
 have:o.moves.l=[]:=by simpa using d
 rw[this];rfl
theorem Ajv {s:RB} {o:OutD} {L U:List Aq} {a:Nat} {b:LA} (z:fit 2000 N) (hN:1000000000<N) (hn:s.nO≤1000000) (hU:U.Nodup) (hUl:U.length≤1000000) (hzD:s.zD=U.length) (hyD:s.yD=A8 U) (hL:L.Nodup) (hLl:L.length≤1000000) (hzC:s.zC=L.length) (hyC:s.yC=A8 L) (hLk:B5 ∉ L) (f:(o.corr||o.moves.l.isEmpty)=true) (n:∀ m ∈ o.moves.l,(0≤m.unit∧m.unit<(U.length:Int))∧Ai m.up∧Ai m.down) (t:o.moves.l.length≤1000000) {K:Int→Int→Nat→Nat→LA→LA→O R} {Y:O R} (k:∀ x,At s.nw s.cw x []→K x 0 (s.nO+1) a (s.cO.take (s.nO*4)++(aW o).av) b=Y):∀ (l pre:List Int) (fuel:Nat) (x:Int),pre++l=o.lines.l→(∀ i ∈ l,0≤i∧i<(L.length:Int))→l.length<fuel→o.lines.l.length≤1000000→At s.nw s.cw x (l.map (Bc L)++Ae1 U o)→Dy N K s a o.name b fuel x 0 pre.length (Ax pre)=Y
 | [],pre,fuel+1,x,e,y,A,C,h=>by
  rw[A1p] at e
  rw[e]
  rw[Dy];unfold Kl
  have fin:=xb (R:=R) (N:=N) (o:=o) (a:=a) (b:=b) z hN hn hU hUl hzD hyD k o.moves.l [] N
  cases v:o.corr with
  | true =>
   have d:At s.nw s.cw x (B5::o.moves.l.flatMap (AD U)):=by
    have u:At s.nw s.cw x (Ae1 U o):=h
    unfold Ae1 at u;rw[v] at u;exact u
   refine Yr d rfl ?_
   rw[show(B5==([99,111,114,114,101,99,116,105,118,101]:Lu))=true from rfl,A3d,cf]
   refine aK d rfl ?_
   rw[ct]
   refine Cg (w:=B5) d rfl fun x h=>?_
   have:=fin x rfl n (by omega) t h
   rw[v] at this
   exact this
  | false =>
   have d:At s.nw s.cw x []:=by
    have u:At s.nw s.cw x (Ae1 U o):=h
    rw[Asd v f] at u;exact u
   refine oS d rfl ?_
   rw[cf]
   refine YH d rfl ?_
   rw[cf]
   have D:o.moves.l=[]:=by rw[v] at f;simpa using f
   have:=fin x rfl n (by omega) t (by rw[D];exact d)
   rw[v] at this
   exact this
 | i::l,pre,fuel+1,x,e,y,A,C,h=>by
  have hi:=y i (A21 ..)
  rw[A1a] at A
  have F:(pre++i::l).length=o.lines.l.length:=by rw[e]
  rw[A09,A1a] at F
  have e3:(pre++[i])++l=o.lines.l:=by rw[←e,A1l];rfl
  have d:At s.nw s.cw x (Bc L i::(l.map (Bc L)++Ae1 U o)):=h
  have ne:Bc L i≠B5:=fun q=>hLk (by
   rw[←q];unfold Bc
   have:i.toNat<L.length:=by omega
   rw[A1m,A1g this];exact A1q _)
  rw[Dy];unfold Kl
  refine Yr d rfl ?_
  rw[show(Bc L i==([99,111,114,114,101,99,116,105,118,101]:Lu))=false from beq_false_of_ne ne,A3c,ct]
  refine Amo hN hL hi.1 hi.2 hLl (by exact hzC) (by exact hyC) d rfl fun x h=>?_
  rw[Ajt (by omega),ct,OL,aU,Kq pre i]
  exact Ajv z hN hn hU hUl hzD hyD hL hLl hzC hyC hLk f n t k l (pre++[i]) fuel x e3 (fun w G=>y w (A15 _ G)) (by omega) C h
theorem Amt {s:RB} {o:OutD} {ns L U:List Aq} (u:fit 2000 N) (hN:1000000000<N) (v:Ba o.name=true) (y:o.name ∉ ns) (z:ns.length<64) (A:s.zG=ns.length) (C:s.yG=A8 ns) (hn:s.nO≤1000000) (hU:U.Nodup) (hUl:U.length≤1000000) (hzD:s.zD=U.length) (hyD:s.yD=A8 U) (hL:L.Nodup) (hLl:L.length≤1000000) (hzC:s.zC=L.length) (hyC:s.yC=A8 L) (hLk:B5 ∉ L) (d:(o.corr||o.moves.l.isEmpty)=true) (f:∀ m ∈ o.moves.l,(0≤m.unit∧m.unit<(U.length:Int))∧Ai m.up∧Ai m.down) (n:o.moves.l.length≤1000000) (q:∀ i ∈ o.lines.l,0≤i∧i<(L.length:Int)) (t:o.lines.l.length≤1000000) (h:At s.nw s.cw s.nx (o.name::IP::(o.lines.l.map (Bc L)++Ae1 U o))) (D:s.er=0) {K:Int→Int→Nat→Nat→LA→LA→O R} {Y:O R} (k:∀ x,At s.nw s.cw x []→K x 0 (s.nO+1) (ns++[o.name]).length (s.cO.take (s.nO*4)++(aW o).av) (A8 (ns++[o.name]))=Y):Mj N s K=Y:=by
 rw[BA];unfold Pv
 refine Aqa hN v y z A C h D fun x h=>?_
 refine Cg (w:=IP) h rfl fun x h=>?_
 exact Ajv u hN hn hU hUl hzD hyD hL hLl hzC hyC hLk d f n k o.lines.l [] N x rfl q (by omega) t h
end
end Gx.Ct
namespace Gx.Ct
open Go Go.Proofs Gx.Cf
structure Rd where
 bg:Bool
 th:Int
 rs:List Int
 bs:List BusD
 ls:List LineD
 us:List UnitD
 ss:List StoreD
 ts:List TieD
 os:List OutD
def Rd.rb (d:Rd) (nw:Nat) (cw:LA) (nx:Int):RB:=RB.mk nw nx 0 d.th d.rs.length d.bs.length d.ls.length d.us.length d.ss.length d.ts.length d.os.length d.bg 0 d.bs.length d.ls.length d.us.length d.ss.length d.ts.length d.os.length cw (Ax d.rs) (d.bs.flatMap BusD.av) (d.ls.flatMap LineD.av) (d.us.flatMap UnitD.av) (d.ss.flatMap StoreD.av) (d.ts.flatMap TieD.av) (d.os.flatMap OutD.av) [] (A8 (d.bs.map BusD.name)) (A8 (d.ls.map LineD.name)) (A8 (d.us.map UnitD.name)) (A8 (d.ss.map StoreD.name)) (A8 (d.ts.map TieD.name)) (A8 (d.os.map OutD.name))
section
variable {R:Type} {N:Nat}
def Aap (r0:Int→Int→Nat→Nat→Nat→Nat→Nat→Nat→Nat→Nat→Nat→Nat→Nat→Nat→LA→LA→LA→LA→LA→LA→LA→LA→LA→LA→LA→LA→O R) (d:Rd) (x:Int):O R:=r0 x 0 d.bs.length d.ls.length d.us.length d.ss.length d.ts.length d.os.length d.bs.length d.ls.length d.us.length d.ss.length d.ts.length d.os.length (d.bs.flatMap BusD.av) (d.ls.flatMap LineD.av) (d.us.flatMap UnitD.av) (d.ss.flatMap StoreD.av) (d.ts.flatMap TieD.av) (d.os.flatMap OutD.av) (A8 (d.bs.map BusD.name)) (A8 (d.ls.map LineD.name)) (A8 (d.us.map UnitD.name)) (A8 (d.ss.map StoreD.name)) (A8 (d.ts.map TieD.name)) (A8 (d.os.map OutD.name))
theorem EP {α:Type} {e:α→LA} {sz:Nat} (d:∀ a,(e a).length=sz) (l:List α) (a b:α) (f:e b=e a):take (l.length*sz) (l.flatMap e)++e b=(l++[a]).flatMap e:=by
 rw[A1c (by rw[BE d];exact A1h _),A2n,f];simp
theorem OM {α:Type} (f:α→Aq) (l:List α) (a:α):(l.map f++[f a])=(l++[a]).map f:=by simp
theorem gK {s:RB} (h:At s.nw s.cw s.nx []) (d:s.er=0) {K:Int→O R} {Y:O R} (k:K 0=Y):Fi N s K=Y:=by
 rw[NP];unfold LV
 refine YH h d ?_
 rw[cf,d];exact k
theorem Au5 {d:Rd} {b:BusD} {nw:Nat} {cw:LA} {nx:Int} (q:fit 2000 N) (hN:1000000000<N) (n:d.bg=true) (s:Ba b.name=true) (t:b.name ∉ d.bs.map BusD.name) (u:d.bs.length<32) (hdemand:(b.demand.l.length:Int)=d.th∧b.demand.l.length≤1000∧∀ z ∈ b.demand.l,Ai z) (f:Ai b.shed) (h:At nw cw nx (bR b)) {r0:Int→Int→Nat→Nat→Nat→Nat→Nat→Nat→Nat→Nat→Nat→Nat→Nat→Nat→LA→LA→LA→LA→LA→LA→LA→LA→LA→LA→LA→LA→O R} {v:Int→Int→Int→Nat→LA→O R} {Y:O R} (k:∀ x,Aap r0 { d with bs:=d.bs++[jy b] } x=Y):Bo N (d.rb nw cw nx) r0 v=Y:=by
 rw[B6];unfold B9
 refine Fk (w:=R6) h rfl fun x h=>?_
 rw[show((R6==([99,97,115,101]:Lu))==(d.rb nw cw nx).bg)=false from by show((R6==Df)==d.bg)=false;rw[n];rfl,cf]
 show cond (R6==Df) _ _=_
 rw[show(R6==Df)=false from rfl,cf]
 show cond (R6==R6) _ _=_
 rw[show(R6==R6)=true from rfl,ct]
 refine Au3 (B:=[]) (ns:=d.bs.map BusD.name) (r:=[]) q hN s t (by rw[A1i];exact u) (A1i _).symm rfl (by show d.bs.length≤1000000;omega) (by exact hdemand) f (by exact h) rfl fun x h=>?_
 refine gK h rfl ?_
 simp only[Rd.rb]
 rw[EP Md d.bs (jy b) (jy b) rfl,show d.bs.map BusD.name++[b.name]=(d.bs++[jy b]).map BusD.name from OM BusD.name d.bs (jy b),A1i,Kq d.bs (jy b)]
 exact k x
theorem Ase {d:Rd} {l:LineD} {nw:Nat} {cw:LA} {nx:Int} (D:fit 2000 N) (hN:1000000000<N) (u:d.bg=true) (v:Ba l.name=true) (F:l.name ∉ d.ls.map LineD.name) (G:d.ls.length<64) (hBn:(d.bs.map BusD.name).Nodup) (hBl:d.bs.length≤1000000) (y:0≤l.fr∧l.fr<(d.bs.length:Int))(A:0≤l.tl∧l.tl<(d.bs.length:Int))(C:I5 l.re) (n:I5 l.smin) (q:I5 l.smax) (f:Ai l.limit) (s:Ai l.emer) (t:∀ z ∈ l.away.l,Ai z) (h:At nw cw nx (Uk (d.bs.map BusD.name) l)) {r0:Int→Int→Nat→Nat→Nat→Nat→Nat→Nat→Nat→Nat→Nat→Nat→Nat→Nat→LA→LA→LA→LA→LA→LA→LA→LA→LA→LA→LA→LA→O R} {I:Int→Int→Int→Nat→LA→O R} {Y:O R} (k:∀ x,Aap r0 { d with ls:=d.ls++[Wq l] } x=Y):Bo N (d.rb nw cw nx) r0 I=Y:=by
 rw[B6];unfold B9
 refine Fk (w:=Ji) h rfl fun x h=>?_
 rw[show((Ji==([99,97,115,101]:Lu))==(d.rb nw cw nx).bg)=false from by show((Ji==Df)==d.bg)=false;rw[u];rfl,cf]
 show cond (Ji==Df) _ _=_
 rw[show(Ji==Df)=false from rfl,cf]
 show cond (Ji==R6) _ _=_
 rw[show(Ji==R6)=false from rfl,cf]
 show cond (Ji==Ji) _ _=_
 rw[show(Ji==Ji)=true from rfl,ct]
 refine Asb (ns:=d.ls.map LineD.name) (B:=d.bs.map BusD.name) (r:=[]) D hN v F (by rw[A1i];exact G) (A1i _).symm rfl (by show d.ls.length≤1000000;omega) hBn (by rw[A1i];exact hBl) (A1i _).symm rfl (by rw[A1i];exact y) (by rw[A1i];exact A) C n q f s t (by intro w v;cases v) (by rw[A1p];exact h) rfl fun x h=>?_
 refine gK h rfl ?_
 simp only[Rd.rb]
 rw[EP Dh d.ls (Wq l) (Wq l) rfl,show d.ls.map LineD.name++[l.name]=(d.ls++[Wq l]).map LineD.name from OM LineD.name d.ls (Wq l),A1i,Kq d.ls (Wq l)]
 exact k x
theorem Asf {d:Rd} {u:UnitD} {nw:Nat} {cw:LA} {nx:Int} (y:fit 2000 N) (hN:1000000000<N) (q:d.bg=true) (A:Ba u.name=true) (C:u.name ∉ d.us.map UnitD.name) (D:d.us.length<16) (hBn:(d.bs.map BusD.name).Nodup) (hBl:d.bs.length≤1000000) (n:0≤u.bus∧u.bus<(d.bs.length:Int))(F:∀ z ∈ YW u,Ai z) (f:∀ z ∈ u.away.l,Ai z) (s:u.state=0∨u.state=1∨u.state=2) (t:∀ g ∈ u.segs.l,Ai g.width∧Ai g.price) (v:u.segs.l.length≤1000000) (h:At nw cw nx (Qh (d.bs.map BusD.name) u)) {r0:Int→Int→Nat→Nat→Nat→Nat→Nat→Nat→Nat→Nat→Nat→Nat→Nat→Nat→LA→LA→LA→LA→LA→LA→LA→LA→LA→LA→LA→LA→O R} {G:Int→Int→Int→Nat→LA→O R} {Y:O R} (k:∀ x,Aap r0 { d with us:=d.us++[OQ u] } x=Y):Bo N (d.rb nw cw nx) r0 G=Y:=by
 rw[B6];unfold B9
 refine Fk (w:=Jj) h rfl fun x h=>?_
 rw[show((Jj==([99,97,115,101]:Lu))==(d.rb nw cw nx).bg)=false from by show((Jj==Df)==d.bg)=false;rw[q];rfl,cf]
 show cond (Jj==Df) _ _=_
 rw[show(Jj==Df)=false from rfl,cf]
 show cond (Jj==R6) _ _=_
 rw[show(Jj==R6)=false from rfl,cf]
 show cond (Jj==Ji) _ _=_
 rw[show(Jj==Ji)=false from rfl,cf]
 show cond (Jj==Jj) _ _=_
 rw[show(Jj==Jj)=true from rfl,ct]
 refine Asc (ns:=d.us.map UnitD.name) (B:=d.bs.map BusD.name) (r:=[]) y hN A C (by rw[A1i];exact D) (A1i _).symm rfl (by show d.us.length≤1000000;omega) hBn (by rw[A1i];exact hBl) (A1i _).symm rfl (by rw[A1i];exact n) F f s t v (by exact h) rfl fun x h=>?_
 refine gK h rfl ?_
 simp only[Rd.rb]
 rw[EP Fl d.us (OQ u) (OQ u) rfl,show d.us.map UnitD.name++[u.name]=(d.us++[OQ u]).map UnitD.name from OM UnitD.name d.us (OQ u),A1i,Kq d.us (OQ u)]
 exact k x
theorem Aqf {d:Rd} {u:StoreD} {nw:Nat} {cw:LA} {nx:Int} (s:fit 2000 N) (hN:1000000000<N) (q:d.bg=true) (t:Ba u.name=true) (v:u.name ∉ d.ss.map StoreD.name) (y:d.ss.length<8) (hBn:(d.bs.map BusD.name).Nodup) (hBl:d.bs.length≤1000000) (l:0≤u.bus∧u.bus<(d.bs.length:Int))(hcapacity:Ai u.capacity) (hinitial:Ai u.initial) (f:Ai u.final) (hcharge:Ai u.charge) (hdischarge:Ai u.discharge) (n:I5 u.eff) (h:At nw cw nx (Ku (d.bs.map BusD.name) u)) {r0:Int→Int→Nat→Nat→Nat→Nat→Nat→Nat→Nat→Nat→Nat→Nat→Nat→Nat→LA→LA→LA→LA→LA→LA→LA→LA→LA→LA→LA→LA→O R} {z:Int→Int→Int→Nat→LA→O R} {Y:O R} (k:∀ x,Aap r0 { d with ss:=d.ss++[u] } x=Y):Bo N (d.rb nw cw nx) r0 z=Y:=by
 rw[B6];unfold B9
 refine Fk (w:=F1) h rfl fun x h=>?_
 rw[show((F1==([99,97,115,101]:Lu))==(d.rb nw cw nx).bg)=false from by show((F1==Df)==d.bg)=false;rw[q];rfl,cf]
 show cond (F1==Df) _ _=_
 rw[show(F1==Df)=false from rfl,cf]
 show cond (F1==R6) _ _=_
 rw[show(F1==R6)=false from rfl,cf]
 show cond (F1==Ji) _ _=_
 rw[show(F1==Ji)=false from rfl,cf]
 show cond (F1==Jj) _ _=_
 rw[show(F1==Jj)=false from rfl,cf]
 show cond (F1==F1) _ _=_
 rw[show(F1==F1)=true from rfl,ct]
 refine Aqc (ns:=d.ss.map StoreD.name) (B:=d.bs.map BusD.name) (r:=[]) s hN t v (by rw[A1i];exact y) (A1i _).symm rfl (by show d.ss.length≤1000000;omega) hBn (by rw[A1i];exact hBl) (A1i _).symm rfl (by rw[A1i];exact l) hcapacity hinitial f hcharge hdischarge n (by exact h) rfl fun x h=>?_
 refine gK h rfl ?_
 simp only[Rd.rb]
 rw[EP Hp d.ss (u) (u) rfl,show d.ss.map StoreD.name++[u.name]=(d.ss++[u]).map StoreD.name from OM StoreD.name d.ss (u),A1i,Kq d.ss (u)]
 exact k x
theorem Au6 {d:Rd} {t:TieD} {nw:Nat} {cw:LA} {nx:Int} (v:fit 2000 N) (hN:1000000000<N) (u:d.bg=true) (y:Ba t.name=true) (A:t.name ∉ d.ts.map TieD.name) (C:d.ts.length<8) (hBn:(d.bs.map BusD.name).Nodup) (hBl:d.bs.length≤1000000) (n:0≤t.bus∧t.bus<(d.bs.length:Int))(q:(t.imp.l.length:Int)=d.th∧t.imp.l.length≤1000∧∀ z ∈ t.imp.l,Ai z)(s:(t.exp.l.length:Int)=d.th∧t.exp.l.length≤1000∧∀ z ∈ t.exp.l,Ai z)(f:(t.price.l.length:Int)=d.th∧t.price.l.length≤1000∧∀ z ∈ t.price.l,Ai z) (h:At nw cw nx (HY (d.bs.map BusD.name) t)) {r0:Int→Int→Nat→Nat→Nat→Nat→Nat→Nat→Nat→Nat→Nat→Nat→Nat→Nat→LA→LA→LA→LA→LA→LA→LA→LA→LA→LA→LA→LA→O R} {D:Int→Int→Int→Nat→LA→O R} {Y:O R} (k:∀ x,Aap r0 { d with ts:=d.ts++[uY t] } x=Y):Bo N (d.rb nw cw nx) r0 D=Y:=by
 rw[B6];unfold B9
 refine Fk (w:=R7) h rfl fun x h=>?_
 rw[show((R7==([99,97,115,101]:Lu))==(d.rb nw cw nx).bg)=false from by show((R7==Df)==d.bg)=false;rw[u];rfl,cf]
 show cond (R7==Df) _ _=_
 rw[show(R7==Df)=false from rfl,cf]
 show cond (R7==R6) _ _=_
 rw[show(R7==R6)=false from rfl,cf]
 show cond (R7==Ji) _ _=_
 rw[show(R7==Ji)=false from rfl,cf]
 show cond (R7==Jj) _ _=_
 rw[show(R7==Jj)=false from rfl,cf]
 show cond (R7==F1) _ _=_
 rw[show(R7==F1)=false from rfl,cf]
 show cond (R7==R7) _ _=_
 rw[show(R7==R7)=true from rfl,ct]
 refine Au4 (ns:=d.ts.map TieD.name) (B:=d.bs.map BusD.name) (r:=[]) v hN y A (by rw[A1i];exact C) (A1i _).symm rfl (by show d.ts.length≤1000000;omega) hBn (by rw[A1i];exact hBl) (A1i _).symm rfl (by rw[A1i];exact n) (by exact q) (by exact s) (by exact f) (by rw[A1p];exact h) rfl fun x h=>?_
 refine gK h rfl ?_
 simp only[Rd.rb]
 rw[EP Hu d.ts (uY t) (uY t) rfl,show d.ts.map TieD.name++[t.name]=(d.ts++[uY t]).map TieD.name from OM TieD.name d.ts (uY t),A1i,Kq d.ts (uY t)]
 exact k x
theorem Amu {d:Rd} {o:OutD} {nw:Nat} {cw:LA} {nx:Int} (v:fit 2000 N) (hN:1000000000<N) (f:d.bg=true) (y:Ba o.name=true) (z:o.name ∉ d.os.map OutD.name) (A:d.os.length<64) (hUn:(d.us.map UnitD.name).Nodup) (hUl:d.us.length≤1000000) (hLn:(d.ls.map LineD.name).Nodup) (hLl:d.ls.length≤1000000) (hLk:B5 ∉ d.ls.map LineD.name) (n:(o.corr||o.moves.l.isEmpty)=true) (q:∀ m ∈ o.moves.l,(0≤m.unit∧m.unit<(d.us.length:Int))∧Ai m.up∧Ai m.down) (s:o.moves.l.length≤1000000) (t:∀ i ∈ o.lines.l,0≤i∧i<(d.ls.length:Int)) (u:o.lines.l.length≤1000000) (h:At nw cw nx (Xx (d.ls.map LineD.name) (d.us.map UnitD.name) o)) {r0:Int→Int→Nat→Nat→Nat→Nat→Nat→Nat→Nat→Nat→Nat→Nat→Nat→Nat→LA→LA→LA→LA→LA→LA→LA→LA→LA→LA→LA→LA→O R} {C:Int→Int→Int→Nat→LA→O R} {Y:O R} (k:∀ x,Aap r0 { d with os:=d.os++[aW o] } x=Y):Bo N (d.rb nw cw nx) r0 C=Y:=by
 rw[B6];unfold B9
 refine Fk (w:=Dt) h rfl fun x h=>?_
 rw[show((Dt==([99,97,115,101]:Lu))==(d.rb nw cw nx).bg)=false from by show((Dt==Df)==d.bg)=false;rw[f];rfl,cf]
 show cond (Dt==Df) _ _=_
 rw[show(Dt==Df)=false from rfl,cf]
 show cond (Dt==R6) _ _=_
 rw[show(Dt==R6)=false from rfl,cf]
 show cond (Dt==Ji) _ _=_
 rw[show(Dt==Ji)=false from rfl,cf]
 show cond (Dt==Jj) _ _=_
 rw[show(Dt==Jj)=false from rfl,cf]
 show cond (Dt==F1) _ _=_
 rw[show(Dt==F1)=false from rfl,cf]
 show cond (Dt==R7) _ _=_
 rw[show(Dt==R7)=false from rfl,cf]
 show cond (Dt==Dt) _ _=_
 rw[show(Dt==Dt)=true from rfl,ct]
 refine Amt (ns:=d.os.map OutD.name) (L:=d.ls.map LineD.name) (U:=d.us.map UnitD.name) v hN y z (by rw[A1i];exact A) (A1i _).symm rfl (by show d.os.length≤1000000;omega) hUn (by rw[A1i];exact hUl) (A1i _).symm rfl hLn (by rw[A1i];exact hLl) (A1i _).symm rfl hLk n (by rw[A1i];exact q) s (by rw[A1i];exact t) u (by exact h) rfl fun x h=>?_
 refine gK h rfl ?_
 simp only[Rd.rb]
 rw[EP G9 d.os (aW o) (aW o) rfl,show d.os.map OutD.name++[o.name]=(d.os++[aW o]).map OutD.name from OM OutD.name d.os (aW o),A1i,Kq d.os (aW o)]
 exact k x
end
end Gx.Ct
namespace Gx.Ct
open Go Go.Proofs Gx.Cf
section
variable {R:Type} {N:Nat}
theorem Asg {d:Rd} {z:Int} {l:List Int} {nw:Nat} {cw:LA} {nx:Int} (n:fit 2000 N) (hN:1000000000<N) (f:d.bg=false) (s:1≤z) (t:z≤24) (u:(l.length:Int)=z) (v:∀ z ∈ l,Ai z) (h:At nw cw nx ([Df,tx z,D6]++l.map tx)) {r0:Int→Int→Nat→Nat→Nat→Nat→Nat→Nat→Nat→Nat→Nat→Nat→Nat→Nat→LA→LA→LA→LA→LA→LA→LA→LA→LA→LA→LA→LA→O R} {q:Int→Int→Int→Nat→LA→O R} {Y:O R} (k:∀ x,q x 0 z l.length (Ax l)=Y):Bo N (d.rb nw cw nx) r0 q=Y:=by
 rw[B6];unfold B9
 refine Fk (w:=Df) h rfl fun x h=>?_
 rw[show((Df==([99,97,115,101]:Lu))==(d.rb nw cw nx).bg)=false from by show((Df==Df)==d.bg)=false;rw[f];rfl,cf]
 show cond (Df==Df) _ _=_
 rw[show(Df==Df)=true from rfl,ct]
 refine Ajs (z:=z) (by unfold Ai;omega) s t (n.le (by omega)) h rfl fun x h=>?_
 refine Cg (w:=D6) h rfl fun x h=>?_
 refine aV (l:=l) (r:=[]) n hN v (by omega) (by exact u) (by rw[A1p];exact h) rfl fun x h=>?_
 refine gK h rfl ?_
 exact k x
noncomputable def pq (N:Nat) (K:LA→Int→Int→O R) (d:Rd) (fuel:Nat) (rem:Lu) (u:Int) (more:Bool) (nw:Nat) (nx:Int) (cw:LA):O R :=
 Km N K fuel rem u more nw nx 0 d.th d.rs.length d.bs.length d.ls.length d.us.length d.ss.length d.ts.length d.os.length d.bg d.bs.length d.ls.length d.us.length d.ss.length d.ts.length d.os.length cw (Ax d.rs) (d.bs.flatMap BusD.av) (d.ls.flatMap LineD.av) (d.us.flatMap UnitD.av) (d.ss.flatMap StoreD.av) (d.ts.flatMap TieD.av) (d.os.flatMap OutD.av) (A8 (d.bs.map BusD.name)) (A8 (d.ls.map LineD.name)) (A8 (d.us.map UnitD.name)) (A8 (d.ss.map StoreD.name)) (A8 (d.ts.map TieD.name)) (A8 (d.os.map OutD.name))
def Oj (N:Nat) (R:Type) (s:Lu) (ws:List Aq):Prop:=∀ K:Nat→LA→O R,jB N s K=K ws.length (ws.map AV.str)
theorem Ae2 {K:LA→Int→Int→O R} {d:Rd} {fuel:Nat} {rem s P1:Lu} {u:Int} {m:Bool} {nw:Nat} {nx:Int} {cw:LA} {Y:O R} (f:Lib.cut rem [10]=(s,P1,m)) (hr:rem.length≤4294967280) (hs:Oj N R s []) (k:pq N K d fuel P1 (wrap .i64 (u+1)) m 0 0 []=Y):pq N K d (fuel+1) rem u true nw nx cw=Y:=by
 unfold pq
 rw[Km];unfold Rr
 rw[ct,Ar7 hr,f]
 dsimp only
 rw[hs]
 exact YH (s:=d.rb 0 [] 0) (t_ (ws:=[]) (by decide)) rfl k
theorem Ash {K:LA→Int→Int→O R} {d d':Rd} {fuel:Nat} {rem s P1:Lu} {u:Int} {m:Bool} {nw:Nat} {nx:Int} {cw:LA} {w:Aq} {ws:List Aq} {Y:O R} (n:Lib.cut rem [10]=(s,P1,m)) (hr:rem.length≤4294967280) (hs:Oj N R s (w::ws)) (q:(w::ws).length≤2000000) (t:d'.th=d.th) (v:d'.bg=d.bg) (f:d'.rs=d.rs)
  (st:∀ (r0:Int→Int→Nat→Nat→Nat→Nat→Nat→Nat→Nat→Nat→Nat→Nat→Nat→Nat→LA→LA→LA→LA→LA→LA→LA→LA→LA→LA→LA→LA→O R) (y:Int→Int→Int→Nat→LA→O R),At (w::ws).length ((w::ws).map AV.str) 0 (w::ws)→(∀ x,Aap r0 d' x=Y)→Bo N (d.rb (w::ws).length ((w::ws).map AV.str) 0) r0 y=Y)
  (k:∀ x,pq N K d' fuel P1 (wrap .i64 (u+1)) m (w::ws).length x ((w::ws).map AV.str)=Y):pq N K d (fuel+1) rem u true nw nx cw=Y:=by
 unfold pq
 rw[Km];unfold Rr
 rw[ct,Ar7 hr,n]
 dsimp only
 rw[hs]
 have l:=t_ q
 refine aK (s:=d.rb (w::ws).length ((w::ws).map AV.str) 0) l rfl ?_
 rw[A3d,cf]
 refine st _ _ l fun x=>?_
 unfold Aap
 refine qe rfl ?_
 rw[A3d,cf]
 have:=k x
 unfold pq at this
 rw[t,v,f] at this
 exact this
theorem Asi {K:LA→Int→Int→O R} {d:Rd} {z:Int} {l:List Int} {fuel:Nat} {rem s P1:Lu} {u:Int} {m:Bool} {nw:Nat} {nx:Int} {cw:LA} {Y:O R} (t:fit 2000 N) (hN:1000000000<N) (f:d.bg=false) (v:1≤z) (y:z≤24) (n:(l.length:Int)=z) (A:∀ z ∈ l,Ai z) (C:Lib.cut rem [10]=(s,P1,m)) (hr:rem.length≤4294967280) (hs:Oj N R s ([Df,tx z,D6]++l.map tx))
  (k:∀ x,pq N K { d with bg:=true,th:=z,rs:=l } fuel P1 (wrap .i64 (u+1)) m ([Df,tx z,D6]++l.map tx).length x (([Df,tx z,D6]++l.map tx).map AV.str)=Y):pq N K d (fuel+1) rem u true nw nx cw=Y:=by
 unfold pq
 rw[Km];unfold Rr
 rw[ct,Ar7 hr,C]
 dsimp only
 rw[hs]
 have q:=t_ (ws:=[Df,tx z,D6]++l.map tx) (by rw[A09,A1i];show 3+l.length≤_;omega)
 refine aK (s:=d.rb _ _ 0) q rfl ?_
 rw[A3d,cf]
 refine Asg (d:=d) t hN f v y n A q fun x=>?_
 refine qe rfl ?_
 rw[A3d,cf]
 exact k x
def qY (b:UInt8):Bool:=b==32||(b==9||b==13)
def fw:Lu→Aq→List Aq
 | [],w=>if w=[] then [] else [w]
 | b::r,w=>if qY b=true then (if w=[] then fw r [] else w::fw r []) else fw r (w++[b])
def Ah4 (p:Nat×Nat):LA:=[.int .i64 (p.1:Int),.int .i64 (p.2:Int)]
def Am2 (a:Lu) (p:Nat×Nat):Aq:=take (p.2 - p.1) (drop p.1 a)
def Asj (a:Lu) (p:Nat×Nat):Prop:=p.1≤p.2∧p.2≤a.length
theorem Au7 {c:UInt8} {K:Bool→O R}:DZ N (c.toNat:Int) K=K (qY c):=by
 rw[NL];unfold LM qY
 have e:∀ k:UInt8,((c.toNat:Int)==(k.toNat:Int))=(c==k):=fun k=>by
  rw[Bool.eq_iff_iff];simp only[beq_iff_eq]
  exact⟨fun h=>A5r.1 (by omega),fun h=>by rw[h]⟩
 have e1:((c.toNat:Int)==32)=(c==32):=e 32
 have d:((c.toNat:Int)==9)=(c==9):=e 9
 have e3:((c.toNat:Int)==13)=(c==13):=e 13
 rw[e1,d,e3]
 cases c==32<;>cases c==9<;>cases c==13<;>rfl
theorem Ask {h:Int} (d:0≤h∧h≤4611686018427387904):y_ .i64 (-1) h=-h - 1:=by
 obtain⟨n,rfl⟩:∃ n:Nat,h=(n:Int):=⟨h.toNat,by omega⟩
 unfold y_
 show wrap .i64 (((BitVec.ofInt 64 (-1) ^^^ BitVec.ofInt 64 (n:Int)).toNat:Nat):Int)=_
 rw[show BitVec.ofInt 64 (-1)=BitVec.allOnes 64 by decide,BitVec.allOnes_xor,BitVec.toNat_not,BitVec.toNat_ofInt,IntKind.wrap_i64]
 have:(((n:Int)%((2 ^ 64:Nat):Int)).toNat)=n:=by omega
 rw[this]
 omega
theorem Ajw (sp:List (Nat×Nat)):take (sp.length*2) (sp.flatMap Ah4)=sp.flatMap Ah4:=by
 rw[A1c (by rw[BE (e:=Ah4) (sz:=2) (fun _=>rfl)];exact A1h _)]
theorem uP {a:Lu} (v:∀ c ∈ a,c.toNat<128) (y:a.length≤2000000) {K:Nat→LA→O R}:∀ (r pre w:Lu) (sp:List (Nat×Nat)) (fuel:Nat) (h:Int),a=pre++(w++r)→r.length<fuel→sp.length+r.length≤2000000→(w=[]∧h<0∨w≠[]∧h=(pre.length:Int))→(∀ p ∈ sp,Asj a p) →
  ∃ d:List (Nat×Nat),d.length≤2000001∧(∀ p ∈ d,Asj a p)∧d.map (Am2 a)=sp.map (Am2 a)++fw r w∧Da N K a fuel sp.length h (sp.flatMap Ah4) (((pre.length+w.length:Nat)):Int)=Ja N K a d.length (d.flatMap Ah4)
 | [],pre,w,sp,fuel+1,h,e,C,f,z,hs=>by
  have F:a.length=pre.length+w.length:=by rw[e];simp
  rw[Da];unfold H8
  rw[Hy (by omega),cf]
  rcases z with⟨w0,k⟩ | ⟨w0,k⟩
  ·refine⟨sp,by simp at f;omega,hs,by rw[w0];simp[fw],?_⟩
   rw[show decide (h≥0)=false from decide_eq_false (by omega),cf]
  ·refine⟨sp++[(pre.length,a.length)],by rw[A09];simp at f ⊢;omega,fun p f=>?_,?_,?_⟩
   ·rcases A1k.1 f with q | q
    ·exact hs p q
    ·rw[A2s.1 q];exact⟨by show pre.length≤a.length;omega,A1h _⟩
   ·rw[A2q];congr 1
    show [Am2 a (pre.length,a.length)]=fw [] w
    rw[fw,if_neg w0];congr 1
    show take (a.length - pre.length) (drop pre.length a)=w
    rw[e,A42,A1p,A1c (by simp)]
   ·rw[show decide (h≥0)=true from decide_eq_true (by omega),ct,eV (by simp at f;omega) (by omega),ct,Ajw,Kq sp (pre.length,a.length),A2n,k];rfl
 | c::r,pre,w,sp,fuel+1,h,e,C,f,z,hs=>by
  rw[A1a] at C f
  have F:a.length=pre.length+(w.length+(r.length+1)):=by rw[e];simp
  have x:pre.length+w.length<a.length:=by omega
  have G:a[pre.length+w.length]=c:=by
   simp only[e,←A1l]
   rw[List.getElem_append_right (by simp)];simp
  have D:=gG (s:=a) (p:=pre.length+w.length) x (v _ (A1q _))
  rw[G] at D
  rw[Da];unfold H8
  rw[Hf x,ct,D]
  dsimp only
  rw[Au7]
  have st:(((pre.length+w.length:Nat):Int)+((1:Nat):Int))=((pre.length+w.length+1:Nat):Int):=by omega
  rw[st]
  cases A:qY c with
  | true =>
   rw[ct]
   rcases z with⟨w0,k⟩ | ⟨w0,k⟩
   ·subst w0
    obtain⟨d,l,n,t,u⟩:=uP v y (K:=K) r (pre++[c]) [] sp fuel h (by rw[e];simp) (by omega) (by omega) (.inl ⟨rfl,k⟩) hs
    refine⟨d,l,n,by rw[t,fw,if_pos A,if_pos rfl],?_⟩
    rw[show decide (h≥0)=false from decide_eq_false (by omega),cf]
    rw[←u];simp
   ·have I:y_ .i64 (-1) h=-h - 1:=Ask (by omega)
    obtain⟨d,l,n,t,u⟩:=uP v y (K:=K) r (pre++(w++[c])) [] (sp++[(pre.length,pre.length+w.length)]) fuel (-h - 1) (by rw[e];simp) (by omega) (by rw[A09];simp;omega) (.inl ⟨rfl,by omega⟩) (fun p f=>by
     rcases A1k.1 f with q | q
     ·exact hs p q
     ·rw[A2s.1 q];exact⟨by show pre.length≤_;omega,by show pre.length+w.length≤_;omega⟩)
    refine⟨d,l,n,?_,?_⟩
    ·rw[t,fw,if_pos A,if_neg w0,A2q,A1l];congr 1
     show [Am2 a (pre.length,pre.length+w.length)]++_=_
     rw[show Am2 a (pre.length,pre.length+w.length)=w by
      show take (pre.length+w.length - pre.length) (drop pre.length a)=w
      rw[e,A42,A5f,A51]]
     rfl
    ·rw[show decide (h≥0)=true from decide_eq_true (by omega),ct,eV (by omega) (by omega),ct,Ajw,I,←u,Kq sp (pre.length,pre.length+w.length),A2n,k]
     simp[Ah4,A2l]
  | false =>
   rw[cf]
   rcases z with⟨w0,k⟩ | ⟨w0,k⟩
   ·subst w0
    obtain⟨d,l,n,t,u⟩:=uP v y (K:=K) r pre [c] sp fuel (pre.length:Int) (by rw[e];simp) (by omega) (by omega) (.inr ⟨by simp,rfl⟩) hs
    refine⟨d,l,n,by rw[t,fw,if_neg (by rw[A];simp)];rfl,?_⟩
    rw[show decide (h<0)=true from decide_eq_true (by omega),ct]
    rw[←u];simp
   ·obtain⟨d,l,n,t,u⟩:=uP v y (K:=K) r pre (w++[c]) sp fuel h (by rw[e];simp) (by omega) (by omega) (.inr ⟨by simp,k⟩) hs
    refine⟨d,l,n,by rw[t,fw,if_neg (by rw[A];simp)],?_⟩
    rw[show decide (h<0)=false from decide_eq_false (by omega),cf]
    rw[←u];simp[A2l]
theorem Axv {sp:List (Nat×Nat)} {j:Nat} (h:j<sp.length):take 2 (drop (0+Int.toNat (j:Int)*2) (sp.flatMap Ah4))=Ah4 sp[j]:=by
 rw[A1w];exact D2 (e:=Ah4) (fun _=>rfl) h
theorem Au8 {sp:List (Nat×Nat)} {j:Nat} (h:j<sp.length):ble 2 (List.length (drop (0+Int.toNat (j:Int)*2) (sp.flatMap Ah4)))=true:=by
 rw[A1w];exact Hd (e:=Ah4) (fun _=>rfl) h
theorem Aqg {a:Lu} (f:a.length≤2000000) {sp:List (Nat×Nat)} (hs:∀ p ∈ sp,Asj a p) (hn:sp.length≤2000001) {K:Nat→LA→O R}:∀ (m j fuel:Nat),j+m=sp.length→m<fuel →
  D9 N K a sp.length (sp.flatMap Ah4) fuel (sp.length:Int) (j:Int) (A8 ((sp.take j).map (Am2 a))++replicate m (.str []))=K sp.length (A8 (sp.map (Am2 a)))
 | 0,j,fuel+1,k,_=>by
  rw[D9];unfold H7
  rw[Hy (by omega),cf,A1c (by omega)]
  simp
 | m+1,j,fuel+1,k,s=>by
  have h:j<sp.length:=by omega
  have l:=hs _ (A1q h)
  unfold Asj at l
  rw[D9];unfold H7
  rw[Hf h,ct,Ab h,ct,Au8 h,ct,Axv h]
  have n:∀ F:Int→Int→O R,Aw .i64 (setCells [(.int .i64 0),(.int .i64 0)] 0 (Ah4 sp[j])) (fun m=>Aw .i64 ((setCells [(.int .i64 0),(.int .i64 0)] 0 (Ah4 sp[j])).drop 1) fun o=>F m o)=F ((sp[j].1:Nat):Int) ((sp[j].2:Nat):Int):=fun F=>rfl
  rw[show((beq (List.length (Ah4 sp[j])) 2)&&((ble 2 2)&&(!false)))=true from rfl,ct]
  rw[n]
  rw[show((decide (0≤((sp[j].1:Nat):Int)))&&((decide (((sp[j].1:Nat):Int)≤((sp[j].2:Nat):Int)))&&((decide (((sp[j].2:Nat):Int)≤(a.length:Int)))&&(decide ((a.length:Int)≤(a.length:Int))))))=true by simp;omega,ct,ct]
  have d:(A8 ((sp.take j).map (Am2 a))).length=j:=by simp[A8];omega
  rw[show((beq 1 1)&&((ble ((0+(Int.toNat (j:Int))*1)+1) (List.length (A8 ((sp.take j).map (Am2 a))++replicate (m+1) (.str []))))&&(!false)))=true by rw[A09,d,List.length_replicate];simp,ct,LW (by omega)]
  have q:=Aqg f hs hn (K:=K) m (j+1) fuel (by omega) (by omega)
  refine A4g ?_ q
  congr 1
  rw[show 0+Int.toNat (j:Int)*1=j by omega]
  rw[A5t _ _ (by omega),d,Nat.sub_self,A4j,A6e]
  rw[List.take_add_one,A1g h]
  show _=A8 (List.map (Am2 a) (take j sp++[sp[j]]))++_
  rw[A2q,show List.map (Am2 a) [sp[j]]=[Am2 a sp[j]] from rfl,←Ij,A1l]
  rfl
theorem xc {a:Lu} (f:∀ c ∈ a,c.toNat<128) (s:a.length≤1048576) (hN:1000000000<N) {K:Nat→LA→O R}:Gf N a K=K (fw a []).length (A8 (fw a [])):=by
 rw[V1];unfold Lt
 obtain⟨sp,k,l,d,n⟩:=uP (N:=N) f (by omega) (K:=K) a [] [] [] N (-1) rfl (by omega) (by rw[A1b];omega) (.inl ⟨rfl,by omega⟩) (by intro p q;cases q)
 refine n.trans ?_
 unfold Ja Nq
 rw[show((decide (0≤(sp.length:Int)))&&((decide ((sp.length:Int)≤(sp.length:Int)))&&((decide ((sp.length:Int)≤140737488355328))&&(decide (((sp.length:Int)*((16:Nat):Int))≤140737488355328)))))=true by simp;omega,ct]
 have:=Aqg (N:=N) (a:=a) (by omega) l k (K:=K) sp.length 0 N (by omega) (by omega)
 refine A4g ?_ (this.trans ?_)
 ·simp[A8]
 ·rw[d];simp only[A24,A11]
  have:=congrArg List.length d
  rw[A1i] at this
  rw[this];rfl
def Ah5:Lu→Lu
 | []=>[]
 | c::r=>if c=35 then [] else c::Ah5 r
theorem xd:∀ s:Lu,(Lib.indexByte s 35=-1∧Ah5 s=s)∨∃ n:Nat,Lib.indexByte s 35=(n:Int)∧n≤s.length∧Ah5 s=s.take n
 | []=>.inl ⟨rfl,rfl⟩
 | c::r=>by
  have d:=xd r
  rw[Lib.indexByte,Ah5]
  by_cases h:c=35
  ·right;refine⟨0,?_,by omega,?_⟩
   ·rw[if_pos (by simpa using h)];rfl
   ·rw[if_pos h];rfl
  ·rw[if_neg h]
   rcases d with⟨i1,i2⟩ | ⟨n,i1,i2,i3⟩
   ·left
    refine⟨?_,by rw[i2]⟩
    rw[i1];simp[h]
   ·right
    refine⟨n+1,?_,by rw[A1a];omega,by rw[A4k,i3]⟩
    rw[i1];simp[h]<;>omega
theorem Asl (s:Lu):∀ c ∈ Ah5 s,c ∈ s:=by
 induction s with
 | nil=>intro c d;exact d
 | cons a r f =>
  intro c d
  rw[Ah5] at d
  split at d
  ·cases d
  ·rcases A1j.1 d with q | q
   ·rw[q];simp
   ·exact A15 _ (f c q)
theorem jv {s:Lu} (f:∀ c ∈ s,c.toNat<128) (q:s.length≤1048576) (hN:1000000000<N):Oj N R s (fw (Ah5 s) []):=fun K=>by
 rw[jC];unfold lc
 rw[W3];unfold T6
 rw[Bz];unfold Ce
 rw[show(Int.toNat 35).toUInt8=(35:UInt8) from rfl]
 rcases xd s with⟨d,k⟩ | ⟨n,d,k,l⟩
 ·rw[d,k]
  dsimp only
  rw[show decide ((-1:Int)≥0)=false from rfl,cf,xc f q hN];rfl
 ·rw[d]
  dsimp only
  rw[show decide ((n:Int)≥0)=true from decide_eq_true (by omega),ct]
  rw[show((decide ((0:Int)≤(0:Int)))&&(true&&((decide ((n:Int)≤(s.length:Int)))&&(decide ((s.length:Int)≤(s.length:Int))))))=true by simp;omega,ct,A1d,←l]
  have t:(Ah5 s).length≤1048576:=by rw[l,A2a];omega
  rw[xc (fun c u=>f c (Asl s c u)) t hN];rfl
end
end Gx.Ct
namespace Gx.Ct
open Go Go.Proofs Gx.Cf
def A0l (w:Aq):Prop:=w≠[]∧∀ c ∈ w,qY c=false∧c≠10∧c≠35∧c.toNat<128
theorem Ajx:∀ (s r:Lu),(∀ c ∈ s,qY c=true)→fw (s++r) []=fw r []
 | [],r,_=>rfl
 | c::s,r,h=>by
  rw[A1o,fw,if_pos (h c (A21 ..)),if_pos rfl]
  exact Ajx s r fun x hx=>h x (A15 _ hx)
theorem Ajy:∀ (w r v:Lu),(∀ c ∈ w,qY c=false)→fw (w++r) v=fw r (v++w)
 | [],r,v,_=>by rw[A11,A1p]
 | c::w,r,v,h=>by
  rw[A1o,fw,if_neg (by rw[h c (A21 ..)];decide),Ajy w r (v++[c]) fun x hx=>h x (A15 _ hx),A1l];rfl
theorem Asm {w s r:Lu} (d:A0l w) (hs:s≠[]) (f:∀ c ∈ s,qY c=true):fw (w++(s++r)) []=w::fw r []:=by
 rw[Ajy w _ [] fun c h=>(d.2 c h).1,A11]
 cases s with
 | nil=>exact absurd rfl hs
 | cons c s =>
  rw[A1o,fw,if_pos (f c (A21 ..)),if_neg d.1,Ajx s r fun x hx=>f x (A15 _ hx)]
theorem Ajz:∀ (a b:Lu),(∀ c ∈ a,c≠35)→Ah5 (a++b)=a++Ah5 b
 | [],b,_=>rfl
 | c::a,b,h=>by
  rw[A1o,Ah5,if_neg (h c (A21 ..)),Ajz a b fun x hx=>h x (A15 _ hx)];rfl
def txt:List Lu→Lu→Lu
 | [],e=>e
 | l::r,e=>l++10::txt r e
theorem Aj0 {l:Lu} {r:List Lu} {e:Lu} (h:(10:UInt8) ∉ l):Lib.cut (txt (l::r) e) [10]=(l,txt r e,true):=Ap3 h
theorem Asn {e:Lu} (h:(10:UInt8) ∉ e):Lib.cut (txt [] e) [10]=(e,[],false):=Auy h
theorem Aj1:∀ (L:List Lu) (e:Lu),L.length≤(txt L e).length
 | [],e=>by simp
 | l::r,e=>by
  have:=Aj1 r e
  rw[txt,A09,A1a,A1a];omega
theorem Aj2:∀ (L M:List Lu) (e:Lu),txt (L++M) e=txt L []++txt M e
 | [],M,e=>rfl
 | l::r,M,e=>by rw[A1o,txt,Aj2 r M e,txt,A1l];rfl
end Gx.Ct
namespace Gx.Ct
open Go Go.Proofs Gx.Cf
section
variable {R:Type} {N:Nat}
def Step (N:Nat) (R:Type) (d:Rd) (ws:List Aq) (d':Rd):Prop :=
 ∀ ⦃K:LA→Int→Int→O R⦄ ⦃fuel:Nat⦄ ⦃rem s P1:Lu⦄ ⦃u:Int⦄ ⦃m:Bool⦄ ⦃nw:Nat⦄ ⦃nx:Int⦄ ⦃cw:LA⦄ ⦃Y:O R⦄,Lib.cut rem [10]=(s,P1,m)→rem.length≤4294967280→Oj N R s ws→(∀ u' nw' x cw',pq N K d' fuel P1 u' m nw' x cw'=Y)→pq N K d (fuel+1) rem u true nw nx cw=Y
inductive Walk (N:Nat) (R:Type):List (List UInt8)→Rd→Rd→Prop
 | nil (d:Rd):Walk N R [] d d
 | skip {l:List UInt8} {L:List (List UInt8)} {d d':Rd}:(10:UInt8) ∉ l→Oj N R l []→Walk N R L d d'→Walk N R (l::L) d d'
 | stmt {l:List UInt8} {L:List (List UInt8)} {ws:List Aq} {d e d':Rd}:(10:UInt8) ∉ l→Oj N R l ws→Step N R d ws e→Walk N R L e d'→Walk N R (l::L) d d'
theorem Aqh {K:LA→Int→Int→O R} {e:Lu} {L:List Lu} {d d':Rd} (w:Walk N R L d d'):∀ {fuel:Nat} {u:Int} {nw:Nat} {nx:Int} {cw:LA} {Y:O R},(txt L e).length≤4294967280→(∀ v f x l,pq N K d' fuel e v true f x l=Y)→pq N K d (fuel+L.length) (txt L e) u true nw nx cw=Y:=by
 induction w with
 | nil d=>intro fuel u nw nx cw Y _ k;exact k _ _ _ _
 | skip q s _ t =>
  intro fuel u nw nx cw Y n k
  rw[txt,A09,A1a] at n
  exact Ae2 (Aj0 q) (by rw[txt,A09,A1a];exact n) s (t (by omega) k)
 | stmt q s y _ t =>
  intro fuel u nw nx cw Y n k
  rw[txt,A09,A1a] at n
  exact y (Aj0 q) (by rw[txt,A09,A1a];exact n) s fun v f x l=>t (by omega) k
theorem aX {d d':Rd} {w:Aq} {ws:List Aq} (l:(w::ws).length≤2000000) (n:d'.th=d.th) (q:d'.bg=d.bg) (f:d'.rs=d.rs)
  (st:∀ {Y:O R} {r0:Int→Int→Nat→Nat→Nat→Nat→Nat→Nat→Nat→Nat→Nat→Nat→Nat→Nat→LA→LA→LA→LA→LA→LA→LA→LA→LA→LA→LA→LA→O R} {s:Int→Int→Int→Nat→LA→O R},At (w::ws).length ((w::ws).map AV.str) 0 (w::ws)→(∀ x,Aap r0 d' x=Y)→Bo N (d.rb (w::ws).length ((w::ws).map AV.str) 0) r0 s=Y):Step N R d (w::ws) d' :=
 fun _ _ _ _ _ _ _ _ _ _ _ t hr hs k=>Ash t hr hs l n q f (fun _ _ u kk=>st u kk) fun x=>k _ _ _ _
theorem Aqi {d:Rd} {b:BusD} (q:fit 2000 N) (hN:1000000000<N) (n:d.bg=true) (s:Ba b.name=true) (t:b.name ∉ d.bs.map BusD.name) (u:d.bs.length<32) (hdemand:(b.demand.l.length:Int)=d.th∧b.demand.l.length≤1000∧∀ z ∈ b.demand.l,Ai z) (f:Ai b.shed) (k:(bR b).length≤2000000):Step N R d (bR b) { d with bs:=d.bs++[jy b] } :=
 aX (w:=R6) (ws:=(bR b).tail) (d':={ d with bs:=d.bs++[jy b] }) k rfl rfl rfl (fun v kk=>Au5 q hN n s t u hdemand f v kk)
theorem Amv {d:Rd} {l:LineD} (A:fit 2000 N) (hN:1000000000<N) (u:d.bg=true) (C:Ba l.name=true) (D:l.name ∉ d.ls.map LineD.name) (F:d.ls.length<64) (hBn:(d.bs.map BusD.name).Nodup) (hBl:d.bs.length≤1000000) (v:0≤l.fr∧l.fr<(d.bs.length:Int))(x:0≤l.tl∧l.tl<(d.bs.length:Int))(y:I5 l.re) (k:I5 l.smin) (n:I5 l.smax) (f:Ai l.limit) (q:Ai l.emer) (s:∀ z ∈ l.away.l,Ai z) (t:(Uk (d.bs.map BusD.name) l).length≤2000000):Step N R d (Uk (d.bs.map BusD.name) l) { d with ls:=d.ls++[Wq l] } :=
 aX (w:=Ji) (ws:=(Uk (d.bs.map BusD.name) l).tail) (d':={ d with ls:=d.ls++[Wq l] }) t rfl rfl rfl (fun G kk=>Ase A hN u C D F hBn hBl v x y k n f q s G kk)
theorem Amw {d:Rd} {u:UnitD} (x:fit 2000 N) (hN:1000000000<N) (q:d.bg=true) (y:Ba u.name=true) (A:u.name ∉ d.us.map UnitD.name) (C:d.us.length<16) (hBn:(d.bs.map BusD.name).Nodup) (hBl:d.bs.length≤1000000) (k:0≤u.bus∧u.bus<(d.bs.length:Int))(D:∀ z ∈ YW u,Ai z) (f:∀ z ∈ u.away.l,Ai z) (s:u.state=0∨u.state=1∨u.state=2) (t:∀ g ∈ u.segs.l,Ai g.width∧Ai g.price) (v:u.segs.l.length≤1000000) (n:(Qh (d.bs.map BusD.name) u).length≤2000000):Step N R d (Qh (d.bs.map BusD.name) u) { d with us:=d.us++[OQ u] } :=
 aX (w:=Jj) (ws:=(Qh (d.bs.map BusD.name) u).tail) (d':={ d with us:=d.us++[OQ u] }) n rfl rfl rfl (fun F kk=>Asf x hN q y A C hBn hBl k D f s t v F kk)
theorem Ah6 {d:Rd} {u:StoreD} (s:fit 2000 N) (hN:1000000000<N) (q:d.bg=true) (t:Ba u.name=true) (v:u.name ∉ d.ss.map StoreD.name) (x:d.ss.length<8) (hBn:(d.bs.map BusD.name).Nodup) (hBl:d.bs.length≤1000000) (k:0≤u.bus∧u.bus<(d.bs.length:Int))(hcapacity:Ai u.capacity) (hinitial:Ai u.initial) (f:Ai u.final) (hcharge:Ai u.charge) (hdischarge:Ai u.discharge) (l:I5 u.eff) (n:(Ku (d.bs.map BusD.name) u).length≤2000000):Step N R d (Ku (d.bs.map BusD.name) u) { d with ss:=d.ss++[u] } :=
 aX (w:=F1) (ws:=(Ku (d.bs.map BusD.name) u).tail) (d':={ d with ss:=d.ss++[u] }) n rfl rfl rfl (fun y kk=>Aqf s hN q t v x hBn hBl k hcapacity hinitial f hcharge hdischarge l y kk)
theorem Aqj {d:Rd} {t:TieD} (v:fit 2000 N) (hN:1000000000<N) (u:d.bg=true) (x:Ba t.name=true) (y:t.name ∉ d.ts.map TieD.name) (A:d.ts.length<8) (hBn:(d.bs.map BusD.name).Nodup) (hBl:d.bs.length≤1000000) (k:0≤t.bus∧t.bus<(d.bs.length:Int))(n:(t.imp.l.length:Int)=d.th∧t.imp.l.length≤1000∧∀ z ∈ t.imp.l,Ai z)(q:(t.exp.l.length:Int)=d.th∧t.exp.l.length≤1000∧∀ z ∈ t.exp.l,Ai z)(f:(t.price.l.length:Int)=d.th∧t.price.l.length≤1000∧∀ z ∈ t.price.l,Ai z) (s:(HY (d.bs.map BusD.name) t).length≤2000000):Step N R d (HY (d.bs.map BusD.name) t) { d with ts:=d.ts++[uY t] } :=
 aX (w:=R7) (ws:=(HY (d.bs.map BusD.name) t).tail) (d':={ d with ts:=d.ts++[uY t] }) s rfl rfl rfl (fun C kk=>Au6 v hN u x y A hBn hBl k n q f C kk)
theorem Ae3 {d:Rd} {o:OutD} (v:fit 2000 N) (hN:1000000000<N) (k:d.bg=true) (x:Ba o.name=true) (y:o.name ∉ d.os.map OutD.name) (z:d.os.length<64) (hUn:(d.us.map UnitD.name).Nodup) (hUl:d.us.length≤1000000) (hLn:(d.ls.map LineD.name).Nodup) (hLl:d.ls.length≤1000000) (hLk:B5 ∉ d.ls.map LineD.name) (n:(o.corr||o.moves.l.isEmpty)=true) (q:∀ m ∈ o.moves.l,(0≤m.unit∧m.unit<(d.us.length:Int))∧Ai m.up∧Ai m.down) (s:o.moves.l.length≤1000000) (t:∀ i ∈ o.lines.l,0≤i∧i<(d.ls.length:Int)) (u:o.lines.l.length≤1000000) (f:(Xx (d.ls.map LineD.name) (d.us.map UnitD.name) o).length≤2000000):Step N R d (Xx (d.ls.map LineD.name) (d.us.map UnitD.name) o) { d with os:=d.os++[aW o] } :=
 aX (w:=Dt) (ws:=(Xx (d.ls.map LineD.name) (d.us.map UnitD.name) o).tail) (d':={ d with os:=d.os++[aW o] }) f rfl rfl rfl (fun A kk=>Amu v hN k x y z hUn hUl hLn hLl hLk n q s t u A kk)
theorem Amx {d:Rd} {z:Int} {l:List Int} (n:fit 2000 N) (hN:1000000000<N) (f:d.bg=false) (q:1≤z) (s:z≤24) (t:(l.length:Int)=z) (u:∀ z ∈ l,Ai z):Step N R d ([Df,tx z,D6]++l.map tx) { d with bg:=true,th:=z,rs:=l } :=
 fun _ _ _ _ _ _ _ _ _ _ _ v hr hs k=>Asi n hN f q s t u v hr hs fun x=>k _ _ _ _
inductive Says (N:Nat) (R:Type):List (List UInt8)→List (List Aq)→Prop
 | nil:Says N R [] []
 | skip {l:List UInt8} {L:List (List UInt8)} {W:List (List Aq)}:(10:UInt8) ∉ l→Oj N R l []→Says N R L W→Says N R (l::L) W
 | stmt {l:List UInt8} {L:List (List UInt8)} {ws:List Aq} {W:List (List Aq)}:(10:UInt8) ∉ l→Oj N R l ws→Says N R L W→Says N R (l::L) (ws::W)
inductive Chain (N:Nat) (R:Type):Rd→List (List Aq)→Rd→Prop
 | nil (d:Rd):Chain N R d [] d
 | cons {d e d':Rd} {ws:List Aq} {W:List (List Aq)}:Step N R d ws e→Chain N R e W d'→Chain N R d (ws::W) d'
theorem Aso {L:List Lu} {W:List (List Aq)} (s:Says N R L W):∀ {d d':Rd},Chain N R d W d'→Walk N R L d d':=by
 induction s with
 | nil=>intro d d' c;cases c;exact .nil _
 | skip f k _ l=>intro d d' c;exact .skip f k (l c)
 | stmt f k _ l =>
  intro d d' c
  cases c with
  | cons st c=>exact .stmt f k st (l c)
theorem ON {d e d':Rd} {V W:List (List Aq)} (a:Chain N R d V e) (b:Chain N R e W d'):Chain N R d (V++W) d':=by
 induction a with
 | nil=>exact b
 | cons st _ f=>exact .cons st (f b)
theorem Ug {α:Type} {f:α→List Aq} {st:List α→Rd}:∀ (l pre:List α),(∀ p a q,pre++l=p++a::q→pre.length≤p.length→Step N R (st p) (f a) (st (p++[a])))→Chain N R (st pre) (l.map f) (st (pre++l))
 | [],pre,_=>by rw[A1p];exact .nil _
 | a::l,pre,h=>by
  refine .cons (h pre a l rfl (A1h _)) ?_
  have:=Ug l (pre++[a]) fun p b q e d=>h p b q (by rw[←e,A1l];rfl) (by simp at d;omega)
  rw[A1l] at this
  exact this
def eY (c:CaseD) (l:Sl Int):Prop:=(l.l.length:Int)=c.hours∧∀ z ∈ l.l,Ai z
def OP (c:CaseD) (p:List BusD):Rd:=⟨true,c.hours,c.reserve.l,p.map jy,[],[],[],[],[]⟩
theorem YX {α:Type} {f:α→Aq} {re:α→α} (h:∀ a,f (re a)=f a) (l:List α):(l.map re).map f=l.map f:=by
 rw[A4d];exact A37 fun a _=>h a
theorem EQ {α:Type} {f:α→Aq} {l p q:List α} {a:α} (h:(l.map f).Nodup) (e:l=p++a::q):f a ∉ p.map f:=fun d=>by
 rw[e,A2q,A1r] at h
 exact(List.nodup_append.1 h).2.2 _ d _ (A21 ..) rfl
theorem Amy {c:CaseD} (n:fit 2000 N) (hN:1000000000<N) (x:1≤c.hours∧c.hours≤24) (hn:(c.buses.l.map BusD.name).Nodup) (s:∀ b ∈ c.buses.l,Ba b.name=true∧eY c b.demand∧Ai b.shed) (y:c.buses.l.length≤32):Chain N R (OP c []) (c.buses.l.map bR) (OP c c.buses.l):=by
 refine Ug c.buses.l [] fun p a q e _=>?_
 rw[A11] at e
 obtain⟨t,⟨w2,w3⟩,u⟩:=s a (by rw[e];simp)
 have k:p.length<c.buses.l.length:=by rw[e];simp
 have:=Aqi (R:=R) (d:=OP c p) n hN rfl t (by show a.name ∉ (p.map jy).map BusD.name;rw[YX (f:=BusD.name) (re:=jy) (fun _=>rfl)];exact EQ hn e) (by show(p.map jy).length<32;rw[A1i];omega) ⟨w2,by omega,w3⟩ u (by simp[bR];omega)
 have v:OP c (p++[a])={ OP c p with bs:=(OP c p).bs++[jy a] }:=by simp[OP]
 rw[v];exact this
def Bb (c:CaseD) (p:List LineD):Rd:=⟨true,c.hours,c.reserve.l,c.buses.l.map jy,p.map Wq,[],[],[],[]⟩
def aY (c:CaseD):Prop:=(c.buses.l.map BusD.name).Nodup∧c.buses.l.length≤32
theorem YY (c:CaseD):(c.buses.l.map jy).map BusD.name=Cq c:=YX (f:=BusD.name) (re:=jy) (fun _=>rfl) c.buses.l
theorem Ah7 {c:CaseD} (t:fit 2000 N) (hN:1000000000<N) (hB:aY c) (hn:(c.lines.l.map LineD.name).Nodup) (u:∀ l ∈ c.lines.l,Ba l.name=true∧(0≤l.fr∧l.fr<(c.buses.l.length:Int))∧(0≤l.tl∧l.tl<(c.buses.l.length:Int))∧(I5 l.re∧I5 l.smin∧I5 l.smax)∧Ai l.limit∧Ai l.emer∧(∀ z ∈ l.away.l,Ai z)∧(Uk (Cq c) l).length≤2000000) (I:c.lines.l.length≤64):Chain N R (Bb c []) (c.lines.l.map (Uk (Cq c))) (Bb c c.lines.l):=by
 refine Ug c.lines.l [] fun p a q e _=>?_
 rw[A11] at e
 obtain⟨v,w2,w3,⟨x,y,A⟩,C,D,F,k⟩:=u a (by rw[e];simp)
 have s:p.length<c.lines.l.length:=by rw[e];simp
 have eb:(Bb c p).bs.map BusD.name=Cq c:=YY c
 have n:(Bb c p).bs.length=c.buses.l.length:=A1i _
 have:=Amv (R:=R) (d:=Bb c p) t hN rfl v (by show a.name ∉ (p.map Wq).map LineD.name;rw[YX (f:=LineD.name) (re:=Wq) (fun _=>rfl)];exact EQ hn e) (by show(p.map Wq).length<64;rw[A1i];omega) (by rw[eb];exact hB.1) (by rw[n];have:=hB.2;omega) (by rw[n];exact w2) (by rw[n];exact w3) x y A C D F (by rw[eb];exact k)
 rw[eb] at this
 have G:Bb c (p++[a])={ Bb c p with ls:=(Bb c p).ls++[Wq a] }:=by simp[Bb]
 rw[G];exact this
theorem Aqk (c:CaseD):(c.lines.l.map Wq).map LineD.name=F4 c:=YX (f:=LineD.name) (re:=Wq) (fun _=>rfl) c.lines.l
theorem Aql (c:CaseD):(c.units.l.map OQ).map UnitD.name=Ei c:=YX (f:=UnitD.name) (re:=OQ) (fun _=>rfl) c.units.l
def Aqz (c:CaseD) (p:List UnitD):Rd:=⟨true,c.hours,c.reserve.l,c.buses.l.map jy,c.lines.l.map Wq,p.map OQ,[],[],[]⟩
theorem Ah8 {c:CaseD} (s:fit 2000 N) (hN:1000000000<N) (hB:aY c) (hn:(c.units.l.map UnitD.name).Nodup) (t:∀ u ∈ c.units.l,Ba u.name=true∧(0≤u.bus∧u.bus<(c.buses.l.length:Int))∧(∀ z ∈ YW u,Ai z)∧(∀ z ∈ u.away.l,Ai z)∧(u.state=0∨u.state=1∨u.state=2)∧(∀ g ∈ u.segs.l,Ai g.width∧Ai g.price)∧u.segs.l.length≤1000000∧(Qh (Cq c) u).length≤2000000) (G:c.units.l.length≤16):Chain N R (Aqz c []) (c.units.l.map (Qh (Cq c))) (Aqz c c.units.l):=by
 refine Ug c.units.l [] fun p a q e _=>?_
 rw[A11] at e
 obtain⟨v,w2,w3,x,y,A,C,D⟩:=t a (by rw[e];simp)
 have k:p.length<c.units.l.length:=by rw[e];simp
 have eb:(Aqz c p).bs.map BusD.name=Cq c:=YY c
 have n:(Aqz c p).bs.length=c.buses.l.length:=A1i _
 skip
 have:=Amw (R:=R) (d:=Aqz c p) s hN rfl v (by show a.name ∉ (p.map OQ).map UnitD.name;rw[YX (f:=UnitD.name) (re:=OQ) (fun _=>rfl)];exact EQ hn e) (by show(p.map OQ).length<16;rw[A1i];omega) (by rw[eb];exact hB.1) (by rw[n];have:=hB.2;omega) (by rw[n];exact w2) w3 x y A C (by rw[eb];exact D)
 rw[eb] at this
 have F:Aqz c (p++[a])={ Aqz c p with us:=(Aqz c p).us++[OQ a] }:=by simp[Aqz]
 rw[F];exact this
def Li (c:CaseD) (p:List StoreD):Rd:=⟨true,c.hours,c.reserve.l,c.buses.l.map jy,c.lines.l.map Wq,c.units.l.map OQ,p,[],[]⟩
theorem Ae4 {c:CaseD} (n:fit 2000 N) (hN:1000000000<N) (hB:aY c) (hn:(c.stores.l.map StoreD.name).Nodup) (s:∀ u ∈ c.stores.l,Ba u.name=true∧(0≤u.bus∧u.bus<(c.buses.l.length:Int))∧Ai u.capacity∧Ai u.initial∧Ai u.final∧Ai u.charge∧Ai u.discharge∧I5 u.eff∧(Ku (Cq c) u).length≤2000000) (F:c.stores.l.length≤8):Chain N R (Li c []) (c.stores.l.map (Ku (Cq c))) (Li c c.stores.l):=by
 refine Ug c.stores.l [] fun p a q e _=>?_
 rw[A11] at e
 obtain⟨t,w2,w3,v,x,y,z,A,C⟩:=s a (by rw[e];simp)
 have f:p.length<c.stores.l.length:=by rw[e];simp
 have eb:(Li c p).bs.map BusD.name=Cq c:=YY c
 have k:(Li c p).bs.length=c.buses.l.length:=A1i _
 skip
 have:=Ah6 (R:=R) (d:=Li c p) n hN rfl t (by show a.name ∉ p.map StoreD.name;exact EQ hn e) (by show p.length<8;omega) (by rw[eb];exact hB.1) (by rw[k];have:=hB.2;omega) (by rw[k];exact w2) w3 v x y z A (by rw[eb];exact C)
 rw[eb] at this
 have D:Li c (p++[a])={ Li c p with ss:=(Li c p).ss++[a] }:=by simp[Li]
 rw[D];exact this
def Aq0 (c:CaseD) (p:List TieD):Rd:=⟨true,c.hours,c.reserve.l,c.buses.l.map jy,c.lines.l.map Wq,c.units.l.map OQ,c.stores.l,p.map uY,[]⟩
theorem Amz {c:CaseD} (v:fit 2000 N) (hN:1000000000<N) (hB:aY c) (C:1≤c.hours∧c.hours≤24) (hn:(c.ties.l.map TieD.name).Nodup) (x:∀ t ∈ c.ties.l,Ba t.name=true∧(0≤t.bus∧t.bus<(c.buses.l.length:Int))∧eY c t.imp∧eY c t.exp∧eY c t.price∧(HY (Cq c) t).length≤2000000) (D:c.ties.l.length≤8):Chain N R (Aq0 c []) (c.ties.l.map (HY (Cq c))) (Aq0 c c.ties.l):=by
 refine Ug c.ties.l [] fun p a q e _=>?_
 rw[A11] at e
 obtain⟨y,w2,w3,k,n,z⟩:=x a (by rw[e];simp)
 have s:p.length<c.ties.l.length:=by rw[e];simp
 have eb:(Aq0 c p).bs.map BusD.name=Cq c:=YY c
 have u:(Aq0 c p).bs.length=c.buses.l.length:=A1i _
 skip
 have:=Aqj (R:=R) (d:=Aq0 c p) v hN rfl y (by show a.name ∉ (p.map uY).map TieD.name;rw[YX (f:=TieD.name) (re:=uY) (fun _=>rfl)];exact EQ hn e) (by show(p.map uY).length<8;rw[A1i];omega) (by rw[eb];exact hB.1) (by rw[u];have:=hB.2;omega) (by rw[u];exact w2) ⟨w3.1,by have:=w3.1;omega,w3.2⟩ ⟨k.1,by have:=k.1;omega,k.2⟩ ⟨n.1,by have:=n.1;omega,n.2⟩ (by rw[eb];exact z)
 rw[eb] at this
 have A:Aq0 c (p++[a])={ Aq0 c p with ts:=(Aq0 c p).ts++[uY a] }:=by simp[Aq0]
 rw[A];exact this
def Ah9 (c:CaseD) (p:List OutD):Rd:=⟨true,c.hours,c.reserve.l,c.buses.l.map jy,c.lines.l.map Wq,c.units.l.map OQ,c.stores.l,c.ties.l.map uY,p.map aW⟩
theorem Aaq {c:CaseD} (n:fit 2000 N) (hN:1000000000<N) (hB:aY c) (hU:(Ei c).Nodup∧c.units.l.length≤16) (hL:(F4 c).Nodup∧c.lines.l.length≤64∧B5 ∉ F4 c) (hn:(c.outs.l.map OutD.name).Nodup) (s:∀ o ∈ c.outs.l,Ba o.name=true∧(o.corr||o.moves.l.isEmpty)=true∧(∀ m ∈ o.moves.l,(0≤m.unit∧m.unit<(c.units.l.length:Int))∧Ai m.up∧Ai m.down)∧o.moves.l.length≤1000000∧(∀ i ∈ o.lines.l,0≤i∧i<(c.lines.l.length:Int))∧o.lines.l.length≤1000000∧(Xx (F4 c) (Ei c) o).length≤2000000) (A:c.outs.l.length≤64):Chain N R (Ah9 c []) (c.outs.l.map (Xx (F4 c) (Ei c))) (Ah9 c c.outs.l):=by
 refine Ug c.outs.l [] fun p a q e _=>?_
 rw[A11] at e
 obtain⟨t,w2,w3,u,v,x,y⟩:=s a (by rw[e];simp)
 have k:p.length<c.outs.l.length:=by rw[e];simp
 have eb:(Ah9 c p).bs.map BusD.name=Cq c:=YY c
 have C:(Ah9 c p).bs.length=c.buses.l.length:=A1i _
 have eu:(Ah9 c p).us.map UnitD.name=Ei c:=Aql c
 have eL:(Ah9 c p).ls.map LineD.name=F4 c:=Aqk c
 have eul:(Ah9 c p).us.length=c.units.l.length:=A1i _
 have ell:(Ah9 c p).ls.length=c.lines.l.length:=A1i _
 have:=Ae3 (R:=R) (d:=Ah9 c p) n hN rfl t (by show a.name ∉ (p.map aW).map OutD.name;rw[YX (f:=OutD.name) (re:=aW) (fun _=>rfl)];exact EQ hn e) (by show(p.map aW).length<64;rw[A1i];omega) (by rw[eu];exact hU.1) (by rw[eul];have:=hU.2;omega) (by rw[eL];exact hL.1) (by rw[ell];have:=hL.2.1;omega) (by rw[eL];exact hL.2.2) w2 (by rw[eul];exact w3) u (by rw[ell];exact v) x (by rw[eL,eu];exact y)
 rw[eL,eu] at this
 have z:Ah9 c (p++[a])={ Ah9 c p with os:=(Ah9 c p).os++[aW a] }:=by simp[Ah9]
 rw[z];exact this
structure GoodC (c:CaseD):Prop where
 hh:1≤c.hours∧c.hours≤24
 hr:eY c c.reserve
 hB:aY c
 hL:(F4 c).Nodup∧c.lines.l.length≤64∧B5 ∉ F4 c
 hU:(Ei c).Nodup∧c.units.l.length≤16
 hS:(fM c).Nodup∧c.stores.l.length≤8
 hT:(Age c).Nodup∧c.ties.l.length≤8
 hO:(Agf c).Nodup∧c.outs.l.length≤64
 gB:∀ b ∈ c.buses.l,Ba b.name=true∧eY c b.demand∧Ai b.shed
 gL:∀ l ∈ c.lines.l,Ba l.name=true∧(0≤l.fr∧l.fr<(c.buses.l.length:Int))∧(0≤l.tl∧l.tl<(c.buses.l.length:Int))∧(I5 l.re∧I5 l.smin∧I5 l.smax)∧Ai l.limit∧Ai l.emer∧(∀ z ∈ l.away.l,Ai z)∧(Uk (Cq c) l).length≤2000000
 gU:∀ u ∈ c.units.l,Ba u.name=true∧(0≤u.bus∧u.bus<(c.buses.l.length:Int))∧(∀ z ∈ YW u,Ai z)∧(∀ z ∈ u.away.l,Ai z)∧(u.state=0∨u.state=1∨u.state=2)∧(∀ g ∈ u.segs.l,Ai g.width∧Ai g.price)∧u.segs.l.length≤1000000∧(Qh (Cq c) u).length≤2000000
 gS:∀ u ∈ c.stores.l,Ba u.name=true∧(0≤u.bus∧u.bus<(c.buses.l.length:Int))∧Ai u.capacity∧Ai u.initial∧Ai u.final∧Ai u.charge∧Ai u.discharge∧I5 u.eff∧(Ku (Cq c) u).length≤2000000
 gT:∀ t ∈ c.ties.l,Ba t.name=true∧(0≤t.bus∧t.bus<(c.buses.l.length:Int))∧eY c t.imp∧eY c t.exp∧eY c t.price∧(HY (Cq c) t).length≤2000000
 gO:∀ o ∈ c.outs.l,Ba o.name=true∧(o.corr||o.moves.l.isEmpty)=true∧(∀ m ∈ o.moves.l,(0≤m.unit∧m.unit<(c.units.l.length:Int))∧Ai m.up∧Ai m.down)∧o.moves.l.length≤1000000∧(∀ i ∈ o.lines.l,0≤i∧i<(c.lines.l.length:Int))∧o.lines.l.length≤1000000∧(Xx (F4 c) (Ei c) o).length≤2000000
def Az1:Rd:=⟨false,0,[],[],[],[],[],[],[]⟩
def Avn (c:CaseD):CaseD:=⟨c.hours,eX c.reserve,.of (c.buses.l.map jy) false false,.of (c.lines.l.map Wq) false false,.of (c.units.l.map OQ) false false,.of c.stores.l false false,.of (c.ties.l.map uY) false false,.of (c.outs.l.map aW) false false⟩
theorem Am0 {c:CaseD} (f:fit 2000 N) (hN:1000000000<N) (g:GoodC c):Chain N R Az1 (Vg c) (Ah9 c c.outs.l):=by
 refine .cons (e:=OP c []) (Amx (R:=R) (d:=Az1) f hN rfl g.hh.1 g.hh.2 g.hr.1 g.hr.2) ?_
 refine ON (Amy f hN g.hh g.hB.1 g.gB g.hB.2) ?_
 refine ON (e:=Bb c c.lines.l) (Ah7 f hN g.hB g.hL.1 g.gL g.hL.2.1) ?_
 refine ON (e:=Aqz c c.units.l) (Ah8 f hN g.hB g.hU.1 g.gU g.hU.2) ?_
 refine ON (e:=Li c c.stores.l) (Ae4 f hN g.hB g.hS.1 g.gS g.hS.2) ?_
 refine ON (e:=Aq0 c c.ties.l) (Amz f hN g.hB g.hh g.hT.1 g.gT g.hT.2) ?_
 exact Aaq f hN g.hB g.hU g.hL g.hO.1 g.gO g.hO.2
theorem OO {α:Type} {e:α→LA} {sz:Nat} (d:∀ a,(e a).length=sz) (l:List α):(AV.imm (take (l.length*sz) (l.flatMap e)) l.length sz false false)=Sl.av sz e (.of l false false):=by
 rw[A1c (by rw[BE d];exact A1h _)];rfl
theorem Asp {c:CaseD} {K:LA→Int→Int→O R} {fuel:Nat} {rem:Lu} {u:Int} {nw:Nat} {nx:Int} {cw:LA}:pq N K (Ah9 c c.outs.l) (fuel+1) rem u false nw nx cw=K (Avn c).av 0 0:=by
 unfold pq
 rw[Km];unfold Rr
 rw[cf]
 rw[BJ,OO Md,OO Dh,OO Fl,OO Hp,OO Hu,OO G9]
 rfl
theorem Aqm {c:CaseD} {L:List Lu} {e:Lu} {K:LA→Int→Int→O R} (k:fit 2000 N) (hN:1000000000<N) (g:GoodC c) (s:Says N R L (Vg c)) (f:(10:UInt8) ∉ e) (d:Oj N R e []) (q:(txt L e).length≤1048576):NV N (txt L e) K=K (Avn c).av 0 0:=by
 rw[j9];unfold aI
 rw[show decide ((((txt L e).length:Nat):Int)>1048576)=false from decide_eq_false (by omega),cf]
 show pq N K Az1 N (txt L e) 0 true 0 0 []=_
 have hL:=Aj1 L e
 obtain⟨n,hn⟩:∃ n,N=(n+1+1)+L.length:=⟨N - L.length - 2,by omega⟩
 have main:=Aqh (R:=R) (N:=N) (K:=K) (e:=e) (Aso s (Am0 k hN g)) (fuel:=n+1+1) (u:=0) (nw:=0) (nx:=0) (cw:=[]) (Y:=K (Avn c).av 0 0) (by omega) fun y t x v =>
  Ae2 (Asn f) (by
   have:e.length≤(txt L e).length:=by
    clear hL hn q d f s
    induction L with
    | nil=>exact A1h _
    | cons l L z=>rw[txt,A09,A1a];omega
   omega) d Asp
 rw[←hn] at main
 exact main
end
end Gx.Ct
