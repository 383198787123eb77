/- A part of the proof: what it holds is said by each theorem. -/
import Derived.Test.YtlkhmflligkbkaaGreatP3
set_option linter.unusedVariables false
set_option linter.defProp false
set_option linter.unusedSimpArgs false
namespace Gx
open Go Go.Proofs
section
variable {R:Type}
structure PD where
 lo:Int
 hi:Int
def PD.av (p:PD):LA:=[.int .i64 p.lo,.int .i64 p.hi]
def tb (n:Nat) (g:Nat→PD):LA:=((List.range n).map g).flatMap PD.av
def t9 (g:Nat→PD) (i:Nat) (v:PD):Nat→PD:=fun j=>if j=i then v else g j
theorem Ga {n:Nat} {g g':Nat→PD} (h:∀ i,i<n→g i=g' i):tb n g=tb n g':=by
 unfold tb;rw[List.map_congr_left (fun i hi=>h i (by simpa using hi))]
theorem Bcv (n:Nat) (g:Nat→PD):(tb n g).length=n*2:=by
 unfold tb
 induction n with
 | zero=>rfl
 | succ n k=>rw[List.range_succ,List.map_append,List.flatMap_append,List.length_append,k];simp[PD.av];omega
theorem A29 {n j:Nat} {g:Nat→PD} (h:j<n):List.drop (j*2) (tb n g)=(g j).av++(((List.range n).map g).drop (j+1)).flatMap PD.av:=by
 unfold tb
 rw[Bh (e:=PD.av) (sz:=2) (fun _=>rfl) _ j (by simpa using h)];simp
theorem fB {n j:Nat} {g:Nat→PD} (h:j<n) {f:Int→O R}:An .i64 (List.drop (0+(Int.toNat (j:Int))*2) (tb n g)) f=f (g j).lo:=by
 rw[Int.toNat_natCast,Nat.zero_add,A29 h];exact Ay
theorem fC {n j:Nat} {g:Nat→PD} (h:j<n) {f:Int→O R}:An .i64 (List.drop ((0+(Int.toNat (j:Int))*2)+1) (tb n g)) f=f (g j).hi:=by
 rw[Int.toNat_natCast,Nat.zero_add,←List.drop_drop,A29 h];exact Ay
theorem t_ {n j:Nat} {g:Nat→PD} (h:j<n):List.take 2 (List.drop (0+(Int.toNat (j:Int))*2) (tb n g))=(g j).av:=by
 rw[Int.toNat_natCast,Nat.zero_add,A29 h];rfl
theorem ta {n j:Nat} {g:Nat→PD} (h:j<n):Nat.ble 2 (List.length (List.drop (0+(Int.toNat (j:Int))*2) (tb n g)))=true:=by
 rw[Int.toNat_natCast,Nat.zero_add,A29 h];rfl
theorem Aok {n j:Nat} {g:Nat→PD} (h:j<n):((Nat.beq 2 2)&&((Nat.ble ((0+(Int.toNat (j:Int))*2)+2) (List.length (tb n g)))&&(!false)))=true:=by
 rw[Int.toNat_natCast,Bcv];simp;omega
theorem Bcw {n j:Nat} {g:Nat→PD} {p:PD} (h:j<n):((Nat.beq (List.length p.av) 2)&&((Nat.ble ((0+(Int.toNat (j:Int))*2)+2) (List.length (tb n g)))&&(!false)))=true:=Aok h
theorem fD {α:Type} {e:α→LA} {sz:Nat} (k:∀ a,(e a).length=sz):∀ (l:List α) (j:Nat) (v:α),j<l.length→Cu (l.flatMap e) (j*sz) (e v)=(l.set j v).flatMap e
 | a::r,0,v,_=>by
  unfold Cu
  rw[Nat.zero_mul,List.take_zero,List.nil_append,Nat.zero_add,k,List.flatMap_cons,List.drop_append,k,Nat.sub_self,List.drop_eq_nil_of_le (by rw[k];exact Nat.le_refl _)];simp
 | a::r,j+1,v,h=>by
  have C:=fD k r j v (by simpa using h)
  unfold Cu at C ⊢
  rw[List.flatMap_cons,List.take_append,List.drop_append,k,k,List.take_of_length_le (by rw[k,Nat.add_mul];omega),List.drop_eq_nil_of_le (by rw[k,Nat.add_mul];omega),show(j+1)*sz - sz=j*sz by rw[Nat.add_mul];omega,show(j+1)*sz+sz - sz=j*sz+sz by rw[Nat.add_mul];omega]
  rw[k] at C
  rw[List.set_cons_succ,List.flatMap_cons,←C];simp
theorem mW {n j:Nat} {g:Nat→PD} {v:PD} (h:j<n):Cu (tb n g) (0+(Int.toNat (j:Int))*2) v.av=tb n (t9 g j v):=by
 rw[Int.toNat_natCast,Nat.zero_add]
 unfold tb
 rw[fD (e:=PD.av) (sz:=2) (fun _=>rfl) _ j v (by simpa using h)]
 congr 1
 refine List.ext_getElem (by simp) fun i k C=>?_
 rw[List.getElem_set]
 simp only[List.getElem_map,List.getElem_range,t9]
 by_cases e:j=i
 ·subst e;simp
 ·rw[if_neg e,if_neg (fun h=>e h.symm)]
theorem A3a (n:Nat):List.flatten (List.replicate n ([(.int .i64 0),(.int .i64 0)]:LA))=tb n fun _=>⟨0,0⟩:=by
 unfold tb
 induction n with
 | zero=>rfl
 | succ n k =>
  rw[List.replicate_succ',List.flatten_append,k,List.range_succ,List.map_append,List.flatMap_append];rfl
theorem Bat {n j:Nat} {g:Nat→PD} {v:PD} (h:j<n):setCells (tb n g) (0+(Int.toNat (j:Int))*2) v.av=tb n (t9 g j v):=mW h
theorem Bcx (p q:PD):setCells p.av 0 q.av=q.av:=rfl
theorem Asr (q:PD):setCells [(.int .i64 0),(.int .i64 0)] 0 q.av=q.av:=rfl
theorem A3b {p:PD} {f:Int→O R}:An .i64 p.av f=f p.lo:=Ay
theorem A3c {p:PD} {f:Int→O R}:An .i64 (List.drop 1 p.av) f=f p.hi:=Ay
theorem Ber (p q:PD):((Nat.beq (List.length p.av) 2)&&((Nat.ble 2 (List.length q.av))&&(!false)))=true:=rfl
theorem A8y (p:PD):((Nat.beq (List.length p.av) 2)&&((Nat.ble 2 2)&&(!false)))=true:=rfl
def Bu (ks:List Int) (h:Nat):Bool:=ks.getD h 0==2
theorem Fy {ks:List Int} {h:Nat} (k:h<ks.length):Bu ks h=(ks[h]==2):=by unfold Bu;rw[List.getD_eq_getElem?_getD,List.getElem?_eq_getElem k];rfl
section
variable (u:UnitD) (ks:List Int)
def La:Nat→Bool
 | 0=>u.state==2
 | h+1=>Bu ks h
def Sw:Nat→PD
 | 0=>cond (Bu ks 0) (cond (u.state==2) ⟨Gc u.min (u.output - u.rampDown),Bj u.max (u.output+u.rampUp)⟩ ⟨u.min,u.startRamp⟩) ⟨0,0⟩
 | h+1=>cond (Bu ks (h+1)) (cond (Bu ks h) ⟨Gc u.min ((Sw h).lo - u.rampDown),Bj u.max ((Sw h).hi+u.rampUp)⟩ ⟨u.min,u.startRamp⟩) ⟨0,0⟩
def Z4 (n h:Nat):PD:=cond (Bu ks h&&(decide (h+1<n)&&!Bu ks (h+1))) ⟨(Sw u ks h).lo,Bj (Sw u ks h).hi u.stopRamp⟩ (Sw u ks h)
def Bee (n:Nat):Nat→PD
 | 0=>Z4 u ks n (n - 1)
 | i+1=>cond (Bu ks (n - 2 - i)&&Bu ks (n - 1 - i)) ⟨Gc (Z4 u ks n (n - 2 - i)).lo ((Bee n i).lo - u.rampUp),Bj (Z4 u ks n (n - 2 - i)).hi ((Bee n i).hi+u.rampDown)⟩ (Z4 u ks n (n - 2 - i))
def Ge (n h:Nat):PD:=Bee u ks n (n - 1 - h)
theorem QL {n:Nat} (hn:0<n):Ge u ks n (n - 1)=Z4 u ks n (n - 1):=by unfold Ge;rw[Nat.sub_self];rfl
theorem Zf {n h:Nat} (k:h+1<n):Ge u ks n h=cond (Bu ks h&&Bu ks (h+1)) ⟨Gc (Z4 u ks n h).lo ((Ge u ks n (h+1)).lo - u.rampUp),Bj (Z4 u ks n h).hi ((Ge u ks n (h+1)).hi+u.rampDown)⟩ (Z4 u ks n h):=by
 unfold Ge
 rw[show n - 1 - h=(n - 1 - (h+1))+1 by omega,Bee,show n - 2 - (n - 1 - (h+1))=h by omega,show n - 1 - (n - 1 - (h+1))=h+1 by omega]
end
section
variable {u:UnitD} {ks:List Int} {n:Nat}
structure UOk (u:UnitD):Prop where
 a:0≤u.min∧u.min≤u.max∧u.max≤1048576
 b:0≤u.rampUp∧u.rampUp≤1048576∧0≤u.rampDown∧u.rampDown≤1048576
 c:u.min≤u.startRamp∧u.startRamp≤u.max∧u.min≤u.stopRamp∧u.stopRamp≤u.max
 d:u.state=2→u.min≤u.output∧u.output≤u.max
theorem qu (g:UOk u):∀ h,0≤(Sw u ks h).lo∧(Sw u ks h).lo≤1048576∧0≤(Sw u ks h).hi∧(Sw u ks h).hi≤1048576∧(Bu ks h=true→u.min≤(Sw u ks h).lo∧(Sw u ks h).lo≤u.max∧u.min≤(Sw u ks h).hi∧(Sw u ks h).hi≤u.max)
 | 0=>by
  obtain⟨a,b,c,d⟩:=g
  unfold Sw
  cases Bu ks 0 with
  | false=>simp
  | true =>
   by_cases hs:u.state=2
   ·have:=d hs;rw[show(u.state==2)=true by simpa using hs];simp only[cond_true,Ey,H6];omega
   ·rw[show(u.state==2)=false by simpa using hs];simp only[cond_true,cond_false];omega
 | h+1=>by
  have k:=qu g h
  obtain⟨a,b,c,d⟩:=g
  rw[Sw]
  cases Bu ks (h+1) with
  | false=>simp
  | true =>
   cases C:Bu ks h with
   | true=>have:=k.2.2.2.2 C;simp only[cond_true,Ey,H6];omega
   | false=>simp only[cond_true,cond_false];omega
theorem zX (g:UOk u) (h:Nat):(Z4 u ks n h).lo=(Sw u ks h).lo∧(Z4 u ks n h).hi≤(Sw u ks h).hi∧0≤(Z4 u ks n h).hi∧(Bu ks h=true→u.min≤(Z4 u ks n h).hi):=by
 have k:=qu (ks:=ks) g h
 obtain⟨a,b,c,d⟩:=g
 unfold Z4
 cases C:Bu ks h<;>cases decide (h+1<n)<;>cases Bu ks (h+1)<;>simp only[Bool.and_true,Bool.true_and,Bool.not_true,Bool.not_false,Bool.and_false,Bool.false_and,cond_true,cond_false,Ey]<;>(have:=k.2.2.2.2;simp[C] at this ⊢;try omega)
theorem A3d {h:Nat} (k:Bu ks (h+1)=true):Z4 u ks n h=Sw u ks h:=by unfold Z4;rw[k];simp
theorem tc (g:UOk u):∀ (i h:Nat),h+i+1=n→(Z4 u ks n h).lo≤(Ge u ks n h).lo∧(Ge u ks n h).hi≤(Z4 u ks n h).hi∧(Ge u ks n h).lo≤1048576∧0≤(Ge u ks n h).hi
 | 0,h,hi=>by
  rw[show h=n - 1 by omega,QL _ _ (by omega)]
  have:=zX (ks:=ks) (n:=n) g (n - 1);have:=qu (ks:=ks) g (n - 1);omega
 | i+1,h,hi=>by
  have k:=tc g i (h+1) (by omega)
  have:=zX (ks:=ks) (n:=n) g h;have:=qu (ks:=ks) g h
  have C:=g.b
  rw[Zf u ks (by omega)]
  cases (Bu ks h&&Bu ks (h+1)) with
  | true=>simp only[cond_true,Ey,H6];omega
  | false=>simp only[cond_false];omega
theorem A3e (g:UOk u) (C:∀ h,h<n→Bu ks h=true→(Z4 u ks n h).lo≤(Z4 u ks n h).hi):∀ (i h:Nat),h+i+1=n→Bu ks h=true→(Ge u ks n h).lo≤(Ge u ks n h).hi
 | 0,h,hi,k=>by
  rw[show h=n - 1 by omega,QL _ _ (by omega)]
  exact C _ (by omega) (by rw[show n - 1=h by omega];exact k)
 | i+1,h,hi,k=>by
  rw[Zf u ks (n:=n) (h:=h) (by omega),k,Bool.true_and]
  have F:=C h (by omega) k
  cases D:Bu ks (h+1) with
  | false=>exact F
  | true =>
   have G:=A3e g C i (h+1) (by omega) D
   have r:=tc (ks:=ks) (n:=n) g i (h+1) (by omega)
   have e:=zX (ks:=ks) (n:=n) g (h+1)
   have I:=g.b
   rw[A3d D] at F ⊢
   have f:Sw u ks (h+1)=⟨Gc u.min ((Sw u ks h).lo - u.rampDown),Bj u.max ((Sw u ks h).hi+u.rampUp)⟩:=by rw[Sw,D,k];rfl
   rw[f] at e
   simp only[Ey,H6] at e
   simp only[cond_true,Ey,H6];omega
def Ij (u:UnitD) (ks:List Int) (n:Nat):Bool:=(List.range n).any fun h=>Bu ks h&&decide ((Z4 u ks n h).lo>(Z4 u ks n h).hi)
theorem qv (g:UOk u):Ij u ks n=(List.range n).any fun h=>decide ((Ge u ks n h).lo>(Ge u ks n h).hi):=by
 cases k:Ij u ks n with
 | true =>
  symm
  unfold Ij at k
  rw[List.any_eq_true] at k ⊢
  obtain⟨h,C,I⟩:=k
  refine⟨h,C,?_⟩
  simp at I C ⊢
  have:=tc (ks:=ks) (n:=n) g (n - 1 - h) h (by omega)
  omega
 | false =>
  symm
  rw[List.any_eq_false]
  intro h C
  simp at C
  cases D:Bu ks h with
  | true =>
   have:=A3e g (ks:=ks) (n:=n) (fun h' F G=>by
    unfold Ij at k
    rw[List.any_eq_false] at k
    have:=k h' (by simpa using F)
    simp[G] at this;omega) (n - 1 - h) h (by omega) D
   simp;omega
  | false =>
   have e:Z4 u ks n h=⟨0,0⟩:=by
    unfold Z4;rw[D];simp only[Bool.false_and,cond_false]
    cases h<;>(rw[Sw,D];rfl)
   have:Ge u ks n h=⟨0,0⟩:=by
    by_cases L:h+1<n
    ·rw[Zf u ks L,D];exact e
    ·rw[show h=n - 1 by omega] at e ⊢
     rw[QL _ _ (by omega)];exact e
   rw[this];simp
end
end
end Gx

namespace Gx
open Go Go.Proofs
section
variable {R:Type}
structure PlanD where
 st:Sl Int
 en:Sl RatD
 re:Sl RatD
def PlanD.av (p:PlanD):LA:=[p.st.av 1 GC,p.en.av 3 RatD.av,p.re.av 3 RatD.av]
theorem p0 {p:PlanD} {f:LA→Nat→O R}:Co 1 p.av f=f (Av p.st.l) p.st.l.length:=by rw[←Fl];exact Hv
theorem p1 {p:PlanD} {f:LA→Nat→O R}:Co 3 (List.drop 1 p.av) f=f (p.en.l.flatMap RatD.av) p.en.l.length:=Hv
theorem p2 {p:PlanD} {f:LA→Nat→O R}:Co 3 (List.drop 2 p.av) f=f (p.re.l.flatMap RatD.av) p.re.l.length:=Hv
theorem Be4 (p:PlanD):Nat.ble 3 (List.length p.av)=true:=rfl
theorem Be5 (p:PlanD):List.take 3 p.av=p.av:=rfl
theorem Bbu (x:RatD) (r:LA):Nat.ble 3 (List.length (x.av++r))=true:=rfl
theorem A8z (x:RatD) (r:LA):List.take 3 (x.av++r)=x.av:=rfl
def okR (l:List RatD):Prop:=∀ x ∈ l,x.is x.q 4
theorem okR.at {l:List RatD} (h:okR l) {i:Nat} (hi:i<l.length):(l[i]).is (l[i]).q 4:=h _ (List.getElem_mem hi)
def uR (u:UnitD):Prop:=(0≤u.min∧u.min≤1048576)∧(0≤u.max∧u.max≤1048576)∧(0≤u.rampUp∧u.rampUp≤1048576)∧(0≤u.rampDown∧u.rampDown≤1048576)∧(0≤u.reserve∧u.reserve≤1048576)∧(0≤u.startRamp∧u.startRamp≤1048576)∧(0≤u.stopRamp∧u.stopRamp≤1048576)∧(0≤u.noLoad∧u.noLoad≤1048576)∧(0≤u.hotCost∧u.hotCost≤1048576)∧(0≤u.coldCost∧u.coldCost≤1048576)∧(0≤u.reservePrice∧u.reservePrice≤1048576)∧(0≤u.output∧u.output≤1048576)
theorem UY {u:UnitD} {h:Int} (C:D3 u h=true):C2 u=true∧uR u∧(1≤h∧h≤24):=by
 simp only[D3,Bool.and_eq_true,Fc,decide_eq_true_eq] at C
 obtain⟨U,F,V,Y,h5,h6,h7,h8,h9,G,I,L,M,S,k,T⟩:=C
 refine⟨F,?_,by omega⟩
 have ho:0≤u.output∧u.output≤1048576:=by
  unfold A0j at k
  cases D:(u.state==2) with
  | true=>rw[D] at k;simp[Fc] at k;omega
  | false=>rw[D] at k;simp at k;omega
 unfold uR;omega
def te (u:UnitD) (on:Bool) (e r:Rat):Bool:=cond on (decide ((u.min:Rat)≤e)&&(A0x r 0 u.reserve&&decide (e+r≤(u.max:Rat)))) (decide (e=0)&&decide (r=0))
def Aol (u:UnitD) (was on:Bool) (v e r:Rat):Bool:=cond (on&&was) (decide (e+r - v≤(u.rampUp:Rat))&&decide (v - e≤(u.rampDown:Rat))) (cond on (decide (e+r≤(u.startRamp:Rat))) (cond was (decide (v≤(u.stopRamp:Rat))) true))
theorem Aom {q:Rat}:(q.num.sign==0)=decide (q=0):=by
 rw[Bool.eq_iff_iff];simp[Int.sign_eq_zero_iff_zero,Rat.num_eq_zero]
section
variable {N:Nat} {K:Bool→O R} {x y z:RatD} {e r v:Rat} {m:Nat} {o o' o'':Bool} {u:UnitD} {c:Int}
theorem Bdx (k:x.is e m) (C:fit m N) {K:Int→O R}:Rs N x.av o K=K e.num.sign:=by
 rw[Lr k.1 (C.le k.2.2),k.2.1]
theorem Zg (D:x.is e m) (k:-9223372036854775808≤c∧c≤9223372036854775807) (C:fit (4*(m+2)+10) N):P8 N x.av o c K=K (decide (e≤(c:Rat))):=by
 rw[kU];unfold mQ
 rw[b3,ct,Akq]
 refine P3 k (by have:=C.1;omega) fun a F=>?_
 rw[A6f D (F.is (qi k)) C,A0w]
theorem A3f {X:O R} {K:LA→O R} {n:Nat} (k:x.is e m) (C:y.is r n) (F:fit (8*(m+n)+40) N) (h:∀ d:RatD,d.can (e+r)→K d.av=X):Zu N x.av o y.av o' K=X:=by
 obtain⟨d,D,e'⟩:=tC (R:=R) (N:=N) (o:=o) (o':=o') k.1 C.1 (F.le (by have:=k.2.2;have:=C.2.2;omega))
 rw[e'];exact h d (by rw[k.2.1,C.2.1] at D;exact D)
theorem zY {on:Bool} (C:x.is e 4) (D:y.is r 4) (F:uR u) (k:fit 2000 N):Rk N u.av o'' on x.av o y.av o' K=K (te u on e r):=by
 unfold uR at F
 have G:=Agi e r
 have:=C.qm;have:=D.qm
 rw[K_];unfold GU te
 simp only[b3,Akq,ct,u2,u3,Bd9]
 cases on with
 | false =>
  rw[show(!false)=true from rfl,ct,Bdx C (k.le (by omega)),Bdx D (k.le (by omega)),Aom,Aom]
  cases decide (e=0)<;>rfl
 | true =>
  rw[show(!true)=false from rfl,cf]
  refine P3 (by omega) (by have:=k.1;omega) fun a I=>?_
  rw[A6f C (I.is (qi (by omega))) (k.le (by omega)),A0v,dw D (by omega) (by omega) (k.le (by omega)) (by have:=k.1;omega)]
  rw[A3f (X:=K (decide (e+r≤(u.max:Rat)))) C D (k.le (by omega)) fun d L=>by rw[Zg (L.is (m:=12) (by omega)) (by omega) (k.le (by omega))];rfl]
  cases decide ((u.min:Rat)≤e)<;>cases A0x r 0 u.reserve<;>rfl
theorem Ah2 {was on:Bool} (D:z.is v 4) (F:x.is e 4) (G:y.is r 4) (I:uR u) (k:fit 2000 N) {L M S:Bool}:P9 N u.av o'' was on z.av L x.av M y.av S K=K (Aol u was on v e r):=by
 unfold uR at I
 have T:=Agi e r;have U:=mJ (e+r) v;have V:=mJ v e
 have:=F.qm;have:=G.qm;have:=D.qm
 rw[P'];unfold X5
 rw[b3,ct,b3,ct,Akq,Akq]
 refine A3f F G (k.le (by omega)) fun d Y=>?_
 have C:d.is (e+r) 12:=Y.is (by omega)
 rw[c3,ct]
 unfold R7 Aol
 simp only[b3,Akq,ct,u6,u7,u8,u9]
 rw[Zg C (by omega) (k.le (by omega)),Zg D (by omega) (k.le (by omega))]
 rw[Are (X:=cond (decide (e+r - v≤(u.rampUp:Rat))) (K (decide (v - e≤(u.rampDown:Rat)))) (K false)) C D (k.le (by omega)) fun a ha=>by
  rw[Zg (ha.is (m:=20) (by omega)) (by omega) (k.le (by omega))]
  rw[Are (X:=K (decide (v - e≤(u.rampDown:Rat)))) D F (k.le (by omega)) fun b hb=>by rw[Zg (hb.is (m:=20) (by omega)) (by omega) (k.le (by omega))];rfl]
  cases decide (e+r - v≤(u.rampUp:Rat))<;>rfl]
 cases on<;>cases was<;>(try rfl)
 cases decide (e+r - v≤(u.rampUp:Rat))<;>rfl
end
end
end Gx

namespace Gx
open Go Go.Proofs
section
variable {R:Type}
def A80 (u:UnitD):Int→StD→Bool→Rat→List Int→List RatD→List RatD→Int×Int
 | h,s,was,v,k::ks,e::es,r::rs=>match GY u h s k with
  | none=>(h,16)
  | some t=>cond (te u (k==2) e.q r.q) (cond (Aol u was (k==2) v e.q r.q) (A80 u (h+1) t (k==2) e.q ks es rs) (h,64)) (h,3)
 | h,_,_,_,_,_,_=>(h,0)
section
variable {N n:Nat} {K:Int→Int→O R} {u:UnitD} {p:PlanD} {f e:Bool}
theorem Alc {j lf:Int} (hN:1100≤N) (hf:fit 2000 N) (hs:C2 u=true) (hu:uR u) (hk:p.st.l.length=n) (he:p.en.l.length=n) (hr:p.re.l.length=n) (hn:n≤1000) (oe:okR p.en.l) (or:okR p.re.l):∀ (m h fuel:Nat) (s:StD) (was:Bool) (v:Rat) (x:RatD) (g:Bool),h+m=n→m<fuel→Z3 u s→x.is v 4 →
  lf=cond (Fr u h s (p.st.l.drop h)).2 0 16→((Fr u h s (p.st.l.drop h)).2=false→j=h+(Fr u h s (p.st.l.drop h)).1.length) →
  K8 N K (n:Int) j lf f u.av e p.av fuel was (h:Int) g x.av=K (A80 u h s was v (p.st.l.drop h) (p.en.l.drop h) (p.re.l.drop h)).1 (A80 u h s was v (p.st.l.drop h) (p.en.l.drop h) (p.re.l.drop h)).2:=by
 intro m
 induction m with
 | zero =>
  intro h fuel s was v x g hh U _ _ _ _
  obtain⟨fuel,rfl⟩:∃ k,fuel=k+1:=⟨fuel - 1,by omega⟩
  rw[K8];unfold CT
  rw[Ku (by omega),cf,E9 (l:=p.st.l) (by omega),A80,show n=h by omega]
  ·intro k ks e es r rs L;cases L
 | succ m ih =>
  intro h fuel s was v x g hh U V hx C F
  obtain⟨fuel,rfl⟩:∃ k,fuel=k+1:=⟨fuel - 1,by omega⟩
  rw[K8];unfold CT
  have L:h<p.st.l.length:=by omega
  have S:h<p.en.l.length:=by omega
  have T:h<p.re.l.length:=by omega
  have e1:=oe.at S
  have r1:=or.at T
  rw[C5 L,C5 S,C5 T,A80]
  rw[C5 L,Fr] at C F
  rw[Jh (by omega),ct]
  cases D:GY u h s p.st.l[h] with
  | none =>
   rw[D] at C F
   have G:=F rfl
   simp only[cond_false] at C
   subst C
   rw[show(((16:Int) != 0)==true)=true from rfl,ct,show(cond true (decide ((h:Int)≥j)) false)=true by rw[Au4];simp at G;simp;omega,ct]
  | some t =>
   rw[D] at C F
   dsimp only at C F ⊢
   have hok:=Ahz hs V D
   have I:∀ Y:O R,(cond ((lf != (0:Int))==true) (cond (cond true (decide ((h:Int)≥j)) false) (K (h:Int) 16) Y) Y)=Y:=by
    intro Y
    cases M:(Fr u ((h:Int)+1) t (p.st.l.drop (h+1))).2 with
    | true=>rw[M] at C;subst C;rfl
    | false =>
     have G:=F M
     rw[M] at C;subst C
     rw[show(cond true (decide ((h:Int)≥j)) false)=false by rw[Au4];simp at G;simp;omega];rfl
   rw[I]
   unfold LC
   simp only[p0,p1,p2,Aa L,Aa S,Aa T,Cj L,A1n S,A1n T,Bbu,A8z,Dr,B8,b3,Akq,ct]
   rw[zY e1 r1 hu hf,Ah2 hx e1 r1 hu hf]
   cases te u (p.st.l[h]==2) p.en.l[h].q p.re.l[h].q with
   | false=>rfl
   | true =>
    rw[show(!true)=false from rfl,cf]
    cases Aol u was (p.st.l[h]==2) v p.en.l[h].q p.re.l[h].q with
    | false=>rfl
    | true =>
     rw[show(!true)=false from rfl,cf,show ∀ y:RatD,((Nat.beq (List.length y.av) 3)&&(true&&(!false)))=true from fun _=>rfl,ct,A8m,wS (by omega)]
     rw[ih (h+1) fuel t (p.st.l[h]==2) p.en.l[h].q p.en.l[h] (g||e) (by omega) (by omega) hok.1 e1 (by simpa using C) (by intro M;have:=F (by simpa using M);simp at this ⊢;omega)]
     rfl
end
end
end Gx

namespace Gx
open Go Go.Proofs
section
variable {R:Type}
section
variable {u:UnitD} {ks:List Int} {n:Nat}
def gF (u:UnitD) (ks:List Int) (p:Nat):Nat→PD:=fun i=>if i<p then Sw u ks i else ⟨0,0⟩
def A6o (u:UnitD) (ks:List Int):Nat→PD
 | 0=>⟨u.output,u.output⟩
 | p+1=>Sw u ks p
theorem A3g {p:Nat}:tb n (t9 (gF u ks p) p (Sw u ks p))=tb n (gF u ks (p+1)):=Ga fun i _=>by
 unfold t9 gF
 by_cases h:i=p
 ·subst h;simp
 ·rw[if_neg h]
  by_cases k:i<p
  ·rw[if_pos k,if_pos (by omega)]
  ·rw[if_neg k,if_neg (by omega)]
theorem A81 {p:Nat} (h:Bu ks p=true):Sw u ks p=cond (La u ks p) ⟨Gc u.min ((A6o u ks p).lo - u.rampDown),Bj u.max ((A6o u ks p).hi+u.rampUp)⟩ ⟨u.min,u.startRamp⟩:=by
 cases p<;>(rw[Sw,h];rfl)
theorem th {p:Nat} (h:Bu ks p=false):Sw u ks p=⟨0,0⟩:=by cases p<;>(rw[Sw,h];rfl)
theorem Bes (g:UOk u) (k:uR u) (p:Nat):-1048576≤(A6o u ks p).lo∧(A6o u ks p).lo≤1048576∧-1048576≤(A6o u ks p).hi∧(A6o u ks p).hi≤1048576:=by
 cases p with
 | zero=>unfold uR at k;rw[show A6o u ks 0=⟨u.output,u.output⟩ from rfl];simp only;omega
 | succ p=>have:=qu (ks:=ks) g p;rw[show A6o u ks (p+1)=Sw u ks p from rfl];omega
theorem Bcy {p:Nat} (h:Bu ks p=false):tb n (gF u ks p)=tb n (gF u ks (p+1)):=Ga fun i _=>by
 unfold gF
 by_cases k:i<p
 ·rw[if_pos k,if_pos (by omega)]
 ·rw[if_neg k]
  by_cases C:i=p
  ·subst C;rw[if_pos (by omega),th h]
  ·rw[if_neg (by omega)]
theorem Bcz {N:Nat} {k0:Nat→Bool→Int→LA→LA→O R} {K:Nat→LA→O R} {g i l:Bool} {p:Nat} (ok:UOk u) (F:uR u) (k:p<n) (hn:n≤1000) :
  Rb N k0 K (Av ks) n g i n (n:Int) l u.av (tb n (gF u ks p)) (A6o u ks p).av (p:Int) (Bu ks p) (p:Int) (Bu ks p&&La u ks p)=k0 n (Bu ks p) ((p+1:Nat):Int) (tb n (gF u ks (p+1))) (Sw u ks p).av:=by
 have I:=Bes (ks:=ks) ok F p
 have L:=ok.b;have M:=ok.a
 unfold Rb
 have G:IntKind.wrap .i64 ((p:Int)+1)=((p+1:Nat):Int):=wS (by omega)
 simp only[u2,u3,u6,u7,u8,A3b,A3c,Aa k,ct,Aok k,G]
 rw[i64 (a:=(A6o u ks p).lo - u.rampDown) (by omega),i64 (a:=(A6o u ks p).hi+u.rampUp) (by omega)]
 have st:∀ v:PD,[(AV.int .i64 v.lo),(.int .i64 v.hi)]=v.av:=fun _=>rfl
 have s1:∀ (a b:Int),[(AV.int .i64 a),(.int .i64 b)]=(PD.mk a b).av:=fun _ _=>rfl
 simp only[s1,mW k,ta k,t_ k,ct,Ber,Bcx]
 cases C:Bu ks p with
 | false =>
  simp only[Bool.false_and,cf]
  rw[Bcy C,show gF u ks p p=Sw u ks p by unfold gF;rw[if_neg (by omega),th C]]
 | true =>
  rw[Bool.true_and]
  have e:=A81 (u:=u) C
  cases D:La u ks p with
  | true=>rw[D,cond_true] at e;rw[ct,←e,A3g,show t9 (gF u ks p) p (Sw u ks p) p=Sw u ks p by simp[t9]]
  | false=>rw[D,cond_false] at e;rw[cf,ct,←e,A3g,show t9 (gF u ks p) p (Sw u ks p) p=Sw u ks p by simp[t9]]
theorem Aw8 {N:Nat} {K:Nat→LA→O R} {g i l:Bool} (ok:UOk u) (C:uR u) (hn:n≤1000) (G:ks.length=n):∀ (m p fuel:Nat),p+m=n→m<fuel →
  Fu N K (Av ks) n g i (n:Int) l u.av fuel n (La u ks p) (p:Int) (tb n (gF u ks p)) (A6o u ks p).av=K n (tb n (Sw u ks))
 | 0,p,fuel+1,I,_=>by
  rw[Fu];unfold Uq
  rw[Ku (by omega),cf,Ga (g:=gF u ks p) (g':=Sw u ks) fun i hi=>by unfold gF;rw[if_pos (by omega)]]
 | m+1,p,fuel+1,I,M=>by
  rw[Fu];unfold Uq
  have h:p<n:=by omega
  have k:p<ks.length:=by omega
  rw[Jh h,ct,Aa h,ct,Cj k,←Fy k]
  have e:=Bcz (N:=N) (k0:=Fu N K (Av ks) n g i (n:Int) l u.av fuel) (K:=K) (g:=g) (i:=i) (l:=l) (ks:=ks) ok C h hn
  have D:=Aw8 (N:=N) (K:=K) (g:=g) (i:=i) (l:=l) ok C hn G m (p+1) fuel (by omega) (by omega)
  rw[show La u ks (p+1)=Bu ks p from rfl,show A6o u ks (p+1)=Sw u ks p from rfl] at D
  rw[D] at e
  cases F:Bu ks p with
  | true=>rw[F,Bool.true_and] at e;rw[show(true==true)=true from rfl,ct];cases L:La u ks p<;>(rw[L] at e;exact e)
  | false=>rw[F,Bool.false_and] at e;rw[show(false==true)=false from rfl,cf];exact e
theorem Ass {N:Nat} {K:Nat→LA→O R} {g i l:Bool} (ok:UOk u) (k:uR u) (hn:n≤1000) (C:ks.length=n) (hN:1100≤N):So N u.av l (n:Int) (Av ks) n g i K=K n (tb n (Sw u ks)):=by
 rw[GA];unfold JY
 rw[show((decide (0≤(n:Int)))&&((decide ((n:Int)≤(n:Int)))&&((decide ((n:Int)≤140737488355328))&&(decide (((n:Int)*((16:Nat):Int))≤140737488355328)))))=true by simp;omega,ct,A2s,A9z,A9z,Int.toNat_natCast,A3a]
 have:=Aw8 (N:=N) (K:=K) (g:=g) (i:=i) (l:=l) ok k hn C n 0 N (by omega) (by omega)
 rw[Ga (g:=gF u ks 0) (g':=fun _=>⟨0,0⟩) fun i _=>by unfold gF;rw[if_neg (by omega)]] at this
 exact this
def gB (u:UnitD) (ks:List Int) (n a:Nat):Nat→PD:=fun i=>if i<a then Sw u ks i else Ge u ks n i
theorem Bc0 {n:Nat}:tb n (gB u ks n 0)=tb n (Ge u ks n):=Ga fun i _=>by unfold gB;rw[if_neg (by omega)]
theorem Ast {n h:Nat} (D:h<n) (k:Bu ks h=false):Ge u ks n h=Sw u ks h:=by
 have e:Z4 u ks n h=Sw u ks h:=by unfold Z4;rw[k];rfl
 by_cases C:h+1<n
 ·rw[Zf u ks C,k];exact e
 ·rw[show h=n - 1 by omega,QL _ _ (by omega),←show h=n - 1 by omega];exact e
theorem Aw9 {N:Nat} {K:LA→O R} {g i l:Bool} (ok:UOk u) (S:uR u) (hn:n≤1000) (T:ks.length=n):∀ (m fuel:Nat),m<n→m<fuel →
  Ht N K n (Av ks) n g i l u.av fuel ((m:Int) - 1) (tb n (gB u ks n m))=K (tb n (Ge u ks n))
 | 0,fuel+1,_,_=>by
  rw[Ht];unfold Rx
  rw[show decide ((((0:Nat):Int) - 1)≥0)=false by simp,cf,Bc0]
 | m+1,fuel+1,F,hf=>by
  rw[Ht];unfold Rx
  have h:m<n:=by omega
  have k:m<ks.length:=by omega
  have C:m+1<ks.length:=by omega
  have I:=Aw9 (N:=N) (K:=K) (g:=g) (i:=i) (l:=l) ok S hn T m fuel (by omega) (by omega)
  have hb:=ok.b;have ha:=ok.a
  have f0:=qu (ks:=ks) ok m
  have r1:=tc (ks:=ks) (n:=n) ok (n - 1 - (m+1)) (m+1) (by omega)
  have r2:=zX (ks:=ks) (n:=n) ok (m+1)
  have f1:=qu (ks:=ks) ok (m+1)
  have em:(((m+1:Nat):Int) - 1)=(m:Int):=by omega
  rw[em,show decide ((m:Int)≥0)=true by simp,ct]
  have U:IntKind.wrap .i64 ((m:Int)+1)=((m+1:Nat):Int):=wS (by omega)
  have V:IntKind.wrap .i64 ((m:Int) - 1)=(m:Int) - 1:=i64 (by omega)
  have L:gB u ks n (m+1) m=Sw u ks m:=by unfold gB;rw[if_pos (by omega)]
  have Y:gB u ks n (m+1) (m+1)=Ge u ks n (m+1):=by unfold gB;rw[if_neg (by omega)]
  have up:∀ v:PD,v=Ge u ks n m→tb n (t9 (gB u ks n (m+1)) m v)=tb n (gB u ks n m):=fun v hv=>Ga fun i _=>by
   subst hv
   unfold t9 gB
   by_cases G:i=m
   ·subst G;rw[if_pos rfl,if_neg (by omega)]
   ·rw[if_neg G]
    by_cases D:i<m
    ·rw[if_pos (by omega),if_pos D]
    ·rw[if_neg (by omega),if_neg D]
  have s1:∀ (a b:Int),[(AV.int .i64 a),(.int .i64 b)]=(PD.mk a b).av:=fun _ _=>rfl
  rw[Aa h,ct,Cj k,U,V]
  have st:=Zf u ks (n:=n) (h:=m) (by omega)
  cases M:(ks[m] != 2) with
  | true =>
   have o:Bu ks m=false:=by rw[Fy k];simpa using M
   have:tb n (gB u ks n (m+1))=tb n (gB u ks n m):=by
    rw[←up _ rfl,Ast h o,←L]
    exact Ga fun i _=>by unfold t9;by_cases G:i=m<;>simp[G]
   rw[ct,this];exact I
  | false =>
   have o:Bu ks m=true:=by rw[Fy k];simpa using M
   rw[cf,ta h,ct,Aa F,ct,ta F,ct,t_ h,t_ F,A8y,ct,A8y,ct,ct,ct,Cj C,L,Y,Asr,Asr]
   simp only[A3b,A3c,u6,u7,u9,ct,s1,Aa h]
   rw[Aok h,ct,ct,mW h,mW h,i64 (a:=(Ge u ks n (m+1)).lo - u.rampUp) (by omega),i64 (a:=(Ge u ks n (m+1)).hi+u.rampDown) (by omega)]
   cases D:(ks[m+1] != 2) with
   | true =>
    have o2:Bu ks (m+1)=false:=by rw[Fy C];simpa using D
    rw[ct,up _ (by rw[st,o,o2,Bool.and_false,cond_false];unfold Z4;rw[o,o2,show decide (m+1<n)=true by simpa using F];rfl)]
    exact I
   | false =>
    have o2:Bu ks (m+1)=true:=by rw[Fy C];simpa using D
    rw[cf,up _ (by rw[st,o,o2,A3d o2];rfl)]
    exact I
theorem Ald {N:Nat} {K:LA→O R} {g i l:Bool} (ok:UOk u) (k:uR u) (hn:n≤1000) (C:0<n) (D:ks.length=n) (hN:1100≤N):Oj N u.av l n (Av ks) n g i (tb n (Sw u ks)) K=K (tb n (Ge u ks n)):=by
 rw[Zz];unfold CG
 have:=Aw9 (N:=N) (K:=K) (g:=g) (i:=i) (l:=l) ok k hn D (n - 1) N (by omega) (by omega)
 rw[i64 (by omega),show(n:Int) - 2=((n - 1:Nat):Int) - 1 by omega]
 rw[Ga (g:=Sw u ks) (g':=gB u ks n (n - 1)) fun i hi=>by
  unfold gB
  by_cases h:i<n - 1
  ·rw[if_pos h]
  ·rw[if_neg h,show i=n - 1 by omega,QL _ _ C];unfold Z4;rw[show decide (n - 1+1<n)=false by simp;omega];simp]
 exact this
end
end
end Gx

namespace Gx
open Go Go.Proofs
open IntKind (wrap)
set_option maxRecDepth 100000
noncomputable section
variable {R:Type} (N:Nat)
def ti (N:Nat) (d:LA) (b:Nat) (e f:Bool) (g:LA) (c:Nat) (i l:Bool) (r0:Bool→O R):O R :=
 (cond ((decide (((b:Nat):Int)≤200))==true) (r0 (cond true (decide (((c:Nat):Int)≤200)) false)) (r0 false))
def fE:=(Ah (@ti R)).1
theorem qw:@fE R=@ti R:=(Ah _).2
def xo (F:KF R):Bool→O R:=(fun m=>F (.bool m) [])
theorem xp (d:LA) (b:Nat) (e f:Bool) (g:LA) (c:Nat) (i l:Bool) (F:KF R):Ch [] Dj N 26 [(.imm d b 1 e f),(.imm g c 1 i l)] [] F=(fE N d b e f g c i l (xo F)):=by
 rw[qw]
 kernel_rfl
def qx (a:LA) (h:Am) (k:KF R):O R :=
 match a,h with
 | [(.imm d b 1 e f),(.imm g c 1 i l)],[]=>(fE N d b e f g c i l (xo k))
 | _,_=>none
theorem xq:Ap N 26 @qx:=by
 intro R Q a h k j;unfold qx;split;exact A0 (xp ..) (xp ..) trivial;exact A3
def Axa:=A1 (xq N)
def Axb:=Ce (xq N)
def Vf (k0:Nat→Int→LA→LA→O R) (r0:Nat→LA→O R) (f:Int) (g:LA) (e:Nat) (i l:Bool) (x:Nat) (c:Bool) (b d v:LA) (k2:Nat→Int→Nat→Int→LA→LA→O R) (r:Nat) (u:Int) (m:Nat) (t:Int) (w s:LA):O R :=
 (cond (decide (t<((x:Nat):Int))) (cond (Nat.ble 22 (b.length)) (cond (Ac t x) (An .i64 (v.drop (0+((t.toNat)*2))) fun ad=>(Tt N (b.take 22) c u ad (fun ae=>(cond ae (cond (Ac t x) (cond (Nat.ble 2 ((v.drop (0+((t.toNat)*2))).length)) (cond ((Nat.beq (((v.drop (0+((t.toNat)*2))).take 2).length) 2)&&(Nat.ble 2 2)) (cond ((Nat.ble (m+1) 140737488355328)&&(Nat.ble ((m+1)*16) 140737488355328)) (k2 r u (m+1) (wrap .i64 (t+1)) w ((s.take (m*2))++((setCells [(.int .i64 0),(.int .i64 0)] 0 ((v.drop (0+((t.toNat)*2))).take 2)).take 2))) none) none) none) none) (k2 r u m (wrap .i64 (t+1)) w s))))) none) none) (cond (((m:Nat):Int)==0) (r0 r w) (cond (decide (u<((e:Nat):Int))) (cond (Ac u e) (An .i64 (g.drop ((u.toNat)*1)) fun ab=>(cond (((m:Nat):Int)==0) none (cond (((m:Nat):Int)==0) none (cond (Ac (Int.tmod (wrap .i64 ((Int.tmod ab ((m:Nat):Int))+((m:Nat):Int))) ((m:Nat):Int)) m) (cond (Nat.ble 2 ((s.drop (0+(((Int.tmod (wrap .i64 ((Int.tmod ab ((m:Nat):Int))+((m:Nat):Int))) ((m:Nat):Int)).toNat)*2))).length)) (cond ((Nat.beq (((s.drop (0+(((Int.tmod (wrap .i64 ((Int.tmod ab ((m:Nat):Int))+((m:Nat):Int))) ((m:Nat):Int)).toNat)*2))).take 2).length) 2)&&((Nat.ble 2 (d.length))&&(!false))) (An .i64 (setCells d 0 ((s.drop (0+(((Int.tmod (wrap .i64 ((Int.tmod ab ((m:Nat):Int))+((m:Nat):Int))) ((m:Nat):Int)).toNat)*2))).take 2)) fun af=>(cond ((Nat.ble (r+1) 140737488355328)&&(Nat.ble ((r+1)*8) 140737488355328)) (k0 (r+1) (wrap .i64 (u+1)) ((w.take (r*1))++[(.int .i64 af)]) (setCells d 0 ((s.drop (0+(((Int.tmod (wrap .i64 ((Int.tmod ab ((m:Nat):Int))+((m:Nat):Int))) ((m:Nat):Int)).toNat)*2))).take 2))) none)) none) none) none)))) none) (cond (Ac 0 m) (cond (Nat.ble 2 (s.length)) (cond ((Nat.beq ((s.take 2).length) 2)&&((Nat.ble 2 (d.length))&&(!false))) (An .i64 (setCells d 0 (s.take 2)) fun ag=>(cond ((Nat.ble (r+1) 140737488355328)&&(Nat.ble ((r+1)*8) 140737488355328)) (k0 (r+1) (wrap .i64 (u+1)) ((w.take (r*1))++[(.int .i64 ag)]) (setCells d 0 (s.take 2))) none)) none) none) none))))
def Ni (k0:Nat→Int→LA→LA→O R) (r0:Nat→LA→O R) (f:Int) (g:LA) (e:Nat) (i l:Bool) (x:Nat) (c:Bool) (b d v:LA):Nat→Nat→Int→Nat→Int→LA→LA→O R
 | 0,_,_,_,_,_,_=>none
 | n+1,r,u,m,t,w,s=>(Vf N k0 r0 f g e i l x c b d v (Ni k0 r0 f g e i l x c b d v n) r u m t w s)
def GZ (k0:Nat→Int→LA→LA→O R) (r0:Nat→LA→O R) (f:Int) (g:LA) (e:Nat) (i l c:Bool) (b d:LA) (q2:Nat→LA→Nat→Int→Nat→Int→LA→LA→O R) (y:Nat) (z:Int) (aa:LA):O R :=
 (cond (Nat.ble 22 (b.length)) (cond (Nat.ble 2 (d.length)) (QG N (b.take 22) c (d.take 2) false (fun x v=>(q2 x v y z 0 0 aa []))) none) none)
def X7 (k0:Nat→Int→LA→LA→O R) (r0:Nat→LA→O R) (f:Int) (g:LA) (e:Nat) (i l c:Bool) (b d:LA) (y:Nat) (z:Int) (aa:LA):O R:=(GZ N k0 r0 f g e i l c b d (fun x v r u m t w s=>(Ni N k0 r0 f g e i l x c b d v N r u m t w s)) y z aa)
def Vg (r0:Nat→LA→O R) (f:Int) (g:LA) (e:Nat) (i l c:Bool) (b:LA) (k0:Nat→Int→LA→LA→O R) (q1:Nat→Int→LA→O R) (o:Nat) (q:Int) (p d:LA):O R :=
 (cond ((decide (q<f))==true) (cond (Nat.ble 22 (b.length)) (Kl N (b.take 22) c (fun ah=>(cond (cond true ah false) (q1 o q p) (r0 o p)))) none) (r0 o p))
def Ha (r0:Nat→LA→O R) (f:Int) (g:LA) (e:Nat) (i l c:Bool) (b:LA):Nat→Nat→Int→LA→LA→O R
 | 0,_,_,_,_=>none
 | n+1,o,q,p,d=>(Vg N r0 f g e i l c b (Ha r0 f g e i l c b n) (fun y z aa=>(X7 N (Ha r0 f g e i l c b n) r0 f g e i l c b d y z aa)) o q p d)
def LF (r0:Nat→LA→O R) (q0:Nat→Int→LA→LA→O R) (b:LA) (c:Bool) (f:Int) (g:LA) (e:Nat) (i l:Bool):O R :=
 (cond (Nat.ble 22 (b.length)) (Ts N (b.take 22) c (fun ac=>(cond ((Nat.beq (ac.length) 2)&&((Nat.ble 2 2)&&(!false))) (q0 0 0 [] (setCells [(.int .i64 0),(.int .i64 0)] 0 ac)) none))) none)
def W4:=(Ah (fun (N:Nat) (b:LA) (c:Bool) (f:Int) (g:LA) (e:Nat) (i l:Bool) (r0:Nat→LA→O R)=>(LF N r0 (fun o q p d=>(Ha N r0 f g e i l c b N o q p d)) b c f g e i l))).1
theorem fF (b c f g e i l r0):(@W4 R N b c f g e i l r0)=(LF N r0 (fun o q p d=>(Ha N r0 f g e i l c b N o q p d)) b c f g e i l):=by rw[W4,(Ah _).2]
def k8:Hints:={ H:=(hS hL (hS hL (hS hL (hS (hS hL (hS (hP [1,2,3,7,8,9] (hJ [1,2,3,7,8,9] hL (hS (hS (hS hL (hS hL (hS (hS hL (hS (hP [1,2,3,7,8,9,10,11,12] hL) hL)) hL))) hL) hL))) hL)) hL)))),nils:=[(6,1),(7,1),(10,2)],modes:=[(2,1)] }
def qy:D9:=[(113,ef N),(52,Pw N),(114,xd N),(115,ex N)]
def MM (F:KF R):=Jw Tryz.f62 k8 (qy N) [] N F
def Em (F:KF R):Nat→LA→O R:=(fun ai aj=>F (.own 300000 0 ai) (hq [(bQ 1 aj)]))
def Ale (f:Int) (g:LA) (e:Nat) (i l:Bool) (x:Nat) (c:Bool) (b d v:LA) (r:Nat) (u:Int) (m:Nat) (t:Int) (w s:LA):St:=⟨[(1,(iv f)),(2,(.imm g e 1 i l)),(3,(op 0)),(7,(.own 300001 0 r)),(8,(op 2)),(9,(iv u)),(10,(.own 300003 0 m)),(11,(.own 300004 0 x)),(12,(iv t))],(hq [(bP c 0 b),(bQ 1 w),(bQ 0 d),(bQ 2 s),(bQ 2 v)])⟩
def Alf (F:KF R) (Q0:St→O R):=MM N F [1,1,1,0,1,0,0,1,0,0,1,1,0,1,0] [Q0]
def Alg (f:Int) (g:LA) (e:Nat) (i l c:Bool) (b d:LA) (y:Nat) (z:Int) (aa:LA):St:=⟨[(1,(iv f)),(2,(.imm g e 1 i l)),(3,(op 0)),(7,(.own 300001 0 y)),(8,(op 2)),(9,(iv z))],(hq [(bP c 0 b),(bQ 1 aa),(bQ 0 d)])⟩
def Alh (F:KF R) (Q0:St→O R):=MM N F [1,1,1,0,1,0,0,1] [Q0]
def Rl (f:Int) (g:LA) (e:Nat) (i l c:Bool) (b:LA) (o:Nat) (q:Int) (p d:LA):St:=⟨[(1,(iv f)),(2,(.imm g e 1 i l)),(3,(op 0)),(7,(.own 300001 0 o)),(8,(op 2)),(9,(iv q))],(hq [(bP c 0 b),(bQ 1 p),(bQ 0 d)])⟩
def k_ (F:KF R):=MM N F [1,1,1,0,1,0] []
theorem QM (Q0:St→O R) (F:KF R) (f:Int) (g:LA) (e:Nat) (i l:Bool) (x:Nat) (c:Bool) (b d v:LA):∀ (n r:Nat) (u:Int) (m:Nat) (t:Int) (w s:LA),Ao (Alf N F Q0) n (Ale f g e i l x c b d v r u m t w s)=(Ni N (fun o q p d=>Q0 (Rl f g e i l c b o q p d)) (Em F) f g e i l x c b d v n r u m t w s)
 | 0,_,_,_,_,_,_=>by kernel_rfl
 | n+1,r,u,m,t,w,s=>Eq.trans (by kernel_rfl) (Bp (Vf N (fun o q p d=>Q0 (Rl f g e i l c b o q p d)) (Em F) f g e i l x c b d v · r u m t w s) (funext fun r=>funext fun u=>funext fun m=>funext fun t=>funext fun w=>funext fun s=>(QM Q0 F f g e i l x c b d v n r u m t w s)):_)
theorem tj (Q0:St→O R) (F:KF R) (f:Int) (g:LA) (e:Nat) (i l c:Bool) (b d:LA):∀ (y:Nat) (z:Int) (aa:LA),A9 (Alh N F Q0) (Alg f g e i l c b d y z aa)=(X7 N (fun o q p d=>Q0 (Rl f g e i l c b o q p d)) (Em F) f g e i l c b d y z aa):=by
 intro y z aa
 exact Eq.trans (by kernel_rfl) (Bp (GZ N (fun o q p d=>Q0 (Rl f g e i l c b o q p d)) (Em F) f g e i l c b d · y z aa) (funext fun x=>funext fun v=>funext fun r=>funext fun u=>funext fun m=>funext fun t=>funext fun w=>funext fun s=>(Aj ..).trans (QM N Q0 F f g e i l x c b d v N r u m t w s)):_)
theorem QN (F:KF R) (f:Int) (g:LA) (e:Nat) (i l c:Bool) (b:LA):∀ (n o:Nat) (q:Int) (p d:LA),Ao (k_ N F) n (Rl f g e i l c b o q p d)=(Ha N (Em F) f g e i l c b n o q p d)
 | 0,_,_,_,_=>by kernel_rfl
 | n+1,o,q,p,d=>have e0:=(funext fun o=>funext fun q=>funext fun p=>funext fun d=>(QN F f g e i l c b n o q p d))
  Eq.trans (by kernel_rfl) (VS (Vg N (Em F) f g e i l c b · · o q p d) e0 (funext fun y=>funext fun z=>funext fun aa=>(At ..).trans ((tj N (Ao (k_ N F) n) F f g e i l c b d y z aa).trans (Bp (X7 N · (Em F) f g e i l c b d y z aa) e0))):_)
theorem kc (b:LA) (c:Bool) (f:Int) (g:LA) (e:Nat) (i l:Bool) (F:KF R):Ch (qy N) k8 N 62 [(.pagg b c),(iv f),(.imm g e 1 i l)] [] F=(W4 N b c f g e i l (Em F)):=by
 rw[fF]
 exact Eq.trans (by kernel_rfl) (Bp (LF N (Em F) · b c f g e i l) (funext fun o=>funext fun q=>funext fun p=>funext fun d=>(Aj ..).trans (QN N F f g e i l c b N o q p d)):_)
def fG (a:LA) (h:Am) (k:KF R):O R :=
 match a,h with
 | [(.pagg b c),(.int .i64 f),(.imm g e 1 i l)],[]=>(W4 N b c f g e i l (Em k))
 | _,_=>none
theorem ke:Ap N 62 @fG:=by
 intro R Q a h k j;unfold fG;split;exact A0 (kc ..) (kc ..) ⟨eg N,Px N,xe N,ey N,trivial⟩;exact A3
def Ali:=A1 (ke N)
def Alj:=Ce (ke N)
end
end Gx

namespace Gx
open Go Go.Proofs
open IntKind (wrap)
set_option maxRecDepth 100000
noncomputable section
variable {R:Type} (N:Nat)
def fH (N:Nat) (r0:LA→O R) (g n:Int) (d:Bool) (b:LA) (o:Bool):O R :=
 (cond o (An .i64 (b.drop 21) fun q=>(An .i64 (b.drop 7) fun r=>(An .i64 (b.drop 21) fun s=>(An .i64 (b.drop 6) fun t=>(r0 [(.int .i64 (Gc n (wrap .i64 (q - r)))),(.int .i64 (Bj g (wrap .i64 (s+t))))]))))) (r0 [(.int .i64 n),(.int .i64 g)]))
def UZ (N:Nat) (r0:LA→O R) (c:Int) (d:Bool) (b:LA) (q2:Int→Bool→O R) (g:Int):O R :=
 (An .i64 (b.drop 2) fun n=>(cond ((c==0)==true) (An .i64 (b.drop 19) fun u=>(q2 n (cond true (u==2) false))) (q2 n false)))
def LG (r0:LA→O R) (c:Int) (d:Bool) (b:LA) (g:Int):O R:=(UZ N r0 c d b (fun n o=>(fH N r0 g n d b o)) g)
def U_ (N:Nat) (r0:LA→O R) (f:LA) (e:Nat) (i l:Bool) (c:Int) (d:Bool) (b:LA) (q1:Int→O R) (m:Int):O R :=
 (cond ((decide ((wrap .i64 (c+1))<((e:Nat):Int)))==true) (cond (Ac (wrap .i64 (c+1)) e) (An .i64 (f.drop (((wrap .i64 (c+1)).toNat)*1)) fun v=>(cond (cond true (v != 2) false) (An .i64 (b.drop 9) fun w=>(q1 (Bj m w))) (q1 m))) none) (q1 m))
def Zh (r0:LA→O R) (f:LA) (e:Nat) (i l:Bool) (c:Int) (d:Bool) (b:LA) (m:Int):O R:=(U_ N r0 f e i l c d b (fun g=>(LG N r0 c d b g)) m)
def gR (N:Nat) (r0:LA→O R) (q0:Int→O R) (b:LA) (d:Bool) (f:LA) (e:Nat) (i l:Bool) (c:Int):O R :=
 (An .i64 (b.drop 3) fun p=>(cond ((c==0)==true) (An .i64 (b.drop 19) fun x=>(cond ((cond true (x != 2) false)==false) (cond ((decide (c>0))==true) (cond (Ac (wrap .i64 (c - 1)) e) (An .i64 (f.drop (((wrap .i64 (c - 1)).toNat)*1)) fun y=>(cond (cond false true (cond true (y != 2) false)) (An .i64 (b.drop 8) fun z=>(q0 (Bj p z))) (q0 p))) none) (q0 p)) (An .i64 (b.drop 8) fun aa=>(q0 (Bj p aa))))) (cond ((decide (c>0))==true) (cond (Ac (wrap .i64 (c - 1)) e) (An .i64 (f.drop (((wrap .i64 (c - 1)).toNat)*1)) fun ab=>(cond (cond false true (cond true (ab != 2) false)) (An .i64 (b.drop 8) fun ac=>(q0 (Bj p ac))) (q0 p))) none) (q0 p))))
def QO:=(Ah (fun (N:Nat) (b:LA) (d:Bool) (f:LA) (e:Nat) (i l:Bool) (c:Int) (r0:LA→O R)=>(gR N r0 (fun m=>(Zh N r0 f e i l c d b m)) b d f e i l c))).1
theorem qz (b d f e i l c r0):(@QO R N b d f e i l c r0)=(gR N r0 (fun m=>(Zh N r0 f e i l c d b m)) b d f e i l c):=by rw[QO,(Ah _).2]
def xr:Hints:={ H:=(hS hL (hS hL (hJ [1,2,3,6,7] hL (hJ [2,3,6,7] hL (hS hL (hS (hJ [3,6,7,8,59] hL hL) hL)))))),modes:=[(3,0)] }
def fI (F:KF R):=Jw Tryz.f68 xr [] [] N F
def Lb (F:KF R):LA→O R:=(fun ad=>F (.pagg ad false) [])
def Axc (g n:Int) (d:Bool) (b:LA) (o:Bool):St:=⟨[(3,(op 0)),(6,(op 1)),(7,(iv g)),(8,(iv n)),(59,(.bool o))],(hq [(bP d 0 b),(bQ 0 [(iv 0),(iv 0)])])⟩
def Axd (F:KF R):=fI N F [1,1,1,1,1,0,1] []
def Axe (c:Int) (d:Bool) (b:LA) (g:Int):St:=⟨[(2,(iv c)),(3,(op 0)),(6,(op 1)),(7,(iv g))],(hq [(bP d 0 b),(bQ 0 [(iv 0),(iv 0)])])⟩
def Axf (F:KF R):=fI N F [1,1,1,1] []
def Axg (f:LA) (e:Nat) (i l:Bool) (c:Int) (d:Bool) (b:LA) (m:Int):St:=⟨[(1,(.imm f e 1 i l)),(2,(iv c)),(3,(op 0)),(6,(op 1)),(7,(iv m))],(hq [(bP d 0 b),(bQ 0 [(iv 0),(iv 0)])])⟩
def Axh (F:KF R):=fI N F [1,1,1] []
theorem Ah3 (F:KF R) (g n:Int) (d:Bool) (b:LA):∀ (o:Bool),A9 (Axd N F) (Axc g n d b o)=(fH N (Lb F) g n d b o):=by
 intro o
 kernel_rfl
theorem Ah4 (F:KF R) (c:Int) (d:Bool) (b:LA):∀ (g:Int),A9 (Axf N F) (Axe c d b g)=(LG N (Lb F) c d b g):=by
 intro g
 exact Eq.trans (by kernel_rfl) (Bp (UZ N (Lb F) c d b · g) (funext fun n=>funext fun o=>(At ..).trans (Ah3 N F g n d b o)):_)
theorem Ah5 (F:KF R) (f:LA) (e:Nat) (i l:Bool) (c:Int) (d:Bool) (b:LA):∀ (m:Int),A9 (Axh N F) (Axg f e i l c d b m)=(Zh N (Lb F) f e i l c d b m):=by
 intro m
 exact Eq.trans (by kernel_rfl) (Bp (U_ N (Lb F) f e i l c d b · m) (funext fun g=>(At ..).trans (Ah4 N F c d b g)):_)
theorem xt (b:LA) (d:Bool) (f:LA) (e:Nat) (i l:Bool) (c:Int) (F:KF R):Ch [] xr N 68 [(.pagg b d),(.imm f e 1 i l),(iv c)] [] F=(QO N b d f e i l c (Lb F)):=by
 rw[qz]
 exact Eq.trans (by kernel_rfl) (Bp (gR N (Lb F) · b d f e i l c) (funext fun m=>(At ..).trans (Ah5 N F f e i l c d b m)):_)
def rA (a:LA) (h:Am) (k:KF R):O R :=
 match a,h with
 | [(.pagg b d),(.imm f e 1 i l),(.int .i64 c)],[]=>(QO N b d f e i l c (Lb k))
 | _,_=>none
theorem xu:Ap N 68 @rA:=by
 intro R Q a h k j;unfold rA;split;exact A0 (xt ..) (xt ..) trivial;exact A3
def Axi:=A1 (xu N)
def Axj:=Ce (xu N)
def Z5 (N:Nat) (k1:Nat→Int→LA→O R) (r0:Nat→Int→LA→O R) (l:Int) (d:LA) (c:Nat) (g f:Bool) (i:Nat) (m:Int) (e:Bool) (b u:LA):O R :=
 (cond (Ac m i) (An .i64 (u.drop (0+((m.toNat)*2))) fun x=>(cond (Ac m i) (An .i64 (u.drop ((0+((m.toNat)*2))+1)) fun y=>(cond (decide (x>y)) (r0 0 7 []) (k1 i (wrap .i64 (m+1)) u))) none)) none)
def W5 (N:Nat) (k1:Nat→Int→LA→O R) (r0:Nat→Int→LA→O R) (l:Int) (d:LA) (c:Nat) (g f:Bool) (i:Nat) (m:Int) (e:Bool) (b:LA) (q4:LA→O R) (t:Bool) (q:LA):O R :=
 (cond t (cond (Ac m i) (An .i64 (q.drop (0+((m.toNat)*2))) fun z=>(cond (Ac (wrap .i64 (m - 1)) i) (An .i64 (q.drop (0+(((wrap .i64 (m - 1)).toNat)*2))) fun aa=>(An .i64 (b.drop 7) fun ab=>(cond (Ac m i) (An .i64 (q.drop ((0+((m.toNat)*2))+1)) fun ac=>(cond (Ac (wrap .i64 (m - 1)) i) (An .i64 (q.drop ((0+(((wrap .i64 (m - 1)).toNat)*2))+1)) fun ad=>(An .i64 (b.drop 6) fun ae=>(cond (Ac m i) (cond ((Nat.beq 2 2)&&((Nat.ble ((0+((m.toNat)*2))+2) (q.length))&&(!false))) (q4 (Cu q (0+((m.toNat)*2)) [(.int .i64 (Gc z (wrap .i64 (aa - ab)))),(.int .i64 (Bj ac (wrap .i64 (ad+ae))))])) none) none))) none)) none))) none)) none) (q4 q))
def R9 (k1:Nat→Int→LA→O R) (r0:Nat→Int→LA→O R) (l:Int) (d:LA) (c:Nat) (g f:Bool) (i:Nat) (m:Int) (e:Bool) (b:LA) (t:Bool) (q:LA):O R:=(W5 N k1 r0 l d c g f i m e b (fun u=>(Z5 N k1 r0 l d c g f i m e b u)) t q)
def Sa (N:Nat) (k3:Int→LA→O R) (r0:Nat→Int→LA→O R) (d:LA) (c:Nat) (g f:Bool) (i:Nat) (o:Int) (e:Bool) (b:LA) (v:Bool) (s:LA):O R :=
 (cond v (cond (Ac (wrap .i64 (o - 1)) i) (An .i64 (s.drop (0+(((wrap .i64 (o - 1)).toNat)*2))) fun af=>(cond (Ac o i) (An .i64 (s.drop (0+((o.toNat)*2))) fun ag=>(An .i64 (b.drop 6) fun ah=>(cond (Ac (wrap .i64 (o - 1)) i) (An .i64 (s.drop ((0+(((wrap .i64 (o - 1)).toNat)*2))+1)) fun ai=>(cond (Ac o i) (An .i64 (s.drop ((0+((o.toNat)*2))+1)) fun aj=>(An .i64 (b.drop 7) fun ak=>(cond (Ac (wrap .i64 (o - 1)) i) (cond ((Nat.beq 2 2)&&((Nat.ble ((0+(((wrap .i64 (o - 1)).toNat)*2))+2) (s.length))&&(!false))) (k3 (wrap .i64 (o - 1)) (Cu s (0+(((wrap .i64 (o - 1)).toNat)*2)) [(.int .i64 (Gc af (wrap .i64 (ag - ah)))),(.int .i64 (Bj ai (wrap .i64 (aj+ak))))])) none) none))) none)) none))) none)) none) (k3 (wrap .i64 (o - 1)) s))
def Qc (N:Nat) (r0:Nat→Int→LA→O R) (d:LA) (c:Nat) (g f:Bool) (i:Nat) (e:Bool) (b:LA) (k3:Int→LA→O R) (q5:Bool→LA→O R) (o:Int) (r:LA):O R :=
 (cond (decide (o>0)) (cond (Ac o c) (An .i64 (d.drop ((o.toNat)*1)) fun al=>(cond ((al==2)==true) (cond (Ac (wrap .i64 (o - 1)) c) (An .i64 (d.drop (((wrap .i64 (o - 1)).toNat)*1)) fun am=>(q5 (cond true (am==2) false) r)) none) (q5 false r))) none) (r0 i 0 r))
def Gu (r0:Nat→Int→LA→O R) (d:LA) (c:Nat) (g f:Bool) (i:Nat) (e:Bool) (b:LA):Nat→Int→LA→O R
 | 0,_,_=>none
 | n+1,o,r=>(Qc N r0 d c g f i e b (Gu r0 d c g f i e b n) (fun v s=>(Sa N (Gu r0 d c g f i e b n) r0 d c g f i o e b v s)) o r)
def Qd (r0:Nat→Int→LA→O R) (l:Int) (d:LA) (c:Nat) (g f e:Bool) (b:LA) (k1:Nat→Int→LA→O R) (q2:Bool→LA→O R) (q3:Int→LA→O R) (i:Nat) (m:Int) (p:LA):O R :=
 (cond (decide (m<l)) (cond (Ac m c) (An .i64 (d.drop ((m.toNat)*1)) fun an=>(cond (an != 2) (k1 i (wrap .i64 (m+1)) p) (cond (Nat.ble 22 (b.length)) (QO N (b.take 22) e d c false f m (fun w=>(cond (Ac m i) (cond ((Nat.beq (w.length) 2)&&((Nat.ble ((0+((m.toNat)*2))+2) (p.length))&&(!false))) (cond ((decide (m>0))==true) (cond (Ac (wrap .i64 (m - 1)) c) (An .i64 (d.drop (((wrap .i64 (m - 1)).toNat)*1)) fun ao=>(q2 (cond true (ao==2) false) (setCells p (0+((m.toNat)*2)) w))) none) (q2 false (setCells p (0+((m.toNat)*2)) w))) none) none))) none))) none) (q3 (wrap .i64 (l - 1)) p))
def Fb (r0:Nat→Int→LA→O R) (l:Int) (d:LA) (c:Nat) (g f e:Bool) (b:LA):Nat→Nat→Int→LA→O R
 | 0,_,_,_=>none
 | n+1,i,m,p=>(Qd N r0 l d c g f e b (Fb r0 l d c g f e b n) (fun t q=>(R9 N (Fb r0 l d c g f e b n) r0 l d c g f i m e b t q)) (fun o r=>(Gu N r0 d c g f i e b N o r)) i m p)
def W6 (N:Nat) (r0:Nat→Int→LA→O R) (l:Int) (d:LA) (c:Nat) (g f e:Bool) (b:LA) (q1:Nat→Int→LA→O R):O R :=
 (cond ((decide (0≤l))&&((decide (l≤l))&&((decide (l≤140737488355328))&&(decide ((l*((16:Nat):Int))≤140737488355328))))) (q1 (l.toNat) 0 (List.flatten (List.replicate (l.toNat) ([(.int .i64 0),(.int .i64 0)]:LA)))) none)
def M0 (r0:Nat→Int→LA→O R) (l:Int) (d:LA) (c:Nat) (g f e:Bool) (b:LA):O R:=(W6 N r0 l d c g f e b (fun i m p=>(Fb N r0 l d c g f e b N i m p)))
def X8 (r0:Nat→Int→LA→O R) (q0:O R) (b:LA) (e:Bool) (l:Int) (d:LA) (c:Nat) (g f:Bool):O R :=
 (cond (Nat.ble 22 (b.length)) (DJ N (b.take 22) e l (fun ap=>(cond (!ap) (r0 0 1 []) (cond (((c:Nat):Int) != l) (r0 0 4 []) (cond (Nat.ble 22 (b.length)) (QK N (b.take 22) e d c false f (fun ba bb aq bc=>(cond (aq != 0) (r0 0 16 []) (An .i64 (b.drop 19) fun ar=>(cond ((ar==2)==true) (cond (Ac 0 c) (An .i64 d fun au=>(cond ((cond true (au != 2) false)==true) (An .i64 (b.drop 21) fun av=>(An .i64 (b.drop 9) fun aw=>(cond (cond true (decide (av>aw)) false) (r0 0 7 []) q0))) q0)) none) q0))))) none))))) none)
def Qe:=(Ah (fun (N:Nat) (b:LA) (e:Bool) (l:Int) (d:LA) (c:Nat) (g f:Bool) (r0:Nat→Int→LA→O R)=>(X8 N r0 (M0 N r0 l d c g f e b) b e l d c g f))).1
theorem QP (b e l d c g f r0):(@Qe R N b e l d c g f r0)=(X8 N r0 (M0 N r0 l d c g f e b) b e l d c g f):=by rw[Qe,(Ah _).2]
def ZC:Hints:={ H:=(hS hL (hS hL (hS hL (hS hL (hJ [1,2,3] hL (hS hL (hS (hS hL (hS (hP [1,2,3,11,12] (hS hL (hS (hS (hS hL (hS hL (hJ [1,2,3,11,12] (hJ [1,2,3,11,12,75] hL hL) hL))) hL) hL))) hL)) (hS (hS hL (hS (hP [2,3,11,13] (hS hL (hS (hS (hJ [2,3,11,13,139] hL hL) hL) hL))) hL)) hL)))))))),nils:=[(6,2)],modes:=[(2,2),(0,0)] }
def fJ:D9:=[(17,Aq6 N),(67,Aw4 N),(68,Axi N)]
def Is (F:KF R):=Jw Tryz.f30 ZC (fJ N) [] N F
def Bo (F:KF R):Nat→Int→LA→O R:=(fun ax ay az=>F (.tup [(.own 300000 0 ax),(iv ay)]) (hq [(bQ 2 az)]))
def zZ (l:Int) (d:LA) (c:Nat) (g f:Bool) (i:Nat) (m:Int) (e:Bool) (b u:LA):St:=⟨[(1,(iv l)),(2,(.imm d c 1 g f)),(3,(op 0)),(11,(.own 300001 0 i)),(12,(iv m))],(hq [(bP e 0 b),(bQ 2 u)])⟩
def z0 (F:KF R) (Q1:St→O R):=Is N F [1,1,1,1,1,1,0,1,0,0,1,0,0,1,1,1] [Q1]
def z5 (l:Int) (d:LA) (c:Nat) (g f:Bool) (i:Nat) (m:Int) (e:Bool) (b:LA) (t:Bool) (q:LA):St:=⟨[(1,(iv l)),(2,(.imm d c 1 g f)),(3,(op 0)),(11,(.own 300001 0 i)),(12,(iv m)),(75,(.bool t))],(hq [(bP e 0 b),(bQ 2 q)])⟩
def z6 (F:KF R) (Q1:St→O R):=Is N F [1,1,1,1,1,1,0,1,0,0,1,0,0,1,1,0,1] [Q1]
def z7 (d:LA) (c:Nat) (g f:Bool) (i:Nat) (o:Int) (e:Bool) (b:LA) (v:Bool) (s:LA):St:=⟨[(2,(.imm d c 1 g f)),(3,(op 0)),(11,(.own 300001 0 i)),(13,(iv o)),(139,(.bool v))],(hq [(bP e 0 b),(bQ 2 s)])⟩
def z8 (F:KF R) (Q3:St→O R):=Is N F [1,1,1,1,1,1,1,0,1,0,0,1,0,0,1] [Q3]
def ZD (d:LA) (c:Nat) (g f:Bool) (i:Nat) (e:Bool) (b:LA) (o:Int) (r:LA):St:=⟨[(2,(.imm d c 1 g f)),(3,(op 0)),(11,(.own 300001 0 i)),(13,(iv o))],(hq [(bP e 0 b),(bQ 2 r)])⟩
def ZE (F:KF R):=Is N F [1,1,1,1,1,1,1,0,1,0] []
def Sb (l:Int) (d:LA) (c:Nat) (g f e:Bool) (b:LA) (i:Nat) (m:Int) (p:LA):St:=⟨[(1,(iv l)),(2,(.imm d c 1 g f)),(3,(op 0)),(11,(.own 300001 0 i)),(12,(iv m))],(hq [(bP e 0 b),(bQ 2 p)])⟩
def ZF (F:KF R):=Is N F [1,1,1,1,1,1,0,1,0] []
def z9 (l:Int) (d:LA) (c:Nat) (g f e:Bool) (b:LA):St:=⟨[(1,(iv l)),(2,(.imm d c 1 g f)),(3,(op 0))],(hq [(bP e 0 b)])⟩
def z_ (F:KF R):=Is N F [1,1,1,1,1] []
theorem mX (Q1:St→O R) (F:KF R) (l:Int) (d:LA) (c:Nat) (g f:Bool) (i:Nat) (m:Int) (e:Bool) (b:LA):∀ (u:LA),A9 (z0 N F Q1) (zZ l d c g f i m e b u)=(Z5 N (fun i m p=>Q1 (Sb l d c g f e b i m p)) (Bo F) l d c g f i m e b u):=by
 intro u
 kernel_rfl
theorem mY (Q1:St→O R) (F:KF R) (l:Int) (d:LA) (c:Nat) (g f:Bool) (i:Nat) (m:Int) (e:Bool) (b:LA):∀ (t:Bool) (q:LA),A9 (z6 N F Q1) (z5 l d c g f i m e b t q)=(R9 N (fun i m p=>Q1 (Sb l d c g f e b i m p)) (Bo F) l d c g f i m e b t q):=by
 intro t q
 exact Eq.trans (by kernel_rfl) (Bp (W5 N (fun i m p=>Q1 (Sb l d c g f e b i m p)) (Bo F) l d c g f i m e b · t q) (funext fun u=>(At ..).trans (mX N Q1 F l d c g f i m e b u)):_)
theorem mZ (Q3:St→O R) (F:KF R) (d:LA) (c:Nat) (g f:Bool) (i:Nat) (o:Int) (e:Bool) (b:LA):∀ (v:Bool) (s:LA),A9 (z8 N F Q3) (z7 d c g f i o e b v s)=(Sa N (fun o r=>Q3 (ZD d c g f i e b o r)) (Bo F) d c g f i o e b v s):=by
 intro v s
 kernel_rfl
theorem G_ (F:KF R) (d:LA) (c:Nat) (g f:Bool) (i:Nat) (e:Bool) (b:LA):∀ (n:Nat) (o:Int) (r:LA),Ao (ZE N F) n (ZD d c g f i e b o r)=(Gu N (Bo F) d c g f i e b n o r)
 | 0,_,_=>by kernel_rfl
 | n+1,o,r=>have e0:=(funext fun o=>funext fun r=>(G_ F d c g f i e b n o r))
  Eq.trans (by kernel_rfl) (VS (Qc N (Bo F) d c g f i e b · · o r) e0 (funext fun v=>funext fun s=>(At ..).trans ((mZ N (Ao (ZE N F) n) F d c g f i o e b v s).trans (Bp (Sa N · (Bo F) d c g f i o e b v s) e0))):_)
theorem G' (F:KF R) (l:Int) (d:LA) (c:Nat) (g f e:Bool) (b:LA):∀ (n i:Nat) (m:Int) (p:LA),Ao (ZF N F) n (Sb l d c g f e b i m p)=(Fb N (Bo F) l d c g f e b n i m p)
 | 0,_,_,_=>by kernel_rfl
 | n+1,i,m,p=>have e0:=(funext fun i=>funext fun m=>funext fun p=>(G' F l d c g f e b n i m p))
  Eq.trans (by kernel_rfl) (Bdj (Qd N (Bo F) l d c g f e b · · · i m p) e0 (funext fun t=>funext fun q=>(At ..).trans ((mY N (Ao (ZF N F) n) F l d c g f i m e b t q).trans (Bp (R9 N · (Bo F) l d c g f i m e b t q) e0))) (funext fun o=>funext fun r=>(Aj ..).trans (G_ N F d c g f i e b N o r)):_)
theorem m7 (F:KF R) (l:Int) (d:LA) (c:Nat) (g f e:Bool) (b:LA):A9 (z_ N F) (z9 l d c g f e b)=(M0 N (Bo F) l d c g f e b):=by
 exact Eq.trans (by kernel_rfl) (Bp (W6 N (Bo F) l d c g f e b ·) (funext fun i=>funext fun m=>funext fun p=>(Aj ..).trans (G' N F l d c g f e b N i m p)):_)
theorem ZG (b:LA) (e:Bool) (l:Int) (d:LA) (c:Nat) (g f:Bool) (F:KF R):Ch (fJ N) ZC N 30 [(.pagg b e),(iv l),(.imm d c 1 g f)] [] F=(Qe N b e l d c g f (Bo F)):=by
 rw[QP]
 exact Eq.trans (by kernel_rfl) (Bp (X8 N (Bo F) · b e l d c g f) ((At ..).trans (m7 N F l d c g f e b)):_)
def QQ (a:LA) (h:Am) (k:KF R):O R :=
 match a,h with
 | [(.pagg b e),(.int .i64 l),(.imm d c 1 g f)],[]=>(Qe N b e l d c g f (Bo k))
 | _,_=>none
theorem ZH:Ap N 30 @QQ:=by
 intro R Q a h k j;unfold QQ;split;exact A0 (ZG ..) (ZG ..) ⟨Aq7 N,Aw5 N,Axj N,trivial⟩;exact A3
def za:=A1 (ZH N)
def zb:=Ce (ZH N)
def QR (e:LA) (c:Nat) (f g:Bool) (b d:Int) (r0:Int→O R):O R :=
 (cond ((decide (b≥((c:Nat):Int)))==false) (cond (cond false true (decide (d≤0))) (r0 0) (cond (Ac b c) (An .i64 (e.drop ((b.toNat)*1)) fun i=>(DG N (wrap .i64 (Int.tdiv i 3)) (wrap .i64 (d+1)) (fun l=>(r0 l)))) none)) (r0 0))
def QS:=(Ah (@QR R)).1
theorem CW:@QS R=@QR R:=(Ah _).2
def A1o:D9:=[(12,oJ N)]
def xv (F:KF R):Int→O R:=(fun m=>F (iv m) [])
theorem xw (e:LA) (c:Nat) (f g:Bool) (b d:Int) (F:KF R):Ch (A1o N) Dj N 116 [(.imm e c 1 f g),(iv b),(iv d)] [] F=(QS N e c f g b d (xv F)):=by
 rw[CW]
 kernel_rfl
def rB (a:LA) (h:Am) (k:KF R):O R :=
 match a,h with
 | [(.imm e c 1 f g),(.int .i64 b),(.int .i64 d)],[]=>(QS N e c f g b d (xv k))
 | _,_=>none
theorem xx:Ap N 116 @rB:=by
 intro R Q a h k j;unfold rB;split;exact A0 (xw ..) (xw ..) ⟨oK N,trivial⟩;exact A3
def Axk:=A1 (xx N)
def Axl:=Ce (xx N)
def Gk (k0:Int→Int→Nat→Nat→LA→LA→O R) (r0:LA→O R) (r1:LA→O R) (e:Int) (c:Nat) (f:LA) (g:Nat) (m i:Bool) (o:Nat) (b:LA) (l:Bool) (d p:LA) (ad ab ae:Int) (z aa:Nat) (af ag:LA):O R :=
 (Cp N ab (fun ay=>(cond ((Nat.beq (ay.length) 3)&&(Nat.ble 3 3)) (cond ((Nat.ble (z+1) 140737488355328)&&(Nat.ble ((z+1)*56) 140737488355328)) (Cp N ae (fun az=>(cond ((Nat.beq (az.length) 3)&&(Nat.ble 3 3)) (cond ((Nat.ble (aa+1) 140737488355328)&&(Nat.ble ((aa+1)*56) 140737488355328)) (k0 ab (wrap .i64 (ad+1)) (z+1) (aa+1) ((af.take (z*3))++((setCells [(.bool false),.nsl,.nsl] 0 ay).take 3)) ((ag.take (aa*3))++((setCells [(.bool false),.nsl,.nsl] 0 az).take 3))) none) none))) none) none)))
def Sz (k0:Int→Int→Nat→Nat→LA→LA→O R) (r0:LA→O R) (r1:LA→O R) (e:Int) (c:Nat) (f:LA) (g:Nat) (m i:Bool) (o:Nat) (b:LA) (l:Bool) (d p:LA) (q2:Int→Int→Int→Nat→Nat→LA→LA→O R) (ah ai ap aq:Int) (ar au:Nat) (av aw:LA):O R :=
 (QS N f g false i (wrap .i64 (2*ah)) (wrap .i64 (ap - ai)) (fun ba=>(An .i64 (d.drop 16) fun bb=>(QS N f g false i (wrap .i64 ((wrap .i64 (2*ah))+1)) (Bj bb (wrap .i64 (aq - (wrap .i64 (ai+ba))))) (fun bc=>(q2 ah (wrap .i64 (ai+ba)) bc ar au av aw))))))
def N3 (k0:Int→Int→Nat→Nat→LA→LA→O R) (r0:LA→O R) (r1:LA→O R) (e:Int) (c:Nat) (f:LA) (g:Nat) (m i:Bool) (o:Nat) (b:LA) (l:Bool) (d p:LA) (ah ai ap aq:Int) (ar au:Nat) (av aw:LA):O R:=(Sz N k0 r0 r1 e c f g m i o b l d p (fun ad ab ae z aa af ag=>(Gk N k0 r0 r1 e c f g m i o b l d p ad ab ae z aa af ag)) ah ai ap aq ar au av aw)
def S5 (N:Nat) (k0:Int→Int→Nat→Nat→LA→LA→O R) (r0:LA→O R) (r1:LA→O R) (e:Int) (c:Nat) (f:LA) (g:Nat) (m i:Bool) (o:Nat) (w x y:Int) (b:LA) (l:Bool) (d p:LA) (q3:Int→Int→Int→Int→Nat→Nat→LA→LA→O R) (ac aj:Int) (ao:Bool) (ak al:Nat) (am an:LA):O R :=
 (cond ao (An .i64 (d.drop 7) fun bd=>(An .i64 (d.drop 6) fun be=>(An .i64 (d.drop 6) fun bf=>(q3 aj (Gc w (wrap .i64 (ac - bd))) (Bj x (wrap .i64 (ac+be))) (Bj y (wrap .i64 (ac+bf))) ak al am an)))) (An .i64 (d.drop 8) fun bg=>(q3 aj w x (Bj y bg) ak al am an)))
def I8 (k0:Int→Int→Nat→Nat→LA→LA→O R) (r0:LA→O R) (r1:LA→O R) (e:Int) (c:Nat) (f:LA) (g:Nat) (m i:Bool) (o:Nat) (w x y:Int) (b:LA) (l:Bool) (d p:LA) (ac aj:Int) (ao:Bool) (ak al:Nat) (am an:LA):O R:=(S5 N k0 r0 r1 e c f g m i o w x y b l d p (fun ah ai ap aq ar au av aw=>(N3 N k0 r0 r1 e c f g m i o b l d p ah ai ap aq ar au av aw)) ac aj ao ak al am an)
def Mj (N:Nat) (r0:LA→O R) (r1:LA→O R) (e:Int) (c:Nat) (f:LA) (g:Nat) (m i:Bool) (o:Nat) (b:LA) (l:Bool) (d p:LA) (k0:Int→Int→Nat→Nat→LA→LA→O R) (q1:Int→Int→Int→Int→Int→Bool→Nat→Nat→LA→LA→O R) (q2:Int→Int→Int→Nat→Nat→LA→LA→O R) (v q:Int) (r s:Nat) (t u:LA):O R :=
 (cond (decide (q<e)) (cond (Ac q c) (An .i64 (b.drop (0+((q.toNat)*1))) fun bh=>(cond (bh==2) (cond (Ac q o) (An .i64 (p.drop (0+((q.toNat)*2))) fun w=>(cond (Ac q o) (An .i64 (p.drop ((0+((q.toNat)*2))+1)) fun x=>(An .i64 (d.drop 3) fun y=>(cond ((q==0)==true) (An .i64 (d.drop 19) fun bi=>(cond ((cond true (bi==2) false)==false) (cond ((decide (q>0))==true) (cond (Ac (wrap .i64 (q - 1)) c) (An .i64 (b.drop (0+(((wrap .i64 (q - 1)).toNat)*1))) fun bj=>(q1 w x y v q (cond false true (cond true (bj==2) false)) r s t u)) none) (q1 w x y v q false r s t u)) (q1 w x y v q true r s t u))) (cond ((decide (q>0))==true) (cond (Ac (wrap .i64 (q - 1)) c) (An .i64 (b.drop (0+(((wrap .i64 (q - 1)).toNat)*1))) fun bk=>(q1 w x y v q (cond false true (cond true (bk==2) false)) r s t u)) none) (q1 w x y v q false r s t u))))) none)) none) (q2 q 0 0 r s t u))) none) (r1 [(.imm (b.take (c*1)) c 1 false false),(.imm (t.take (r*3)) r 3 false false),(.imm (u.take (s*3)) s 3 false false)]))
def Ca (r0:LA→O R) (r1:LA→O R) (e:Int) (c:Nat) (f:LA) (g:Nat) (m i:Bool) (o:Nat) (b:LA) (l:Bool) (d p:LA):Nat→Int→Int→Nat→Nat→LA→LA→O R
 | 0,_,_,_,_,_,_=>none
 | n+1,v,q,r,s,t,u=>(Mj N r0 r1 e c f g m i o b l d p (Ca r0 r1 e c f g m i o b l d p n) (fun w x y ac aj ao ak al am an=>(I8 N (Ca r0 r1 e c f g m i o b l d p n) r0 r1 e c f g m i o w x y b l d p ac aj ao ak al am an)) (fun ad ab ae z aa af ag=>(Gk N (Ca r0 r1 e c f g m i o b l d p n) r0 r1 e c f g m i o b l d p ad ab ae z aa af ag)) v q r s t u)
def Sc (r0:LA→O R) (r1:LA→O R) (q0:Nat→LA→Int→Int→Nat→Nat→LA→LA→O R) (d:LA) (l:Bool) (e:Int) (c:Nat) (f:LA) (g:Nat) (m i:Bool) (b:LA):O R :=
 (cond (Nat.ble 22 (d.length)) (Qe N (d.take 22) l e (b.take (c*1)) c false true (fun o bl p=>(cond (bl != 0) (r0 [(.imm [] 0 1 false false),(.imm [] 0 3 false false),(.imm [] 0 3 false false)]) (An .i64 (d.drop 21) fun bm=>(q0 o p bm 0 0 0 [] []))))) none)
def Ks:=(Ah (fun (N:Nat) (d:LA) (l:Bool) (e:Int) (c:Nat) (f:LA) (g:Nat) (m i:Bool) (b:LA) (r0:LA→O R) (r1:LA→O R)=>(Sc N r0 r1 (fun o p v q r s t u=>(Ca N r0 r1 e c f g m i o b l d p N v q r s t u)) d l e c f g m i b))).1
theorem HA (d l e c f g m i b r0 r1):(@Ks R N d l e c f g m i b r0 r1)=(Sc N r0 r1 (fun o p v q r s t u=>(Ca N r0 r1 e c f g m i o b l d p N v q r s t u)) d l e c f g m i b):=by rw[Ks,(Ah _).2]
def LH:Hints:={ H:=(hS hL (hS hL (hS hL (hS hL (hS hL (hS (hS hL (hS (hP [1,2,3,4,8,10,12,13,14] (hS hL (hS (hS (hS hL (hJ [1,2,3,4,8,10,12,14,15,16] (hS hL (hS (hS hL (hJ [1,2,3,4,8,10,12,14,17,18,19] (hJ [1,2,3,4,8,10,12,13,14,17,18,19,74] hL hL) hL)) hL)) hL)) hL) hL))) hL)) hL)))))),modes:=[(3,0),(0,0)],cob:=[29,31] }
def QT:D9:=[(30,za N),(20,T9 N),(116,Axk N)]
def N4 (F:KF R):=Jw Tryz.f63 LH (QT N) [100000] N F
def Bx (b:LA) (F:KF R):LA→O R:=(fun ax=>F (.tup [(.pagg ax false),(.bool false)]) [(100000,(bQ 1 b))])
def By (b:LA) (F:KF R):LA→O R:=(fun ax=>F (.tup [(.pagg ax false),(.bool true)]) [(100000,(bT 1 b))])
def rC (e:Int) (c:Nat) (f:LA) (g:Nat) (m i:Bool) (o:Nat) (b:LA) (l:Bool) (d p:LA) (ad ab ae:Int) (z aa:Nat) (af ag:LA):St:=⟨[(1,(iv e)),(2,(.own 100000 0 c)),(3,(.imm f g 1 m i)),(4,(op 0)),(8,(op 1)),(10,(.own 300002 0 o)),(12,(op 3)),(14,(iv ad)),(15,(iv ab)),(16,(iv ae))],[(100000,(bQ 1 b)),(300000,(bP l 0 d)),(300001,⟨false,false,false,false,0,[.nsl,.nsl,.nsl],false⟩),(300002,(bQ 2 p)),(300003,⟨false,false,false,false,0,[(.own 100000 0 c),(.own 300004 0 z),(.own 300005 0 aa)],false⟩),(300004,(bQ 3 af)),(300005,(bQ 3 ag))]⟩
def rD (F:KF R) (Q0:St→O R):=N4 N F [1,1,1,1,1,0,1,0,0,1,0,0,1,1] [Q0]
def rE (e:Int) (c:Nat) (f:LA) (g:Nat) (m i:Bool) (o:Nat) (b:LA) (l:Bool) (d p:LA) (ah ai ap aq:Int) (ar au:Nat) (av aw:LA):St:=⟨[(1,(iv e)),(2,(.own 100000 0 c)),(3,(.imm f g 1 m i)),(4,(op 0)),(8,(op 1)),(10,(.own 300002 0 o)),(12,(op 3)),(14,(iv ah)),(17,(iv ai)),(18,(iv ap)),(19,(iv aq))],[(100000,(bQ 1 b)),(300000,(bP l 0 d)),(300001,⟨false,false,false,false,0,[.nsl,.nsl,.nsl],false⟩),(300002,(bQ 2 p)),(300003,⟨false,false,false,false,0,[(.own 100000 0 c),(.own 300004 0 ar),(.own 300005 0 au)],false⟩),(300004,(bQ 3 av)),(300005,(bQ 3 aw))]⟩
def rF (F:KF R) (Q0:St→O R):=N4 N F [1,1,1,1,1,0,1,0,0,1,0,0,1,0,1,0,1,1] [Q0]
def rG (e:Int) (c:Nat) (f:LA) (g:Nat) (m i:Bool) (o:Nat) (w x y:Int) (b:LA) (l:Bool) (d p:LA) (ac aj:Int) (ao:Bool) (ak al:Nat) (am an:LA):St:=⟨[(1,(iv e)),(2,(.own 100000 0 c)),(3,(.imm f g 1 m i)),(4,(op 0)),(8,(op 1)),(10,(.own 300002 0 o)),(12,(op 3)),(13,(iv ac)),(14,(iv aj)),(17,(iv w)),(18,(iv x)),(19,(iv y)),(74,(.bool ao))],[(100000,(bQ 1 b)),(300000,(bP l 0 d)),(300001,⟨false,false,false,false,0,[.nsl,.nsl,.nsl],false⟩),(300002,(bQ 2 p)),(300003,⟨false,false,false,false,0,[(.own 100000 0 c),(.own 300004 0 ak),(.own 300005 0 al)],false⟩),(300004,(bQ 3 am)),(300005,(bQ 3 an))]⟩
def rH (F:KF R) (Q0:St→O R):=N4 N F [1,1,1,1,1,0,1,0,0,1,0,0,1,0,1,0,1,0,1] [Q0]
def Gl (e:Int) (c:Nat) (f:LA) (g:Nat) (m i:Bool) (o:Nat) (b:LA) (l:Bool) (d p:LA) (v q:Int) (r s:Nat) (t u:LA):St:=⟨[(1,(iv e)),(2,(.own 100000 0 c)),(3,(.imm f g 1 m i)),(4,(op 0)),(8,(op 1)),(10,(.own 300002 0 o)),(12,(op 3)),(13,(iv v)),(14,(iv q))],[(100000,(bQ 1 b)),(300000,(bP l 0 d)),(300001,⟨false,false,false,false,0,[.nsl,.nsl,.nsl],false⟩),(300002,(bQ 2 p)),(300003,⟨false,false,false,false,0,[(.own 100000 0 c),(.own 300004 0 r),(.own 300005 0 s)],false⟩),(300004,(bQ 3 t)),(300005,(bQ 3 u))]⟩
def Vh (F:KF R):=N4 N F [1,1,1,1,1,0,1,0] []
theorem Zi (Q0:St→O R) (F:KF R) (e:Int) (c:Nat) (f:LA) (g:Nat) (m i:Bool) (o:Nat) (b:LA) (l:Bool) (d p:LA):∀ (ad ab ae:Int) (z aa:Nat) (af ag:LA),A9 (rD N F Q0) (rC e c f g m i o b l d p ad ab ae z aa af ag)=(Gk N (fun v q r s t u=>Q0 (Gl e c f g m i o b l d p v q r s t u)) (Bx b F) (By b F) e c f g m i o b l d p ad ab ae z aa af ag):=by
 intro ad ab ae z aa af ag
 kernel_rfl
theorem fK (Q0:St→O R) (F:KF R) (e:Int) (c:Nat) (f:LA) (g:Nat) (m i:Bool) (o:Nat) (b:LA) (l:Bool) (d p:LA):∀ (ah ai ap aq:Int) (ar au:Nat) (av aw:LA),A9 (rF N F Q0) (rE e c f g m i o b l d p ah ai ap aq ar au av aw)=(N3 N (fun v q r s t u=>Q0 (Gl e c f g m i o b l d p v q r s t u)) (Bx b F) (By b F) e c f g m i o b l d p ah ai ap aq ar au av aw):=by
 intro ah ai ap aq ar au av aw
 exact Eq.trans (by kernel_rfl) (Bp (Sz N (fun v q r s t u=>Q0 (Gl e c f g m i o b l d p v q r s t u)) (Bx b F) (By b F) e c f g m i o b l d p · ah ai ap aq ar au av aw) (funext fun ad=>funext fun ab=>funext fun ae=>funext fun z=>funext fun aa=>funext fun af=>funext fun ag=>(At ..).trans (Zi N Q0 F e c f g m i o b l d p ad ab ae z aa af ag)):_)
theorem fL (Q0:St→O R) (F:KF R) (e:Int) (c:Nat) (f:LA) (g:Nat) (m i:Bool) (o:Nat) (w x y:Int) (b:LA) (l:Bool) (d p:LA):∀ (ac aj:Int) (ao:Bool) (ak al:Nat) (am an:LA),A9 (rH N F Q0) (rG e c f g m i o w x y b l d p ac aj ao ak al am an)=(I8 N (fun v q r s t u=>Q0 (Gl e c f g m i o b l d p v q r s t u)) (Bx b F) (By b F) e c f g m i o w x y b l d p ac aj ao ak al am an):=by
 intro ac aj ao ak al am an
 exact Eq.trans (by kernel_rfl) (Bp (S5 N (fun v q r s t u=>Q0 (Gl e c f g m i o b l d p v q r s t u)) (Bx b F) (By b F) e c f g m i o w x y b l d p · ac aj ao ak al am an) (funext fun ah=>funext fun ai=>funext fun ap=>funext fun aq=>funext fun ar=>funext fun au=>funext fun av=>funext fun aw=>(At ..).trans (fK N Q0 F e c f g m i o b l d p ah ai ap aq ar au av aw)):_)
theorem Zj (F:KF R) (e:Int) (c:Nat) (f:LA) (g:Nat) (m i:Bool) (o:Nat) (b:LA) (l:Bool) (d p:LA):∀ (n:Nat) (v q:Int) (r s:Nat) (t u:LA),Ao (Vh N F) n (Gl e c f g m i o b l d p v q r s t u)=(Ca N (Bx b F) (By b F) e c f g m i o b l d p n v q r s t u)
 | 0,_,_,_,_,_,_=>by kernel_rfl
 | n+1,v,q,r,s,t,u=>have e0:=(funext fun v=>funext fun q=>funext fun r=>funext fun s=>funext fun t=>funext fun u=>(Zj F e c f g m i o b l d p n v q r s t u))
  Eq.trans (by kernel_rfl) (Bdj (Mj N (Bx b F) (By b F) e c f g m i o b l d p · · · v q r s t u) e0 (funext fun w=>funext fun x=>funext fun y=>funext fun ac=>funext fun aj=>funext fun ao=>funext fun ak=>funext fun al=>funext fun am=>funext fun an=>(At ..).trans ((fL N (Ao (Vh N F) n) F e c f g m i o w x y b l d p ac aj ao ak al am an).trans (Bp (I8 N · (Bx b F) (By b F) e c f g m i o w x y b l d p ac aj ao ak al am an) e0))) (funext fun ad=>funext fun ab=>funext fun ae=>funext fun z=>funext fun aa=>funext fun af=>funext fun ag=>(At ..).trans ((Zi N (Ao (Vh N F) n) F e c f g m i o b l d p ad ab ae z aa af ag).trans (Bp (Gk N · (Bx b F) (By b F) e c f g m i o b l d p ad ab ae z aa af ag) e0))):_)
theorem LI (d:LA) (l:Bool) (e:Int) (c:Nat) (f:LA) (g:Nat) (m i:Bool) (b:LA) (F:KF R):Ch (QT N) LH N 63 [(.pagg d l),(iv e),(.own 100000 0 c),(.imm f g 1 m i)] [(100000,(bQ 1 b))] F=(Ks N d l e c f g m i b (Bx b F) (By b F)):=by
 rw[HA]
 exact Eq.trans (by kernel_rfl) (Bp (Sc N (Bx b F) (By b F) · d l e c f g m i b) (funext fun o=>funext fun p=>funext fun v=>funext fun q=>funext fun r=>funext fun s=>funext fun t=>funext fun u=>(Aj ..).trans (Zj N F e c f g m i o b l d p N v q r s t u)):_)
def HB (a:LA) (h:Am) (k:KF R):O R :=
 match a,h with
 | [(.pagg d l),(.int .i64 e),(.own 100000 0 c),(.imm f g 1 m i)],[(100000,⟨false,false,true,false,1,b,false⟩)]=>(Ks N d l e c f g m i b (Bx b k) (By b k))
 | _,_=>none
theorem LJ:Ap N 63 @HB:=by
 intro R Q a h k j;unfold HB;split;exact A0 (LI ..) (LI ..) ⟨zb N,Ua N,Axl N,trivial⟩;exact A3
def rI:=A1 (LJ N)
def rJ:=Ce (LJ N)
def tn (b:LA) (c:Bool) (d:Int) (e:LA) (f:Nat) (i g:Bool) (r0:LA→Bool→O R):O R :=
 (cond (Nat.ble 22 (b.length)) (W4 N (b.take 22) c d e f false g (fun n o=>(cond (Nat.ble 22 (b.length)) (Ks N (b.take 22) c d n e f false g o (fun l=>(cond ((Nat.beq 0 0)&&((Nat.beq (l.length) 3)&&(Nat.beq 3 3))) (cond (Nat.ble 3 (l.length)) (r0 (l.take 3) false) none) none)) (fun m=>(cond ((Nat.beq 0 0)&&((Nat.beq (m.length) 3)&&(Nat.beq 3 3))) (cond (Nat.ble 3 (m.length)) (r0 (m.take 3) true) none) none))) none))) none)
def fM:=(Ah (@tn R)).1
theorem rK:@fM R=@tn R:=(Ah _).2
def A1p:D9:=[(62,Ali N),(63,rI N)]
def xy (F:KF R):LA→Bool→O R:=(fun p q=>F (.tup [(.pagg p false),(.bool q)]) [])
theorem xz (b:LA) (c:Bool) (d:Int) (e:LA) (f:Nat) (i g:Bool) (F:KF R):Ch (A1p N) A7n N 28 [(.pagg b c),(iv d),(.imm e f 1 i g)] [] F=(fM N b c d e f i g (xy F)):=by
 rw[rK]
 kernel_rfl
def rL (a:LA) (h:Am) (k:KF R):O R :=
 match a,h with
 | [(.pagg b c),(.int .i64 d),(.imm e f 1 i g)],[]=>(fM N b c d e f i g (xy k))
 | _,_=>none
theorem yA:Ap N 28 @rL:=by
 intro R Q a h k j;unfold rL;split;exact A0 (xz ..) (xz ..) ⟨Alj N,rJ N,trivial⟩;exact A3
def Axm:=A1 (yA N)
def Axn:=Ce (yA N)
end
end Gx

namespace Gx
open Go Go.Proofs
section
variable {R:Type}
section
variable {u:UnitD} {ks:List Int} {n:Nat}
def A82 (u:UnitD) (ks:List Int) (n h:Nat):PD :=
 cond (h==0&&u.state==2) ⟨Gc u.min (u.output - u.rampDown),Bj (cond (decide (h+1<n)&&!Bu ks (h+1)) (Bj (cond (La u ks h) u.max (Bj u.max u.startRamp)) u.stopRamp) (cond (La u ks h) u.max (Bj u.max u.startRamp))) (u.output+u.rampUp)⟩
  ⟨u.min,cond (decide (h+1<n)&&!Bu ks (h+1)) (Bj (cond (La u ks h) u.max (Bj u.max u.startRamp)) u.stopRamp) (cond (La u ks h) u.max (Bj u.max u.startRamp))⟩
theorem A6p {N:Nat} {K:LA→O R} {c g i:Bool} {h:Nat} (C:uR u) (G:ks.length=n) (hn:n≤1000) (I:h<n):QO N u.av c (Av ks) n g i (h:Int) K=K (A82 u ks n h).av:=by
 unfold uR at C
 rw[qz];unfold gR
 have D:∀ f:Int,LG N K (h:Int) c u.av f=K (cond (h==0&&u.state==2) (PD.mk (Gc u.min (u.output - u.rampDown)) (Bj f (u.output+u.rampUp))) (PD.mk u.min f)).av:=by
  intro f
  unfold LG UZ fH
  simp only[u2,u6,u7,A2s,A9z]
  rw[i64 (a:=u.output - u.rampDown) (by omega),i64 (a:=u.output+u.rampUp) (by omega)]
  cases h with
  | zero=>rw[show(((0:Nat):Int)==0)=true from rfl];cases (u.state==2)<;>rfl
  | succ h=>rw[show(((h+1:Nat):Int)==0)=false by simp;omega,show(h+1==0)=false from rfl];rfl
 have F:∀ l:Int,Zh N K (Av ks) n g i (h:Int) c u.av l=K (cond (h==0&&u.state==2) (PD.mk (Gc u.min (u.output - u.rampDown)) (Bj (cond (decide (h+1<n)&&!Bu ks (h+1)) (Bj l u.stopRamp) l) (u.output+u.rampUp))) (PD.mk u.min (cond (decide (h+1<n)&&!Bu ks (h+1)) (Bj l u.stopRamp) l))).av:=by
  intro l
  unfold Zh U_
  simp only[D,u9]
  rw[wS (by omega)]
  by_cases k:h+1<n
  ·rw[Jh k,show(true==true)=true from rfl,ct,Aa k,ct,Cj (by omega),show decide (h+1<n)=true by simpa using k,Fy (by omega),Bool.true_and,show(ks[h+1] != 2)=(!(ks[h+1]==2)) from rfl]
   cases (ks[h+1]==2)<;>rfl
  ·rw[Ku (by omega),show decide (h+1<n)=false by simpa using k];rfl
 simp only[F,u3,u8,A2s]
 unfold A82
 cases h with
 | zero =>
  rw[show(((0:Nat):Int)==0)=true from rfl,show La u ks 0=(u.state==2) from rfl,show(u.state != 2)=(!(u.state==2)) from rfl]
  cases (u.state==2)<;>rfl
 | succ h =>
  rw[show(((h+1:Nat):Int)==0)=false by simp;omega,show La u ks (h+1)=Bu ks h from rfl,show(false==true)=false from rfl,cf,show(decide (((h+1:Nat):Int)>0)==true)=true by simp,ct]
  rw[show IntKind.wrap .i64 (((h+1:Nat):Int) - 1)=(h:Int) by rw[i64 (by omega)];omega,Aa (by omega),ct,Cj (by omega),Fy (ks:=ks) (h:=h) (by omega),show(ks[h] != 2)=(!(ks[h]==2)) from rfl]
  cases (ks[h]==2)<;>rfl
theorem Bdy (ok:UOk u) {h:Nat} (k:Bu ks h=true):Z4 u ks n h=cond (decide (0<h)&&La u ks h) ⟨Gc (A82 u ks n h).lo ((Z4 u ks n (h - 1)).lo - u.rampDown),Bj (A82 u ks n h).hi ((Z4 u ks n (h - 1)).hi+u.rampUp)⟩ (A82 u ks n h):=by
 obtain⟨a,b,c,d⟩:=ok
 cases h with
 | zero =>
  unfold Z4 A82
  rw[Sw,k,show La u ks 0=(u.state==2) from rfl]
  cases (u.state==2)<;>cases (decide (0+1<n)&&!Bu ks (0+1))<;>simp[Ey,H6]<;>omega
 | succ h =>
  rw[Nat.add_sub_cancel,A3d k]
  unfold Z4 A82
  rw[Sw,k,show La u ks (h+1)=Bu ks h from rfl]
  cases Bu ks h<;>cases (decide (h+1+1<n)&&!Bu ks (h+1+1))<;>simp[Ey,H6]<;>omega
def gE (u:UnitD) (ks:List Int) (n p:Nat):Nat→PD:=fun i=>if i<p then Z4 u ks n i else ⟨0,0⟩
def gC (u:UnitD) (ks:List Int) (n p:Nat):Nat→PD:=fun i=>if i<p then Z4 u ks n i else Ge u ks n i
theorem Bc1 {h:Nat} (k:Bu ks h=false):Z4 u ks n h=⟨0,0⟩:=by unfold Z4;rw[k];exact th k
theorem Axo {N:Nat} {K:Nat→Int→LA→O R} {f e d:Bool} (ok:UOk u) (T:uR u) (hn:n≤1000) (U:ks.length=n):∀ (m fuel:Nat),m<n→m<fuel →
  Gu N K (Av ks) n f e n d u.av fuel (m:Int) (tb n (gC u ks n m))=K n 0 (tb n (Ge u ks n))
 | 0,fuel+1,_,_=>by
  rw[Gu];unfold Qc
  rw[show decide (((0:Nat):Int)>0)=false from rfl,cf,Ga fun i _=>by unfold gC;rw[if_neg (by omega)]]
 | m+1,fuel+1,F,hf=>by
  rw[Gu];unfold Qc Sa
  have h:m<n:=by omega
  have k:m<ks.length:=by omega
  have C:m+1<ks.length:=by omega
  have I:=Axo (N:=N) (K:=K) (f:=f) (e:=e) (d:=d) ok T hn U m fuel (by omega) (by omega)
  have hb:=ok.b;have ha:=ok.a
  have r1:=tc (ks:=ks) (n:=n) ok (n - 1 - (m+1)) (m+1) (by omega)
  have r2:=zX (ks:=ks) (n:=n) ok (m+1)
  have f1:=qu (ks:=ks) ok (m+1)
  have V:IntKind.wrap .i64 (((m+1:Nat):Int) - 1)=(m:Int):=by rw[i64 (by omega)];omega
  have L:gC u ks n (m+1) m=Z4 u ks n m:=by unfold gC;rw[if_pos (by omega)]
  have Y:gC u ks n (m+1) (m+1)=Ge u ks n (m+1):=by unfold gC;rw[if_neg (by omega)]
  have up:∀ v:PD,v=Ge u ks n m→tb n (t9 (gC u ks n (m+1)) m v)=tb n (gC u ks n m):=fun v hv=>Ga fun i _=>by
   subst hv
   unfold t9 gC
   by_cases G:i=m
   ·subst G;rw[if_pos rfl,if_neg (by omega)]
   ·rw[if_neg G]
    by_cases M:i<m
    ·rw[if_pos (by omega),if_pos M]
    ·rw[if_neg (by omega),if_neg M]
  have same:Ge u ks n m=Z4 u ks n m→tb n (gC u ks n (m+1))=tb n (gC u ks n m):=fun hs=>by
   rw[←up _ rfl,hs,←L]
   exact Ga fun i _=>by unfold t9;by_cases G:i=m<;>simp[G]
  have s1:∀ (a b:Int),[(AV.int .i64 a),(.int .i64 b)]=(PD.mk a b).av:=fun _ _=>rfl
  have st:=Zf u ks (n:=n) (h:=m) (by omega)
  rw[show decide (((m+1:Nat):Int)>0)=true by simp,ct,Aa F,ct,Cj C,V]
  cases S:(ks[m+1]==2) with
  | false =>
   have o:Bu ks (m+1)=false:=by rw[Fy C];exact S
   rw[show(false==true)=false from rfl,cf]
   dsimp only
   rw[cf,same (by rw[st,o,Bool.and_false,cond_false])]
   exact I
  | true =>
   have o:Bu ks (m+1)=true:=by rw[Fy C];exact S
   rw[show(true==true)=true from rfl,ct,Aa h,ct,Cj k]
   dsimp only
   cases D:(ks[m]==2) with
   | false =>
    have o2:Bu ks m=false:=by rw[Fy k];exact D
    rw[show(cond true false false)=false from rfl,cf,same (by rw[st,o2,Bool.false_and,cond_false])]
    exact I
   | true =>
    have o2:Bu ks m=true:=by rw[Fy k];exact D
    rw[show(cond true true false)=true from rfl,ct]
    simp only[Aa h,Aa F,ct,fB h,fB F,fC h,fC F,u6,u7,L,Y,s1]
    rw[Aok h,ct,mW h,i64 (a:=(Ge u ks n (m+1)).lo - u.rampUp) (by omega),i64 (a:=(Ge u ks n (m+1)).hi+u.rampDown) (by omega),up _ (by rw[st,o,o2];rfl)]
    exact I
theorem Axp {N:Nat} {X:O R} {K:Nat→Int→LA→O R} {f e d:Bool} (ok:UOk u) (L:uR u) (hn:n≤1000) (T:0<n) (M:ks.length=n) (hN:1100≤N) (C:Ij u ks n=true→K 0 7 []=X) (D:Ij u ks n=false→K n 0 (tb n (Ge u ks n))=X):∀ (m p fuel:Nat),p+m=n→m<fuel →
  (∀ h,h<p→Bu ks h=true→(Z4 u ks n h).lo≤(Z4 u ks n h).hi)→Fb N K (n:Int) (Av ks) n f e d u.av fuel n (p:Int) (tb n (gE u ks n p))=X
 | 0,p,fuel+1,hp,_,G=>by
  rw[Fb];unfold Qd
  have:Ij u ks n=false:=by
   unfold Ij
   rw[List.any_eq_false]
   intro h hm
   simp at hm
   cases I:Bu ks h with
   | true=>have:=G h (by omega) I;simp;omega
   | false=>simp
  rw[Ku (by omega),cf,i64 (by omega),show(n:Int) - 1=((n - 1:Nat):Int) by omega]
  have e:=Axo (N:=N) (K:=K) (f:=f) (e:=e) (d:=d) (ks:=ks) ok L hn M (n - 1) N (by omega) (by omega)
  dsimp only
  rw[Ga (g:=gE u ks n p) (g':=gC u ks n (n - 1)) fun i hi=>by
   unfold gE gC
   rw[if_pos (by omega)]
   by_cases h:i<n - 1
   ·rw[if_pos h]
   ·rw[if_neg h,show i=n - 1 by omega,QL _ _ T],e]
  exact D this
 | m+1,p,fuel+1,hp,hf,G=>by
  rw[Fb];unfold Qd R9 W5 Z5
  have h:p<n:=by omega
  have F:p<ks.length:=by omega
  have hb:=ok.b;have ha:=ok.a
  have U:=Axp (N:=N) (K:=K) (f:=f) (e:=e) (d:=d) ok L hn T M hN C D m (p+1) fuel (by omega) (by omega)
  rw[Jh h,ct,Aa h,ct,Cj F,wS (by omega)]
  cases I:(ks[p] != 2) with
  | true =>
   have o:Bu ks p=false:=by rw[Fy F];simpa using I
   rw[ct,Ga (g:=gE u ks n p) (g':=gE u ks n (p+1)) fun i _=>by
    unfold gE
    by_cases C:i<p
    ·rw[if_pos C,if_pos (by omega)]
    ·rw[if_neg C]
     by_cases D:i=p
     ·subst D;rw[if_pos (by omega),Bc1 o]
     ·rw[if_neg (by omega)]]
   exact U fun h' S k=>by
    by_cases e:h'=p
    ·subst e;rw[o] at k;cases k
    ·exact G h' (by omega) k
  | false =>
   have o:Bu ks p=true:=by rw[Fy F];simpa using I
   have en:=Bdy (n:=n) ok o
   rw[cf,Dr,ct,B8,A6p L M hn h,ct,Bcw h,ct,Bat h]
   have s1:∀ (a b:Int),[(AV.int .i64 a),(.int .i64 b)]=(PD.mk a b).av:=fun _ _=>rfl
   have up:tb n (t9 (gE u ks n p) p (Z4 u ks n p))=tb n (gE u ks n (p+1)):=Ga fun i _=>by
    unfold t9 gE
    by_cases C:i=p
    ·subst C;simp
    ·rw[if_neg C]
     by_cases D:i<p
     ·rw[if_pos D,if_pos (by omega)]
     ·rw[if_neg D,if_neg (by omega)]
   have fin:cond (Ac (p:Int) n) (An .i64 (List.drop (0+((p:Int).toNat*2)) (tb n (gE u ks n (p+1)))) fun w=>(cond (Ac (p:Int) n) (An .i64 (List.drop ((0+((p:Int).toNat*2))+1) (tb n (gE u ks n (p+1)))) fun x=>(cond (decide (w>x)) (K 0 7 []) (Fb N K (n:Int) (Av ks) n f e d u.av fuel n ((p+1:Nat):Int) (tb n (gE u ks n (p+1)))))) none)) none=X:=by
    rw[Aa h,ct,fB h,ct,fC h,show gE u ks n (p+1) p=Z4 u ks n p by unfold gE;rw[if_pos (by omega)]]
    by_cases V:(Z4 u ks n p).lo>(Z4 u ks n p).hi
    ·rw[decide_eq_true V,ct]
     refine C ?_
     unfold Ij
     rw[List.any_eq_true]
     exact⟨p,by simpa using h,by simp[o];omega⟩
    ·rw[decide_eq_false V,cf]
     exact U fun h' S k=>by
      by_cases e:h'=p
      ·subst e;omega
      ·exact G h' (by omega) k
   cases p with
   | zero =>
    rw[show(decide (((0:Nat):Int)>0)==true)=false from rfl,cf]
    dsimp only
    rw[cf]
    rw[show(decide ((0:Nat)<0))=false from rfl,Bool.false_and,cond_false] at en
    rw[←en,up]
    simpa only[Aa h,ct,fB h,fC h] using fin
   | succ q =>
    have r0:=zX (ks:=ks) (n:=n) ok q
    have r1:=qu (ks:=ks) ok q
    have ge0:t9 (gE u ks n (q+1)) (q+1) (A82 u ks n (q+1)) (q+1)=A82 u ks n (q+1):=by simp[t9]
    have ge1:t9 (gE u ks n (q+1)) (q+1) (A82 u ks n (q+1)) q=Z4 u ks n q:=by unfold t9 gE;rw[if_neg (by omega),if_pos (by omega)]
    have hq:q<n:=by omega
    rw[show(decide (((q+1:Nat):Int)>0)==true)=true by simp,ct,show IntKind.wrap .i64 (((q+1:Nat):Int) - 1)=(q:Int) by rw[i64 (by omega)];omega,Aa hq,ct,Cj (by omega)]
    rw[show decide (0<q+1)=true by simp,Bool.true_and,show La u ks (q+1)=Bu ks q from rfl,Nat.add_sub_cancel] at en
    rw[←Fy (by omega)]
    dsimp only
    cases Y:Bu ks q with
    | false =>
     rw[Y,cond_false] at en
     rw[show(cond true false false)=false from rfl,cf,←en,up]
     simpa only[Aa h,ct,fB h,fC h] using fin
    | true =>
     rw[Y,cond_true] at en
     rw[show(cond true true false)=true from rfl,ct]
     simp only[Aa h,Aa hq,ct,fB h,fB hq,fC h,fC hq,u6,u7,ge0,ge1,s1]
     rw[Aok h,ct,mW h,i64 (a:=(Z4 u ks n q).lo - u.rampDown) (by omega),i64 (a:=(Z4 u ks n q).hi+u.rampUp) (by omega),←en]
     rw[Ga (g:=t9 (t9 (gE u ks n (q+1)) (q+1) (A82 u ks n (q+1))) (q+1) (Z4 u ks n (q+1))) (g':=t9 (gE u ks n (q+1)) (q+1) (Z4 u ks n (q+1))) fun i _=>by
      unfold t9;by_cases C:i=q+1<;>simp[C],up]
     simpa only[Aa h,ct,fB h,fC h] using fin
end
end
end Gx

namespace Gx
open Go Go.Proofs
section
variable {R:Type}
theorem QU {u:UnitD} {h:Int} (C:D3 u h=true):UOk u:=by
 simp only[D3,Bool.and_eq_true,Fc,decide_eq_true_eq] at C
 obtain⟨S,T,U,V,Y,h6,h7,h8,h9,D,F,G,I,L,k,M⟩:=C
 refine⟨by omega,by omega,by omega,fun hs=>?_⟩
 unfold A0j at k
 rw[show(u.state==2)=true by simpa using hs] at k
 simpa[Fc] using k
def ZZ (u:UnitD) (h:Int) (ks:List Int):Int :=
 cond (!D3 u h) 1 (cond ((ks.length:Int) != h) 4 (cond (!(Fr u 0 (Ez u) ks).2) 16 (cond ((u.state==2&&!Bu ks 0)&&decide (u.output>u.stopRamp)) 7 (cond (Ij u ks ks.length) 7 0))))
section
variable {u:UnitD} {ks:List Int} {n:Nat}
theorem Axq {N:Nat} {X:O R} {K:Nat→Int→LA→O R} {d c:Bool} (ok:UOk u) (hn:n≤1000) (L:ks.length=n) (G:Ij u ks n=true→K 0 7 []=X) (I:Ij u ks n=false→K n 0 (tb n (Ge u ks n))=X):∀ (m p fuel:Nat),p+m=n→m<fuel →
  (∀ h,h<p→(Ge u ks n h).lo≤(Ge u ks n h).hi)→Ki N K (Av ks) n d c n fuel (n:Int) (p:Int) (tb n (Ge u ks n))=X
 | 0,p,fuel+1,M,_,D=>by
  rw[Ki];unfold Ry
  rw[Ku (by omega),cf]
  refine I ?_
  rw[qv ok,List.any_eq_false]
  intro h S
  have:=D h (by simp at S;omega)
  simp;omega
 | m+1,p,fuel+1,M,V,D=>by
  rw[Ki];unfold Ry
  have h:p<n:=by omega
  have k:p<ks.length:=by omega
  have C:=Axq (N:=N) (K:=K) (d:=d) (c:=c) ok hn L G I m (p+1) fuel (by omega) (by omega)
  rw[Jh h,ct,Aa h,ct,ta h,ct,t_ h,A8y,ct,Asr,A3b,A3c,wS (by omega)]
  by_cases F:(Ge u ks n p).lo>(Ge u ks n p).hi
  ·rw[decide_eq_true F,ct]
   refine G ?_
   rw[qv ok,List.any_eq_true]
   exact⟨p,by simpa using h,by simpa using F⟩
  ·have C:=C fun h' T=>by
    by_cases e:h'=p
    ·subst e;omega
    ·exact D h' (by omega)
   rw[decide_eq_false F,cf,ct,Cj k]
   cases U:(ks[p] != 2) with
   | false=>rw[cf];exact C
   | true =>
    have o:Bu ks p=false:=by rw[Fy k];simpa using U
    rw[ct,ct,Aok h,ct,show [(AV.int .i64 0),(.int .i64 0)]=(PD.mk 0 0).av from rfl,mW h,Ga (g:=t9 (Ge u ks n) p ⟨0,0⟩) (g':=Ge u ks n) fun i _=>by
     unfold t9
     by_cases e:i=p
     ·subst e;rw[if_pos rfl,Ast h o,th o]
     ·rw[if_neg e]]
    exact C
theorem Bbv {f:Int→O R} (h:0<ks.length):An .i64 (Av ks) f=f ks[0]:=by
 have:=OS (l:=ks) (i:=0) h (f:=f)
 rwa [List.drop_zero] at this
theorem Ah6 {N:Nat} {X:O R} {K:Nat→Int→LA→O R} {h:Int} {g i o:Bool} (hl:u.away.l.length≤1000) (M:ks.length≤1000) (hN:4096≤N) (hn:n=ks.length)
  (C:ZZ u h ks=0→K n 0 (tb n (Ge u ks n))=X) (k:ZZ u h ks≠0→K 0 (ZZ u h ks) []=X):K6 N u.av o h (Av ks) n g i K=X:=by
 subst hn
 rw[Z0];unfold Ur
 rw[Dr,ct,B8,Rc (by omega) (by omega) (by omega)]
 unfold ZZ at C k
 cases S:D3 u h with
 | false=>rw[S] at k;exact k (by simp)
 | true =>
  rw[S] at C k
  have ok:=QU S
  obtain⟨hs,Y,hh⟩:=UY S
  simp only[Bool.not_true,cond_false] at C k ⊢
  cases F:((ks.length:Int) != h) with
  | true=>rw[F] at k;exact k (by simp)
  | false =>
   rw[F] at C k
   have G:(ks.length:Int)=h:=by simpa using F
   have T:0<ks.length:=by omega
   rw[cf,ct]
   simp only[cond_false] at C k
   refine Ah0 (by omega) hs hl M rfl (fun U=>?_) (fun U=>?_)
   ·rw[U] at C k
    simp only[Bool.not_true,cond_false] at C k
    rw[show((0:Int) != 0)=false from rfl,cf,A2s,show Ac 0 ks.length=true by simp[Ac];omega,ct,Bbv T,A9z,u9]
    have D:cond ((u.state==2&&!Bu ks 0)&&decide (u.output>u.stopRamp)) 7 (cond (Ij u ks ks.length) 7 0)=cond (Ij u ks ks.length) 7 (0:Int)→Kj N K h (Av ks) ks.length g i o u.av=X:=by
     intro hc
     rw[hc] at C k
     unfold Kj Rz
     rw[Dr,ct,B8,←G,Ass ok Y M rfl (by omega),ct,Ald ok Y M T rfl (by omega)]
     exact Axq ok M rfl (fun V=>by rw[V] at k;exact k (by simp)) (fun V=>by rw[V] at C;exact C rfl) ks.length 0 N (by omega) (by omega) (by omega)
    rw[Fy T] at D k
    have e:(ks[0] != 2)=!(ks[0]==2):=rfl
    rw[e]
    cases I:(u.state==2) with
    | false=>rw[I] at D;exact D rfl
    | true =>
     rw[I] at D k
     cases L:(ks[0]==2) with
     | true=>rw[L] at D;exact D rfl
     | false =>
      rw[L] at D k
      cases ho:decide (u.output>u.stopRamp) with
      | false=>rw[ho] at D;exact D rfl
      | true=>rw[ho] at k;exact k (by simp)
   ·rw[U] at k
    exact k (by simp)
theorem zc {N:Nat} {X:O R} {K:Nat→Int→LA→O R} {h:Int} {g i o:Bool} (hl:u.away.l.length≤1000) (V:ks.length≤1000) (hN:4096≤N) (hn:n=ks.length)
  (C:ZZ u h ks=0→K n 0 (tb n (Ge u ks n))=X) (k:ZZ u h ks≠0→K 0 (ZZ u h ks) []=X):Qe N u.av o h (Av ks) n g i K=X:=by
 subst hn
 rw[QP];unfold X8
 rw[Dr,ct,B8,Af6 (by omega) (by omega) (by omega)]
 unfold ZZ at C k
 cases M:D3 u h with
 | false=>rw[M] at k;exact k (by simp)
 | true =>
  rw[M] at C k
  have ok:=QU M
  obtain⟨hs,hu,hh⟩:=UY M
  simp only[Bool.not_true,cond_false] at C k ⊢
  cases F:((ks.length:Int) != h) with
  | true=>rw[F] at k;exact k (by simp)
  | false =>
   rw[F] at C k
   have G:(ks.length:Int)=h:=by simpa using F
   have S:0<ks.length:=by omega
   rw[cf,ct]
   simp only[cond_false] at C k
   refine Aw7 (by omega) hs hl V rfl (fun T=>?_) (fun T=>?_)
   ·rw[T] at C k
    simp only[Bool.not_true,cond_false] at C k
    rw[show((0:Int) != 0)=false from rfl,cf,A2s,show Ac 0 ks.length=true by simp[Ac];omega,ct,Bbv S,A9z,u9]
    have D:cond ((u.state==2&&!Bu ks 0)&&decide (u.output>u.stopRamp)) 7 (cond (Ij u ks ks.length) 7 0)=cond (Ij u ks ks.length) 7 (0:Int)→M0 N K h (Av ks) ks.length g i o u.av=X:=by
     intro hc
     rw[hc] at C k
     unfold M0 W6
     rw[←G,show((decide (0≤(ks.length:Int)))&&((decide ((ks.length:Int)≤(ks.length:Int)))&&((decide ((ks.length:Int)≤140737488355328))&&(decide (((ks.length:Int)*((16:Nat):Int))≤140737488355328)))))=true by simp;omega,ct,Int.toNat_natCast,A3a]
     have:=Axp (N:=N) (K:=K) (f:=g) (e:=i) (d:=o) (X:=X) ok hu V S rfl (by omega) (fun U=>by rw[U] at k;exact k (by simp)) (fun U=>by rw[U] at C;exact C rfl) ks.length 0 N (by omega) (by omega) (by omega)
     rw[Ga (g:=gE u ks ks.length 0) (g':=fun _=>⟨0,0⟩) fun i _=>by unfold gE;rw[if_neg (by omega)]] at this
     exact this
    rw[Fy S] at D k
    have e:(ks[0] != 2)=!(ks[0]==2):=rfl
    rw[e]
    cases I:(u.state==2) with
    | false=>rw[I] at D;exact D rfl
    | true =>
     rw[I] at D k
     cases L:(ks[0]==2) with
     | true=>rw[L] at D;exact D rfl
     | false =>
      rw[L] at D k
      cases Y:decide (u.output>u.stopRamp) with
      | false=>rw[Y] at D;exact D rfl
      | true=>rw[Y] at k;exact k (by simp)
   ·rw[T] at k
    exact k (by simp)
end
end
end Gx

namespace Gx
open Go Go.Proofs
section
variable {R:Type}
theorem tp {N:Nat} {X:O R} {k0:Nat→Int→LA→LA→O R} {K:Nat→LA→O R} {h:Int} {raw ks:List Int} {L:List StD} {u:UnitD} {s:StD} {g i b:Bool} {p:Nat} (S:u.away.l.length≤1000) (hN:1100≤N) (hL:L.length≤1000) (G:∀ t ∈ L,Z3 u t) (hs:C2 u=true) (Y:p≤1000) (I:ks.length≤1000)
  (T:K ks.length (Av ks)=X) (U:∀ t:StD,Z3 u t→k0 (ks.length+1) ((p+1:Nat):Int) (Av (ks++[t.k])) t.av=X):∀ (m j fuel:Nat) (C:List StD),j+m=L.length→m<fuel→C.length≤j→(∀ t ∈ C,Z3 u t) →
  Ni N k0 K h (Av raw) raw.length g i L.length b u.av s.av (L.flatMap StD.av) fuel ks.length (p:Int) C.length (j:Int) (Av ks) (C.flatMap StD.av)=X
 | 0,j,fuel+1,C,hj,_,hC,M=>by
  rw[Ni];unfold Vf
  rw[Ku (by omega),cf]
  by_cases h0:C.length=0
  ·rw[show(((C.length:Nat):Int)==0)=true by simpa using h0,ct];exact T
  ·rw[show(((C.length:Nat):Int)==0)=false by simpa using h0,cf]
   have pick:∀ (k:Nat) (G:k<C.length),(cond (Nat.ble 2 (List.length (List.drop (0+(Int.toNat (k:Int))*2) (C.flatMap StD.av)))) (cond ((Nat.beq (List.length (List.take 2 (List.drop (0+(Int.toNat (k:Int))*2) (C.flatMap StD.av)))) 2)&&((Nat.ble 2 (List.length s.av))&&(!false))) (An .i64 (setCells s.av 0 (List.take 2 (List.drop (0+(Int.toNat (k:Int))*2) (C.flatMap StD.av)))) fun ae=>(cond ((Nat.ble (ks.length+1) 140737488355328)&&(Nat.ble ((ks.length+1)*8) 140737488355328)) (k0 (ks.length+1) (IntKind.wrap .i64 ((p:Int)+1)) ((List.take (ks.length*1) (Av ks))++[(.int .i64 ae)]) (setCells s.av 0 (List.take 2 (List.drop (0+(Int.toNat (k:Int))*2) (C.flatMap StD.av))))) none)) none) none)=X:=by
    intro k G
    rw[Ahy G,mT,ct,mU,Bbs,ct,A8t,Ahx,show((Nat.ble (ks.length+1) 140737488355328)&&(Nat.ble ((ks.length+1)*8) 140737488355328))=true by rw[Bool.and_eq_true,Nat.ble_eq,Nat.ble_eq];omega,ct,wS (by omega),A5z]
    exact U _ (M _ (List.getElem_mem G))
   by_cases hr:p<raw.length
   ·rw[Jh hr,ct,Aa hr,ct,Cj hr]
    have F:(0:Int)<(C.length:Int):=by omega
    have e:Int.tmod (IntKind.wrap .i64 (Int.tmod raw[p] (C.length:Int)+(C.length:Int))) (C.length:Int)=(((raw[p]%(C.length:Int)).toNat:Nat):Int):=by
     rw[Anu F (by omega),Af7 F]
     have:=Int.emod_nonneg raw[p] (show(C.length:Int)≠0 by omega)
     omega
    have D:(raw[p]%(C.length:Int)).toNat<C.length:=by
     have:=Int.emod_lt_of_pos raw[p] F
     have:=Int.emod_nonneg raw[p] (show(C.length:Int)≠0 by omega)
     omega
    rw[cf,cf]
    simp only[e]
    rw[Aa D,ct]
    exact pick _ D
   ·rw[Ku (by omega),cf,show Ac 0 C.length=true by simp[Ac];omega,ct]
    exact pick 0 (by omega)
 | m+1,j,fuel+1,C,hj,hf,hC,M=>by
  rw[Ni];unfold Vf
  have D:j<L.length:=by omega
  have ho:=G L[j] (List.getElem_mem D)
  rw[Jh D,ct,Dr,ct,Aa D,ct,Ahy D,A8v,B8,qt S hN (t4 hs ho).2.2,wS (by omega)]
  cases mV u p L[j].k with
  | false=>rw[cf];exact tp S hN hL G hs Y I T U m (j+1) fuel C (by omega) (by omega) (by omega) M
  | true =>
   rw[ct,ct,mT,ct,mU,show ∀ t:StD,((Nat.beq (List.length t.av) 2)&&(Nat.ble 2 2))=true from fun _=>rfl,ct,A5y (by omega),ct,Bbq,A1m,QJ]
   have:=tp (N:=N) (k0:=k0) (h:=h) (raw:=raw) (g:=g) (i:=i) (b:=b) (s:=s) S hN hL G hs Y I T U m (j+1) fuel (C++[L[j]]) (by omega) (by omega) (by simp;omega) (fun t ht=>by
    rcases List.mem_append.1 ht with V | V
    ·exact M t V
    ·rw[List.mem_singleton.1 V];exact ho)
   rw[List.length_append] at this
   exact this
theorem yB {N:Nat} {X:O R} {K:Nat→LA→O R} {h:Int} {raw:List Int} {u:UnitD} {g i b:Bool} (F:u.away.l.length≤1000) (hN:1100≤N) (hs:C2 u=true) (I:h≤1000) (H:∀ ks:List Int,ks.length≤h→K ks.length (Av ks)=X):∀ (m fuel:Nat) (ks:List Int) (s:StD),ks.length+m=h→m<fuel→Z3 u s →
  Ha N K h (Av raw) raw.length g i b u.av fuel ks.length (ks.length:Int) (Av ks) s.av=X
 | 0,fuel+1,ks,s,M,_,_=>by
  rw[Ha];unfold Vg
  rw[show decide ((ks.length:Int)<h)=false by simp;omega,show(false==true)=false from rfl,cf]
  exact H ks (by omega)
 | m+1,fuel+1,ks,s,M,T,D=>by
  rw[Ha];unfold Vg
  rw[show decide ((ks.length:Int)<h)=true by simp;omega,show(true==true)=true from rfl,ct,Dr,ct,B8,Km,hs,show(cond true true false)=true from rfl]
  dsimp only
  rw[ct]
  unfold X7 GZ
  rw[Dr,ct,uU,ct,B8,A1m,kZ hN hs D]
  have:=t5 (u:=u) (s:=s)
  refine tp (L:=Jv u s) (C:=[]) F hN (by omega) (Ahw hs D) hs (by omega) (by omega) (H ks (by omega)) (fun t S=>?_) (Jv u s).length 0 N (by omega) (by omega) (by simp) (by simp)
  have G:=yB (N:=N) (K:=K) (raw:=raw) (g:=g) (i:=i) (b:=b) F hN hs I H m fuel (ks++[t.k]) t (by simp;omega) (by omega) S
  rw[List.length_append] at G
  exact G
theorem A6q {N:Nat} {X:O R} {K:Nat→LA→O R} {h:Int} {raw:List Int} {u:UnitD} {g i b:Bool} {n:Nat} (hn:n=raw.length) (k:u.away.l.length≤1000) (hN:1100≤N) (hs:C2 u=true) (C:0≤h∧h≤1000) (H:∀ ks:List Int,ks.length≤h→K ks.length (Av ks)=X):W4 N u.av b h (Av raw) n g i K=X:=by
 subst hn
 rw[fF];unfold LF
 rw[Dr,ct,B8,QI hs,show ∀ t:StD,((Nat.beq (List.length t.av) 2)&&((Nat.ble 2 2)&&(!false)))=true from fun _=>rfl,ct,Bbq]
 exact yB k hN hs C.2 H h.toNat N [] (Ez u) (by simp;omega) (by omega) (gP hs)
theorem Aon {N:Nat} {K:Int→O R} {raw:List Int} {g i:Bool} {n:Nat} {a c:Int} (hn:n=raw.length) (D:0≤a) (F:c≤1000000000):∃ v:Int,0≤v∧(v=0∨v≤c)∧∀ K:Int→O R,QS N (Av raw) n g i a c K=K v:=by
 subst hn
 by_cases k:a≥(raw.length:Int)
 ·refine⟨0,by omega,.inl rfl,fun K=>?_⟩
  rw[CW];unfold QR
  rw[decide_eq_true k];rfl
 ·by_cases C:c≤0
  ·refine⟨0,by omega,.inl rfl,fun K=>?_⟩
   rw[CW];unfold QR
   rw[decide_eq_false k,decide_eq_true C];rfl
  ·have hi:a.toNat<raw.length:=by omega
   obtain⟨j,rfl⟩:∃ j:Nat,a=j:=⟨a.toNat,by omega⟩
   rw[Int.toNat_natCast] at hi
   refine⟨IntKind.wrap .i64 (Int.tdiv raw[j] 3)%(c+1),Int.emod_nonneg _ (by omega),.inr (by have:=Int.emod_lt_of_pos (IntKind.wrap .i64 (Int.tdiv raw[j] 3)) (show 0<c+1 by omega);omega),fun K=>?_⟩
   rw[CW];unfold QR
   rw[decide_eq_false k,decide_eq_false C,show(false==false)=true from rfl,ct,show(cond false true false)=false from rfl,cf,Aa hi,ct,Cj hi,i64 (a:=c+1) (by omega),Bdm (by omega) (by omega)]
end
end Gx

namespace Gx
open Go Go.Proofs
section
variable {R:Type}
def A83 (p:PlanD) (c:Int):Bool:=decide ((p.st.l.length:Int)=c)&&(decide ((p.en.l.length:Int)=c)&&decide ((p.re.l.length:Int)=c))
def Bdz (u:UnitD) (c:Int) (p:PlanD):Int×Int:=cond (D3 u c) (cond (A83 p c) (A80 u 0 (Ez u) (u.state==2) (u.output:Rat) p.st.l p.en.l p.re.l) (0,4)) (0,1)
theorem A1q (a b:Int):(a != b)=!decide (a=b):=by by_cases h:a=b<;>simp[h]
section
variable {N:Nat} {u:UnitD} {p:PlanD} {f e:Bool} {c:Int}
theorem Alk {K:Int→Int→O R} (hN:4000≤N) (L:fit 2000 N) (M:u.away.l.length≤1000) (oe:okR p.en.l) (or:okR p.re.l):Zb N u.av f c p.av e K=K (Bdz u c p).1 (Bdz u c p).2:=by
 rw[qd];unfold gN Bdz
 rw[Dr,ct,B8,Rc (by omega) (by omega) (by omega)]
 cases S:D3 u c with
 | false=>rfl
 | true =>
  obtain⟨hs,G,Y⟩:=UY S
  rw[show(!true)=false from rfl,cf,p0,p1,p2,A1q,A1q,A1q]
  unfold A83
  by_cases k:(p.st.l.length:Int)=c
  ·by_cases D:(p.en.l.length:Int)=c
   ·by_cases I:(p.re.l.length:Int)=c
    ·simp only[k,D,I,decide_true,Bool.not_true,beq_self_eq_true,Bd7,cf,Bool.and_self,cond_true]
     unfold LD UT
     rw[Dr,ct,p0,B8]
     have F:=G
     unfold uR at F
     have fin:∀ (j lf:Int),lf=cond (Fr u 0 (Ez u) p.st.l).2 0 16→((Fr u 0 (Ez u) p.st.l).2=false→j=(Fr u 0 (Ez u) p.st.l).1.length)→(An .i64 (List.drop 19 u.av) fun ak=>(An .i64 (List.drop 21 u.av) fun al=>(Cr N al (fun x=>(cond ((Nat.beq 0 0)&&((Nat.beq (List.length x) 3)&&(Nat.beq 3 3))) (K8 N K c j lf f u.av e p.av N (ak==(2:Int)) 0 false x) none)))))=K (A80 u 0 (Ez u) (u.state==2) (u.output:Rat) p.st.l p.en.l p.re.l).1 (A80 u 0 (Ez u) (u.state==2) (u.output:Rat) p.st.l p.en.l p.re.l).2:=by
      intro j lf T U
      rw[A2s,A9z]
      refine P3 (by omega) (by omega) fun x V=>?_
      rw[c3,ct]
      have:=Alc (R:=R) (N:=N) (n:=p.st.l.length) (K:=K) (f:=f) (e:=e) (j:=j) (lf:=lf) (by omega) L hs G rfl (by omega) (by omega) (by omega) oe or p.st.l.length 0 N (Ez u) (u.state==2) (u.output:Rat) x false (by omega) (by omega) (gP hs) (V.is (by have:=qi (v:=u.output) (by omega);omega)) (by simpa using T) (by simpa using U)
      rw[k] at this
      exact this
     refine Ah0 (by omega) hs M (by omega) rfl (fun C=>?_) (fun C=>?_)
     ·exact fin _ _ (by rw[C];rfl) (fun h=>by rw[C] at h;cases h)
     ·exact fin _ _ (by rw[C];rfl) (fun _=>rfl)
    ·simp[k,D,I]
   ·simp[k,D]
  ·simp[k]
end
end
end Gx

namespace Gx
open Go Go.Proofs
section
variable {R:Type}
def rq (v:Int):RatD:=As9 (v:Rat)
theorem Bbw {v:Int} (h:-9223372036854775808≤v∧v≤9223372036854775807):(rq v).is (v:Rat) 4:=(pi _).is (by have:=qi h;omega)
def tq (l:List Int):LA:=(l.map rq).flatMap RatD.av
theorem Bau (l:List Int):(tq l).length=l.length*3:=by
 induction l with
 | nil=>rfl
 | cons a r k=>unfold tq at k ⊢;rw[List.map_cons,List.flatMap_cons,List.length_append,k];simp[RatD.av];omega
theorem Asu (l:List Int):List.take (l.length*3) (tq l)=tq l:=by rw[←Bau,List.take_length]
theorem Axr (l:List Int) (v:Int):List.take (l.length*3) (tq l)++List.take 3 (setCells [(.bool false),.nsl,.nsl] 0 (rq v).av)=tq (l++[v]):=by
 rw[Asu];unfold tq;rw[List.map_append,List.flatMap_append];rfl
theorem Bet {j:Nat} (h:j≤1000000000000):((Nat.ble (j+1) 140737488355328)&&(Nat.ble ((j+1)*56) 140737488355328))=true:=by
 rw[Bool.and_eq_true,Nat.ble_eq,Nat.ble_eq];omega
def Axs (u:UnitD) (A:List Int):Nat→Int
 | 0=>u.output
 | i+1=>A.getD i 0
structure Gd (u:UnitD) (ks:List Int) (n h:Nat) (v p r:Int):Prop where
 on:Bu ks h=true→((Ge u ks n h).lo≤p∧p≤(Ge u ks n h).hi)∧(0≤r∧r≤u.reserve∧p+r≤u.max)
 was:Bu ks h=true→La u ks h=true→p+r - v≤u.rampUp∧v - p≤u.rampDown
 st:Bu ks h=true→La u ks h=false→p+r≤u.startRamp
 off:Bu ks h=false→p=0∧r=0
theorem Gd.rng {u:UnitD} {ks:List Int} {n h:Nat} {v p r:Int} (ok:UOk u) (C:uR u) (D:h<n) (g:Gd u ks n h v p r):(0≤p∧p≤1048576)∧(0≤r∧r≤1048576):=by
 unfold uR at C
 cases k:Bu ks h with
 | true =>
  have:=g.on k
  have:=tc (ks:=ks) (n:=n) ok (n - 1 - h) h (by omega)
  have:=zX (ks:=ks) (n:=n) ok h
  have:=qu (ks:=ks) ok h
  omega
 | false=>have:=g.off k;omega
def GdA (u:UnitD) (ks:List Int) (n m:Nat) (A B:List Int):Prop:=A.length=m∧B.length=m∧∀ i,i<m→Gd u ks n i (Axs u A i) (A.getD i 0) (B.getD i 0)
theorem GdA.snoc {u:UnitD} {ks:List Int} {n m:Nat} {A B:List Int} (g:GdA u ks n m A B) {p r:Int} (h:Gd u ks n m (Axs u A m) p r):GdA u ks n (m+1) (A++[p]) (B++[r]):=by
 obtain⟨k,C,D⟩:=g
 have gl:∀ {L:List Int} {x:Int} {i:Nat},i<L.length→(L++[x]).getD i 0=L.getD i 0:=fun {L x i} hi=>by
  rw[List.getD_eq_getElem?_getD,List.getD_eq_getElem?_getD,List.getElem?_append_left hi]
 have gs:∀ {L:List Int} {x:Int},(L++[x]).getD L.length 0=x:=fun {L x}=>by
  rw[List.getD_eq_getElem?_getD,List.getElem?_append_right (Nat.le_refl _)];simp
 have pv:∀ i,i≤m→Axs u (A++[p]) i=Axs u A i:=fun i hi=>by
  cases i with
  | zero=>rfl
  | succ i=>exact gl (by omega)
 refine⟨by simp[k],by simp[C],fun i hi=>?_⟩
 rw[pv i (by omega)]
 by_cases e:i=m
 ·subst e
  have e1:(A++[p]).getD i 0=p:=by rw[←k];exact gs
  have F:(B++[r]).getD i 0=r:=by rw[←C];exact gs
  rw[e1,F];exact h
 ·rw[gl (by omega),gl (by omega)];exact D i (by omega)
theorem Bc2 {u:UnitD} {ks:List Int} {n h:Nat} {A B:List Int} (ok:UOk u) (G:Ij u ks n=false) (I:h<n) (C:Bu ks h=true) (g:GdA u ks n h A B):(Ge u ks n h).lo≤(Ge u ks n h).hi∧(La u ks h=true→(Ge u ks n h).lo≤Axs u A h+u.rampUp∧Axs u A h - u.rampDown≤(Ge u ks n h).hi)∧(La u ks h=false→(Ge u ks n h).hi≤u.startRamp)∧u.min≤(Ge u ks n h).lo∧(Ge u ks n h).hi≤u.max:=by
 have e:(Ge u ks n h).lo≤(Ge u ks n h).hi:=by
  rw[qv ok,List.any_eq_false] at G
  have:=G h (by simpa using I)
  simp at this;omega
 have r1:=tc (ks:=ks) (n:=n) ok (n - 1 - h) h (by omega)
 have D:=zX (ks:=ks) (n:=n) ok h
 have L:=qu (ks:=ks) ok h
 have M:=L.2.2.2.2 C
 refine⟨e,fun F=>?_,fun F=>?_,by omega,by omega⟩
 ·cases h with
  | zero =>
   have f:Sw u ks 0=⟨Gc u.min (u.output - u.rampDown),Bj u.max (u.output+u.rampUp)⟩:=by
    rw[Sw,C,show(u.state==2)=true from F];rfl
   rw[f] at D
   simp only[Ey,H6] at D
   have S:=ok.b
   show _≤u.output+_∧u.output - _≤_
   omega
  | succ h =>
   have k:Bu ks h=true:=F
   have gd:=(g.2.2 h (by omega)).on k
   have st:=Zf u ks (n:=n) (h:=h) I
   rw[k,C] at st
   simp only[Bool.and_true,cond_true] at st
   rw[st] at gd
   simp only[Ey,H6] at gd
   show _≤A.getD h 0+_∧A.getD h 0 - _≤_
   omega
 ·have f:Sw u ks h=⟨u.min,u.startRamp⟩:=by rw[A81 C,F];rfl
  rw[f] at D
  simp only at D
  omega
section
variable {N n:Nat} {X:O R} {u:UnitD} {ks raw:List Int} {K0 K1:LA→O R} {l g i:Bool}
theorem A3h {k0:Int→Int→Nat→Nat→LA→LA→O R} {A B:List Int} {p:Nat} {a b:Int} {o:LA} (hN:4000≤N) (F:p≤1000) (C:A.length=p) (D:B.length=p) (G:0≤a∧a≤1048576) (I:0≤b∧b≤1048576) :
  Gk N k0 K0 K1 (n:Int) n (Av raw) raw.length l g n (Av ks) i u.av o (p:Int) a b p p (tq A) (tq B)=k0 a ((p+1:Nat):Int) (p+1) (p+1) (tq (A++[a])) (tq (B++[b])):=by
 unfold Gk
 rw[XB (by omega) hN,show((Nat.beq (List.length (As9 (a:Rat)).av) 3)&&(Nat.ble 3 3))=true from rfl,ct,Bet (by omega),ct,XB (by omega) hN,show((Nat.beq (List.length (As9 (b:Rat)).av) 3)&&(Nat.ble 3 3))=true from rfl,ct,ct,wS (by omega)]
 have e1:=Axr A a
 have k:=Axr B b
 rw[C] at e1;rw[D] at k
 unfold rq at e1 k
 rw[e1,k]
theorem Bav {k0:Int→Int→Nat→Nat→LA→LA→O R} {A B:List Int} {p:Nat} (hN:4000≤N) (G:p<n) (hn:n≤1000) (ok:UOk u) (C:uR u) (U:Ij u ks n=false) (D:Bu ks p=true) (gg:GdA u ks n p A B)
  (H:∀ a b,Gd u ks n p (Axs u A p) a b→k0 a ((p+1:Nat):Int) (p+1) (p+1) (tq (A++[a])) (tq (B++[b]))=X) :
  I8 N k0 K0 K1 (n:Int) n (Av raw) raw.length l g n (Ge u ks n p).lo (Ge u ks n p).hi u.max (Av ks) i u.av (tb n (Ge u ks n)) (Axs u A p) (p:Int) (La u ks p) p p (tq A) (tq B)=X:=by
 have F:=C
 unfold uR at F
 obtain⟨w1,V,w3,w4,w5⟩:=Bc2 ok U G D gg
 have r1:=tc (ks:=ks) (n:=n) ok (n - 1 - p) p (by omega)
 have Y:0≤Axs u A p∧Axs u A p≤1048576:=by
  cases p with
  | zero=>show 0≤u.output∧u.output≤_;omega
  | succ q=>exact((gg.2.2 q (by omega)).rng ok C (by omega)).1
 unfold I8 S5
 have I:∀ lo hi top:Int,0≤lo→lo≤hi→hi≤1048576→hi≤top→top≤2097152→(∀ a b,lo≤a→a≤hi→0≤b→b≤u.reserve→a+b≤top→Gd u ks n p (Axs u A p) a b) →
   N3 N k0 K0 K1 (n:Int) n (Av raw) raw.length l g n (Av ks) i u.av (tb n (Ge u ks n)) (p:Int) lo hi top p p (tq A) (tq B)=X:=by
  intro lo hi top h0 L M S T hg
  unfold N3 Sz
  rw[i64 (a:=2*(p:Int)) (by omega),i64 (a:=hi - lo) (by omega),i64 (a:=2*(p:Int)+1) (by omega)]
  obtain⟨v,v1,v2,ev⟩:=Aon (R:=R) (N:=N) (raw:=raw) (g:=false) (i:=g) (n:=raw.length) (a:=2*(p:Int)) (c:=hi - lo) rfl (by omega) (by omega) (K:=fun _=>none)
  rw[ev]
  rw[Bd9,i64 (a:=lo+v) (by omega),i64 (a:=top - (lo+v)) (by omega)]
  obtain⟨w,x1,x2,ew⟩:=Aon (R:=R) (N:=N) (raw:=raw) (g:=false) (i:=g) (n:=raw.length) (a:=2*(p:Int)+1) (c:=Bj u.reserve (top - (lo+v))) rfl (by omega) (by rw[Ey];omega) (K:=fun _=>none)
  rw[ew]
  rw[Ey] at x2
  have gd:=hg (lo+v) w (by omega) (by omega) x1 (by omega) (by omega)
  have gr:=gd.rng ok C G
  dsimp only
  rw[A3h hN (by omega) gg.1 gg.2.1 gr.1 gr.2]
  exact H _ _ gd
 cases k:La u ks p with
 | true =>
  obtain⟨y1,y2⟩:=V k
  rw[ct,u7,u6,u6,i64 (a:=Axs u A p - u.rampDown) (by omega),i64 (a:=Axs u A p+u.rampUp) (by omega)]
  simp only[Ey,H6]
  refine I _ _ _ (by omega) (by omega) (by omega) (by omega) (by omega) fun a b L M S T h5=>⟨fun _=>by omega,fun _ _=>by omega,fun _ hq=>?_,fun hq=>?_⟩
  ·rw[k] at hq;cases hq
  ·rw[D] at hq;cases hq
 | false =>
  have y:=w3 k
  have oc:=ok.c
  rw[cf,u8]
  simp only[Ey]
  refine I _ _ _ (by omega) (by omega) (by omega) (by omega) (by omega) fun a b L M S T h5=>⟨fun _=>by omega,fun _ hq=>?_,fun _ _=>by omega,fun hq=>?_⟩
  ·rw[k] at hq;cases hq
  ·rw[D] at hq;cases hq
theorem Aoo (hN:4000≤N) (hn:n≤1000) (F:ks.length=n) (ok:UOk u) (G:uR u) (I:Ij u ks n=false) (H:∀ A B,GdA u ks n n A B→K1 [(.imm (Av ks) n 1 false false),(.imm (tq A) n 3 false false),(.imm (tq B) n 3 false false)]=X) :
  ∀ (m p fuel:Nat) (A B:List Int),p+m=n→m<fuel→GdA u ks n p A B→Ca N K0 K1 (n:Int) n (Av raw) raw.length l g n (Av ks) i u.av (tb n (Ge u ks n)) fuel (Axs u A p) (p:Int) p p (tq A) (tq B)=X
 | 0,p,fuel+1,A,B,S,_,gg=>by
  rw[Ca];unfold Mj
  obtain rfl:p=n:=by omega
  have e1:=Asu A
  have L:=Asu B
  rw[gg.1] at e1
  rw[gg.2.1] at L
  rw[Ku (Nat.le_refl _),cf,e1,L,Nat.mul_one]
  have e3:=Ed ks
  rw[F] at e3
  rw[show List.take p (Av ks)=Av ks by rw[←e3,List.take_length]]
  exact H A B gg
 | m+1,p,fuel+1,A,B,S,T,gg=>by
  rw[Ca];unfold Mj
  have h:p<n:=by omega
  have C:p<ks.length:=by omega
  have M:∀ a b,Gd u ks n p (Axs u A p) a b→Ca N K0 K1 (n:Int) n (Av raw) raw.length l g n (Av ks) i u.av (tb n (Ge u ks n)) fuel a ((p+1:Nat):Int) (p+1) (p+1) (tq (A++[a])) (tq (B++[b]))=X:=fun a b gd=>by
   have:=Aoo hN hn F ok G I H m (p+1) fuel (A++[a]) (B++[b]) (by omega) (by omega) (gg.snoc gd)
   rwa [show Axs u (A++[a]) (p+1)=a by show(A++[a]).getD p 0=a;rw[List.getD_eq_getElem?_getD,←gg.1,List.getElem?_append_right (Nat.le_refl _)];simp] at this
  rw[Jh h,ct,Aa h,ct,Nat.zero_add,Cj C,←Fy C]
  cases D:Bu ks p with
  | false =>
   rw[cf]
   dsimp only
   rw[A3h hN (by omega) gg.1 gg.2.1 (by omega) (by omega)]
   exact M 0 0 ⟨fun hq=>(by rw[D] at hq;cases hq),fun hq=>(by rw[D] at hq;cases hq),fun hq=>(by rw[D] at hq;cases hq),fun _=>⟨rfl,rfl⟩⟩
  | true =>
   have k:=Bav (k0:=Ca N K0 K1 (n:Int) n (Av raw) raw.length l g n (Av ks) i u.av (tb n (Ge u ks n)) fuel) (K0:=K0) (K1:=K1) (raw:=raw) (l:=l) (g:=g) (i:=i) hN h hn ok G I D gg M
   rw[ct,ct,fB h,ct,fC h,u3]
   cases p with
   | zero =>
    rw[show((((0:Nat):Int)==0)==true)=true from rfl,ct,A2s]
    rw[show La u ks 0=(u.state==2) from rfl] at k
    cases hs:(u.state==2) with
    | true=>rw[hs] at k;exact k
    | false=>rw[hs] at k;exact k
   | succ q =>
    rw[show((((q+1:Nat):Int)==0)==true)=false by simp;omega,cf,show(decide (((q+1:Nat):Int)>0)==true)=true by simp,ct,show IntKind.wrap .i64 (((q+1:Nat):Int) - 1)=(q:Int) by rw[i64 (by omega)];omega,Aa (by omega),ct,Nat.zero_add,Cj (by omega),←Fy (by omega)]
    rw[show La u ks (q+1)=Bu ks q from rfl] at k
    cases hs:Bu ks q with
    | true=>rw[hs] at k;exact k
    | false=>rw[hs] at k;exact k
theorem All {h:Int} {m:Nat} (S:m=raw.length) (hn:n=ks.length) (T:u.away.l.length≤1000) (U:ks.length≤1000) (hN:4096≤N)
  (V:ZZ u h ks≠0→K0 [(.imm [] 0 1 false false),(.imm [] 0 3 false false),(.imm [] 0 3 false false)]=X)
  (G:ZZ u h ks=0→∀ A B,GdA u ks n n A B→K1 [(.imm (Av ks) n 1 false false),(.imm (tq A) n 3 false false),(.imm (tq B) n 3 false false)]=X):Ks N u.av i h n (Av raw) m l g (Av ks) K0 K1=X:=by
 subst S
 rw[HA];unfold Sc
 rw[Dr,ct,B8,Nat.mul_one,hn,←Ed ks,List.take_length,Ed,←hn]
 refine zc T U hN hn (fun k=>?_) (fun k=>?_)
 ·rw[show((0:Int) != 0)=false from rfl,cf,A9z]
  have G:=G k
  unfold ZZ at k
  cases F:D3 u h with
  | false=>rw[F] at k;simp at k
  | true =>
   rw[F] at k
   have ok:=QU F
   obtain⟨hs,Y,hh⟩:=UY F
   simp only[Bool.not_true,cond_false] at k
   cases D:((ks.length:Int) != h) with
   | true=>rw[D] at k;simp at k
   | false =>
    rw[D] at k
    have C:(ks.length:Int)=h:=by simpa using D
    cases L:(Fr u 0 (Ez u) ks).2 with
    | false=>rw[L] at k;simp at k
    | true =>
     rw[L] at k
     cases M:((u.state==2&&!Bu ks 0)&&decide (u.output>u.stopRamp)) with
     | true=>rw[M] at k;simp at k
     | false =>
      rw[M] at k
      cases I:Ij u ks ks.length with
      | true=>rw[I] at k;simp at k
      | false =>
       rw[←hn] at I C
       rw[←C]
       exact Aoo (by omega) (by omega) hn.symm ok Y I G n 0 N [] [] (by omega) (by omega) ⟨rfl,rfl,fun i hi=>by omega⟩
 ·rw[show(ZZ u h ks != 0)=true by simpa using k,ct]
  exact V k
end
end
end Gx

namespace Gx
open Go Go.Proofs
set_option maxRecDepth 100000
section
variable {R:Type}
variable {N:Nat} {u:UnitD} {p:PlanD} {f e:Bool} {c:Int}
def Bdg (ks:List Int) (en re:List RatD) (a b c:Bool):PlanD:=⟨.of ks false a,.of en false b,.of re false c⟩
theorem A84 {ks:List Int} {en re:List RatD} {a b c:Bool}:[AV.imm (Av ks) ks.length 1 false a,.imm (en.flatMap RatD.av) en.length 3 false b,.imm (re.flatMap RatD.av) re.length 3 false c]=(Bdg ks en re a b c).av:=by
 rw[←Fl];rfl
end
end Gx

namespace Gx.Cf
open Go Go.Proofs
inductive Sl (α:Type) where
 | nil
 | of (l:List α) (t o:Bool)
def Sl.l {α:Type}:Sl α→List α
 | .nil=>[]
 | .of l _ _=>l
def Sl.av {α:Type} (sz:Nat) (e:α→LA):Sl α→AV
 | .nil=>.nsl
 | .of l t o=>.imm (l.flatMap e) l.length sz t o
def GC (n:Int):LA:=[.int .i64 n]
def Av (l:List Int):LA:=l.map fun n=>.int .i64 n
theorem Fl:∀ l:List Int,l.flatMap GC=Av l
 | []=>rfl
 | a::r=>by rw[List.flatMap_cons,Fl r];rfl
theorem Ed (l:List Int):(Av l).length=l.length:=by simp[Av]
theorem yC (l m:List Int):Av l++Av m=Av (l++m):=by simp[Av]
structure FracD where
 num:Int
 den:Int
structure BusD where
 name:List UInt8
 demand:Sl Int
 shed:Int
structure LineD where
 name:List UInt8
 fr:Int
 to:Int
 re:FracD
 smin:FracD
 smax:FracD
 limit:Int
 emer:Int
 away:Sl Int
structure SegD where
 width:Int
 price:Int
structure UnitD where
 name:List UInt8
 bus:Int
 min:Int
 max:Int
 segs:Sl SegD
 noLoad:Int
 rampUp:Int
 rampDown:Int
 startRamp:Int
 stopRamp:Int
 upTime:Int
 downTime:Int
 startTime:Int
 hotCost:Int
 coldCost:Int
 hotHours:Int
 reserve:Int
 reservePrice:Int
 away:Sl Int
 state:Int
 hours:Int
 output:Int
structure StoreD where
 name:List UInt8
 bus:Int
 capacity:Int
 initial:Int
 final:Int
 charge:Int
 discharge:Int
 eff:FracD
structure TieD where
 name:List UInt8
 bus:Int
 imp:Sl Int
 exp:Sl Int
 price:Sl Int
structure MoveD where
 unit:Int
 up:Int
 down:Int
structure OutD where
 name:List UInt8
 lines:Sl Int
 corr:Bool
 moves:Sl MoveD
structure CaseD where
 hours:Int
 reserve:Sl Int
 buses:Sl BusD
 lines:Sl LineD
 units:Sl UnitD
 stores:Sl StoreD
 ties:Sl TieD
 outs:Sl OutD
def BusD.av (b:BusD):LA:=[.str b.name,b.demand.av 1 GC,.int .i64 b.shed]
def LineD.av (b:LineD):LA:=[.str b.name,.int .i64 b.fr,.int .i64 b.to,.int .i64 b.re.num,.int .i64 b.re.den,.int .i64 b.smin.num,.int .i64 b.smin.den,.int .i64 b.smax.num,.int .i64 b.smax.den,.int .i64 b.limit,.int .i64 b.emer,b.away.av 1 GC]
def SegD.av (s:SegD):LA:=[.int .i64 s.width,.int .i64 s.price]
def UnitD.av (u:UnitD):LA:=[.str u.name,.int .i64 u.bus,.int .i64 u.min,.int .i64 u.max,u.segs.av 2 SegD.av,.int .i64 u.noLoad,.int .i64 u.rampUp,.int .i64 u.rampDown,.int .i64 u.startRamp,.int .i64 u.stopRamp,.int .i64 u.upTime,.int .i64 u.downTime,.int .i64 u.startTime,.int .i64 u.hotCost,.int .i64 u.coldCost,.int .i64 u.hotHours,.int .i64 u.reserve,.int .i64 u.reservePrice,u.away.av 1 GC,.int .i64 u.state,.int .i64 u.hours,.int .i64 u.output]
def StoreD.av (s:StoreD):LA:=[.str s.name,.int .i64 s.bus,.int .i64 s.capacity,.int .i64 s.initial,.int .i64 s.final,.int .i64 s.charge,.int .i64 s.discharge,.int .i64 s.eff.num,.int .i64 s.eff.den]
def TieD.av (t:TieD):LA:=[.str t.name,.int .i64 t.bus,t.imp.av 1 GC,t.exp.av 1 GC,t.price.av 1 GC]
def MoveD.av (m:MoveD):LA:=[.int .i64 m.unit,.int .i64 m.up,.int .i64 m.down]
def OutD.av (o:OutD):LA:=[.str o.name,o.lines.av 1 GC,.bool o.corr,o.moves.av 3 MoveD.av]
def CaseD.av (c:CaseD):LA:=[.int .i64 c.hours,c.reserve.av 1 GC,c.buses.av 3 BusD.av,c.lines.av 12 LineD.av,c.units.av 22 UnitD.av,c.stores.av 9 StoreD.av,c.ties.av 5 TieD.av,c.outs.av 4 OutD.av]
section
variable {R:Type}
theorem Hv {α:Type} {sz:Nat} {e:α→LA} {s:Sl α} {r:LA} {f:LA→Nat→O R}:Co sz (s.av sz e::r) f=f (s.l.flatMap e) s.l.length:=by
 cases s<;>simp[Co,Sl.av,Sl.l,A3v]
theorem HC {s:List UInt8} {r:LA} {f:List UInt8→O R}:As8 (.str s::r) f=f s:=by simp[As8,uJ]
theorem A85 {b:Bool} {r:LA} {f:Bool→O R}:NC (.bool b::r) f=f b:=by simp[NC,asBool]
theorem E5 (a b:Nat):Nat.ble a b=decide (a≤b):=by
  cases h:Nat.ble a b with
  | true=>simp at h;simp[h]
  | false => have : ¬ a ≤ b := fun k => by rw [Nat.ble_eq_true_of_le k] at h; cases h
             simp[this]
theorem Asv (a b:Nat):Nat.beq a b=decide (a=b):=by
  cases h:Nat.beq a b with
  | true=>have:=Nat.eq_of_beq_eq_true h;simp[this]
  | false => have : a ≠ b := fun e => by subst e; rw [Nat.beq_refl] at h; cases h
             simp[this]
theorem ct (x y:O R):cond true x y=x:=rfl
theorem cf (x y:O R):cond false x y=y:=rfl
theorem Bh {α:Type} {e:α→LA} {sz:Nat} (k:∀ a,(e a).length=sz):∀ (l:List α) (j:Nat) (h:j<l.length),List.drop (j*sz) (l.flatMap e)=e l[j]++(l.drop (j+1)).flatMap e
 | a::r,0,_=>by simp
 | a::r,j+1,h=>by
  have:=Bh k r j (by simpa using h)
  rw[List.flatMap_cons,List.drop_append,k,show(j+1)*sz - sz=j*sz by rw[Nat.add_mul];omega,List.drop_eq_nil_of_le (by rw[k,Nat.add_mul];omega)]
  simpa using this
theorem OS {l:List Int} {i:Nat} (h:i<l.length) {f:Int→O R}:An .i64 (List.drop i (Av l)) f=f l[i]:=by
 rw[Av,List.drop_eq_getElem_cons (by simpa using h)];simp[Ay]
abbrev Js:=Option ((Int×Int×Int)×{ e:Int // e≠0 })
def nd (p:Js) (ok:Bool) (w:Int×Int×Int) (e:{ e:Int // e≠0 }):Js:=match p with
 | some x=>some x
 | none=>cond ok none (some (w,e))
theorem VA (p:Js) (w:Int×Int×Int) (e:{ e:Int // e≠0 }):nd p true w e=p:=by cases p<;>rfl
theorem Baw (x:(Int×Int×Int)×{ e:Int // e≠0 }) (ok:Bool) (w:Int×Int×Int) (e:{ e:Int // e≠0 }):nd (some x) ok w e=some x:=rfl
theorem Axt (p:Js) (a b:Bool) (w:Int×Int×Int) (e:{ e:Int // e≠0 }):nd (nd p a w e) b w e=nd p (a&&b) w e:=by cases p<;>cases a<;>cases b<;>rfl
def A86 (p:Js) (k i:Int):LA:=match p with
 | none=>[.int .i64 k,.int .i64 i,.int .i64 0,.int .i64 0]
 | some ((a,b,f),e)=>[.int .i64 a,.int .i64 b,.int .i64 f,.int .i64 e.1]
def Fe (lo hi n:Int):Bool:=decide (lo≤n)&&decide (n≤hi)
end
end Gx.Cf

namespace Gx.Cf
open Go Go.Proofs
section
variable {R:Type}
def S6 (n N:Nat):Prop:=n<N∧n<4611686018427387904
theorem Fd {j:Nat} (h:j<4611686018427387904):IntKind.wrap .i64 ((j:Int)+1)=((j+1:Nat):Int):=by rw[Yb _ (by omega)];omega
theorem Ah7 {l:List Int} {j:Nat} (h:j<l.length) {f:Int→O R}:An .i64 (List.drop ((Int.toNat (j:Int))*1) (Av l)) f=f l[j]:=by
 rw[Int.toNat_natCast,Nat.mul_one,OS h]
theorem Jh {j n:Nat} (h:j<n):decide ((j:Int)<(n:Int))=true:=by simp;omega
theorem Ku {j n:Nat} (h:n≤j):decide ((j:Int)<(n:Int))=false:=by simp;omega
theorem C5 {α:Type} {l:List α} {j:Nat} (h:j<l.length):l.drop j=l[j]::l.drop (j+1):=List.drop_eq_getElem_cons h
theorem E9 {α:Type} {l:List α} {j:Nat} (h:l.length≤j):l.drop j=[]:=List.drop_eq_nil_of_le h
theorem QV {N:Nat} {lo hi:Int} {l:List Int} {t o:Bool} {K:Bool→O R} (hs:l.length<4611686018427387904):∀ (m j fuel:Nat),j+m=l.length→m<fuel →
  Hz N K lo hi (Av l) l.length t o fuel (j:Int)=K ((l.drop j).all (Fe lo hi))
 | 0,j,fuel+1,D,_=>by
  rw[Hz];unfold R3
  rw[Ku (by omega),cf,E9 (by omega)];rfl
 | m+1,j,fuel+1,D,G=>by
  rw[Hz];unfold R3
  have h:j<l.length:=by omega
  rw[Jh h,ct,Aa h,ct,Ah7 h,ct,Ah7 h,Fd (by omega),QV hs m (j+1) fuel (by omega) (by omega),C5 h,List.all_cons]
  unfold Fe
  by_cases k:l[j]<lo
  ·have:¬ lo≤l[j]:=by omega
   simp[k,this]
  ·have:lo≤l[j]:=by omega
   by_cases C:l[j]>hi
   ·have:¬ l[j]≤hi:=by omega
    simp[k,C,this]
   ·have F:l[j]≤hi:=by omega
    simp[k,C,this,F]
theorem Hi {N:Nat} {lo hi:Int} {l:List Int} {n:Nat} {t o:Bool} {K:Bool→O R} (hn:n=l.length) (hs:S6 l.length N):Aw N lo hi (Av l) n t o K=K (l.all (Fe lo hi)):=by
 subst hn
 rw[XS];unfold CO
 have:=QV (R:=R) (N:=N) (lo:=lo) (hi:=hi) (t:=t) (o:=o) (K:=K) hs.2 l.length 0 N (by omega) hs.1
 simpa using this
theorem D8 {N:Nat} {lo hi a:Int} {t o:Bool} {K:Bool→O R} (hN:8≤N):Aw N lo hi [.int .i64 a] 1 t o K=K (Fe lo hi a):=by
 have:=Hi (R:=R) (N:=N) (lo:=lo) (hi:=hi) (l:=[a]) (t:=t) (o:=o) (K:=K) rfl ⟨by simp;omega,by simp⟩
 simpa[Av] using this
theorem zd {N:Nat} {lo hi a b:Int} {t o:Bool} {K:Bool→O R} (hN:8≤N):Aw N lo hi [.int .i64 a,.int .i64 b] 2 t o K=K (Fe lo hi a&&Fe lo hi b):=by
 have:=Hi (R:=R) (N:=N) (lo:=lo) (hi:=hi) (l:=[a,b]) (t:=t) (o:=o) (K:=K) rfl ⟨by simp;omega,by simp⟩
 simpa[Av] using this
def Aip:List Int→Bool
 | a::b::r=>decide (a<b)&&Aip (b::r)
 | _=>true
theorem QW (a b:Int) (r:List Int):Aip (a::b::r)=(decide (a<b)&&Aip (b::r)):=by rw[Aip]
theorem rM (a:Int):Aip [a]=true:=by rw[Aip];intros;simp_all
theorem Asw:Aip []=true:=by rw[Aip];intros;simp_all
theorem Ah8 {j:Nat} (h:j+1<4611686018427387904):IntKind.wrap .i64 (((j+1:Nat):Int) - 1)=(j:Int):=by rw[Yb _ (by omega)];omega
theorem ZI {N:Nat} {l:List Int} {t o:Bool} {K:Bool→O R} (hs:l.length<4611686018427387904):∀ (m j fuel:Nat),j+1+m=l.length→m<fuel →
  G9 N K (Av l) l.length t o fuel ((j+1:Nat):Int)=K (Aip (l.drop j))
 | 0,j,fuel+1,C,_=>by
  rw[G9];unfold Ov
  rw[Ku (by omega),cf,C5 (by omega),E9 (by omega),rM]
 | m+1,j,fuel+1,C,D=>by
  rw[G9];unfold Ov
  have h:j+1<l.length:=by omega
  have h':j<l.length:=by omega
  rw[Jh h,ct,Aa h,ct,Ah7 h,Ah8 (by omega),Aa h',ct,Ah7 h',Fd (by omega),ZI hs m (j+1) fuel (by omega) (by omega),C5 h',C5 h,QW]
  by_cases k:l[j+1]≤l[j]
  ·have:¬ l[j]<l[j+1]:=by omega
   simp[k,this]
  ·have:l[j]<l[j+1]:=by omega
   simp[k,this]
theorem Z6 {N:Nat} {l:List Int} {n:Nat} {t o:Bool} {K:Bool→O R} (hn:n=l.length) (hs:S6 l.length N):Ow N (Av l) n t o K=K (Aip l):=by
 subst hn
 rw[eK];unfold KO
 rcases l with _ | ⟨a,r⟩
 ·have hN:=hs.1
  rcases N with _ | N
  ·simp at hN
  ·dsimp only;rw[G9];unfold Ov;simp[Asw]
 ·have:=ZI (R:=R) (N:=N) (t:=t) (o:=o) (K:=K) hs.2 r.length 0 N (by simp;omega) (by have:=hs.1;simp at this;omega)
  simpa using this
theorem rN {N:Nat} {v:Int} {l:List Int} {t o:Bool} {K:Bool→O R} (hs:l.length<4611686018427387904):∀ (m j fuel:Nat),j+m=l.length→m<fuel →
  Ss N K (Av l) l.length t o v fuel (j:Int)=K ((l.drop j).contains v)
 | 0,j,fuel+1,k,_=>by
  rw[Ss];unfold KP
  rw[Ku (by omega),cf,E9 (by omega)];rfl
 | m+1,j,fuel+1,k,C=>by
  rw[Ss];unfold KP
  have h:j<l.length:=by omega
  rw[Jh h,ct,Aa h,ct,Ah7 h,Fd (by omega),rN hs m (j+1) fuel (by omega) (by omega),C5 h,List.contains_cons,BEq.comm]
  cases D:v==l[j]<;>simp
theorem VB {N:Nat} {v:Int} {l:List Int} {n:Nat} {t o:Bool} {K:Bool→O R} (hn:n=l.length) (hs:S6 l.length N):KQ N (Av l) n t o v K=K (l.contains v):=by
 subst hn
 rw[xM];unfold qI
 have:=rN (R:=R) (N:=N) (v:=v) (t:=t) (o:=o) (K:=K) hs.2 l.length 0 N (by omega) hs.1
 simpa using this
end
end Gx.Cf

namespace Gx.Cf
open Go Go.Proofs
section
variable {R:Type}
def Ia:Js→Int
 | none=>0
 | some x=>x.2.1
theorem QX {c:CaseD} {f:Int→O R}:An .i64 c.av f=f c.hours:=by simp[CaseD.av,Ay]
theorem A1r {c:CaseD} {f:LA→Nat→O R}:Co 1 (List.drop 1 c.av) f=f (Av c.reserve.l) c.reserve.l.length:=by simp[CaseD.av,Hv,Fl]
theorem Vi {c:CaseD} {f:LA→Nat→O R}:Co 3 (List.drop 2 c.av) f=f (c.buses.l.flatMap BusD.av) c.buses.l.length:=by simp[CaseD.av,Hv]
theorem Rm {c:CaseD} {f:LA→Nat→O R}:Co 12 (List.drop 3 c.av) f=f (c.lines.l.flatMap LineD.av) c.lines.l.length:=by simp[CaseD.av,Hv]
theorem HD {c:CaseD} {f:LA→Nat→O R}:Co 22 (List.drop 4 c.av) f=f (c.units.l.flatMap UnitD.av) c.units.l.length:=by simp[CaseD.av,Hv]
theorem DP {c:CaseD} {f:LA→Nat→O R}:Co 9 (List.drop 5 c.av) f=f (c.stores.l.flatMap StoreD.av) c.stores.l.length:=by simp[CaseD.av,Hv]
theorem gS {c:CaseD} {f:LA→Nat→O R}:Co 5 (List.drop 6 c.av) f=f (c.ties.l.flatMap TieD.av) c.ties.l.length:=by simp[CaseD.av,Hv]
theorem CX {c:CaseD} {f:LA→Nat→O R}:Co 4 (List.drop 7 c.av) f=f (c.outs.l.flatMap OutD.av) c.outs.l.length:=by simp[CaseD.av,Hv]
def C9 (p:Js):LA:=A86 p 0 0
theorem Ag {N:Nat} {p:Js} {k i f e:Int} {ok:Bool} {K:LA→O R} (D:e≠0) :
  Ab N ok k i f e (C9 p) K=K (C9 (nd p ok (k,i,f) ⟨e,D⟩)):=by
 rw[Yq];unfold Nx J3
 rcases p with _ | ⟨⟨a,b,F⟩,e',C⟩
 ·cases ok<;>simp[C9,A86,Ay,nd,E5,Cu]
 ·have:(e'==0)=false:=by simpa using C
  simp[C9,A86,Ay,nd,this]
def Aop (h:Int) (l:List Int) (lo hi:Int) (w:Int×Int×Int) (p:Js):Js:=nd (nd p ((l.length:Int)==h) w ⟨4,by decide⟩) (l.all (Fe lo hi)) w ⟨3,by decide⟩
def Ah9 (h:Int) (l:List Int) (w:Int×Int×Int) (p:Js):Js:=nd (nd p (l.all (Fe 0 (IntKind.wrap .i64 (h - 1)))) w ⟨3,by decide⟩) (Aip l) w ⟨11,by decide⟩
theorem Ee {N:Nat} {c:CaseD} {p:Js} {k i f lo hi:Int} {l:List Int} {n:Nat} {t o o1:Bool} {K:LA→O R} (hn:n=l.length) (hs:S6 l.length N) :
  Cs N c.av o1 (Av l) n t o lo hi k i f (C9 p) K=K (C9 (Aop c.hours l lo hi (k,i,f) p)):=by
 rw[Uv];unfold Ql
 rw[QX,Ag (by decide),Hi hn hs,Ag (by decide),hn];rfl
theorem V3 {N:Nat} {c:CaseD} {p:Js} {k i f:Int} {l:List Int} {n:Nat} {t o o1:Bool} {K:LA→O R} (hn:n=l.length) (hs:S6 l.length N) :
  Hf N c.av o1 (Av l) n t o k i f (C9 p) K=K (C9 (Ah9 c.hours l (k,i,f) p)):=by
 rw[Yx];unfold Uy
 rw[QX,Hi hn hs,Ag (by decide),Z6 hn hs,Ag (by decide)];rfl
def yD (c:CaseD) (b:Int):Bool:=decide (0≤b)&&decide (b<(c.buses.l.length:Int))
theorem A1s (n:Nat) (b:Int) (h:n<4611686018427387904):Fe 0 (IntKind.wrap .i64 ((n:Int) - 1)) b=(decide (0≤b)&&decide (b<(n:Int))):=by
 rw[Yb _ (by omega),Fe]
 congr 1
 simp;omega
theorem I9 {N:Nat} {c:CaseD} {p:Js} {k i f b:Int} {o1:Bool} {K:LA→O R} (hN:8≤N) (C:c.buses.l.length<4611686018427387904) :
  D6 N c.av o1 b k i f (C9 p) K=K (C9 (nd p (yD c b) (k,i,f) ⟨12,by decide⟩)):=by
 rw[AZ];unfold Wz
 rw[Vi,D8 hN,A1s _ _ C,Ag (by decide)];rfl
def S7 (f:FracD):Bool:=Fe 1 1048576 f.den&&Fe (-1048576) 1048576 f.num
theorem LK {N:Nat} {f:FracD} {o:Bool} {K:Bool→O R} (hN:8≤N):I0 N [.int .i64 f.num,.int .i64 f.den] o K=K (S7 f):=by
 rw[PG];unfold MH
 simp only[List.drop_succ_cons,List.drop_zero,Ay,D8 hN]
 unfold S7
 cases Fe 1 1048576 f.den<;>simp
def Asx (c:UInt8):Bool:=decide (97≤c.toNat)&&decide (c.toNat≤122)
def Bc3 (c:UInt8):Bool:=Asx c||(decide (48≤c.toNat)&&decide (c.toNat≤57))||decide (c.toNat=95)
def Asy (s:List UInt8):Bool:=decide (1≤s.length)&&(decide (s.length≤16)&&(!(s==[99,111,114,114,101,99,116,105,118,101])&&(Asx (s.getD 0 0)&&s.all Bc3)))
theorem zr {s:List UInt8} {j:Nat} (h:j<s.length):List.getD s (Int.toNat (j:Int)) 0=s[j]:=by
 rw[Int.toNat_natCast,List.getD_eq_getElem?_getD,List.getElem?_eq_getElem h];rfl
theorem kf {N:Nat} {s:List UInt8} {K:Bool→O R} (hs:s.length<4611686018427387904):∀ (m j fuel:Nat),j+m=s.length→m<fuel →
  Ou N K s fuel (j:Int)=K ((decide (j≠0)||(decide (s.length=0)||Asx (s.getD 0 0)))&&(s.drop j).all Bc3)
 | 0,j,fuel+1,G,_=>by
  rw[Ou];unfold CP
  rw[Ku (by omega),cf,E9 (by omega)]
  by_cases h:j=0
  ·have:s.length=0:=by omega
   simp[this]
  ·simp[h]
 | m+1,j,fuel+1,G,T=>by
  rw[Ou];unfold CP KM
  dsimp only
  have h:j<s.length:=by omega
  rw[Jh h,ct,Aa h,ct,Fd (by omega),kf hs m (j+1) fuel (by omega) (by omega),C5 h,List.all_cons,zr h]
  have I:j=0→s.getD 0 0=s[j]:=fun e=>by
   have:=zr h;rw[←this,e];rfl
  unfold Bc3 Asx
  by_cases k:j=0
  ·rw[I k]
   have C:decide (s.length=0)=false:=decide_eq_false (by omega)
   have e:((j:Int)==0)=true:=by simp;omega
   simp only[ct,k,ne_eq,not_true_eq_false,decide_false,Bool.false_or,C,Nat.zero_add,show decide (¬ (1=0))=true by decide,Bool.true_or,Bool.true_and]
   simp only[k] at *
   generalize s[0].toNat=v
   by_cases D:97≤v<;>by_cases F:v≤122<;>simp[D,F,show((97:Int)≤v)↔97≤v by omega,show((v:Int)≤122)↔v≤122 by omega]
  ·have e:((j:Int)==0)=false:=by simp;omega
   simp only[ct,e,k,ne_eq,not_false_eq_true,decide_true,Bool.true_or,Bool.true_and,show decide (¬ (j+1=0))=true by simp]
   generalize s[j].toNat=v
   generalize (s.drop (j+1)).all _=r
   by_cases D:97≤v<;>by_cases F:v≤122<;>by_cases L:48≤v<;>by_cases M:v≤57<;>by_cases S:v=95 <;>
    simp[D,F,L,M,show((97:Int)≤v)↔97≤v by omega,show((v:Int)≤122)↔v≤122 by omega,show((v:Int)<48)↔¬ 48≤v by omega,show((57:Int)<v)↔¬ v≤57 by omega,show((v:Int) != 95)=!decide (v=95) by (by_cases v=95<;>simp_all<;>omega),S]
theorem Alm {N:Nat} {s:List UInt8} {K:Bool→O R} (hN:64≤N):PF N s K=K (Asy s):=by
 rw[qD];unfold gL KN UG
 dsimp only
 unfold Asy
 by_cases k:1≤s.length
 ·by_cases C:s.length≤16
  ·have D:=kf (R:=R) (N:=N) (s:=s) (K:=K) (by omega) s.length 0 N (by omega) (by omega)
   simp only[List.drop_zero,Int.natCast_zero] at D
   rw[D]
   simp only[k,C,show(decide ((s.length:Int)<1))=false by simp;omega,show(decide ((s.length:Int)>16))=false by simp;omega,decide_true,cond_true,cond_false,beq_self_eq_true]
   have:s.length≠0:=by omega
   cases s==[99,111,114,114,101,99,116,105,118,101]<;>simp[this]
  ·simp[k,C,show((s.length:Int)<1)↔¬ 1≤s.length by omega,show((16:Int)<s.length)↔¬ s.length≤16 by omega]
 ·simp[k,show((s.length:Int)<1)↔¬ 1≤s.length by omega]
end
end Gx.Cf

namespace Gx.Cf
open Go Go.Proofs
section
variable {R:Type}
def rO (names:List (List UInt8)) (k i:Int) (s:List UInt8) (p:Js):Js:=nd (nd p (Asy s) (k,i,0) ⟨9,by decide⟩) (names.all fun x=>!(x==s)) (k,i,0) ⟨10,by decide⟩
theorem QY (a:BusD):a.av.length=3:=rfl
theorem Hj (a:LineD):a.av.length=12:=rfl
theorem Qf (a:UnitD):a.av.length=22:=rfl
theorem O8 (a:StoreD):a.av.length=9:=rfl
theorem Zk (a:TieD):a.av.length=5:=rfl
theorem O9 (a:OutD):a.av.length=4:=rfl
end
end Gx.Cf

namespace Gx.Cf
open Go Go.Proofs
section
variable {R:Type}
structure Small (c:CaseD) (N:Nat):Prop where
 n64:64≤N
 res:S6 c.reserve.l.length N
 bus:S6 c.buses.l.length N
 lin:S6 c.lines.l.length N
 uni:S6 c.units.l.length N
 sto:S6 c.stores.l.length N
 tie:S6 c.ties.l.length N
 out:S6 c.outs.l.length N
 dem:∀ b ∈ c.buses.l,S6 b.demand.l.length N
 law:∀ b ∈ c.lines.l,S6 b.away.l.length N
 seg:∀ b ∈ c.units.l,S6 b.segs.l.length N
 uaw:∀ b ∈ c.units.l,S6 b.away.l.length N
 tim:∀ b ∈ c.ties.l,S6 b.imp.l.length N
 tex:∀ b ∈ c.ties.l,S6 b.exp.l.length N
 tpr:∀ b ∈ c.ties.l,S6 b.price.l.length N
 oli:∀ b ∈ c.outs.l,S6 b.lines.l.length N
 omo:∀ b ∈ c.outs.l,S6 b.moves.l.length N
 omb:∀ b ∈ c.outs.l,b.moves.l.length<8796093022208
 top:c.buses.l.length≤1000000∧c.lines.l.length≤1000000∧c.units.l.length≤1000000∧c.stores.l.length≤1000000∧c.ties.l.length≤1000000∧c.outs.l.length≤1000000
def Gm {α:Type} (f:Nat→α→Js→Js):List α→Nat→Js→Js
 | [],_,p=>p
 | a::r,j,p=>Gm f r (j+1) (f j a p)
theorem Pa {α:Type} {f:Nat→α→Js→Js} {x:(Int×Int×Int)×{ e:Int // e≠0 }} (k:∀ j a,f j a (some x)=some x):∀ (l:List α) (j:Nat),Gm f l j (some x)=some x
 | [],_=>rfl
 | a::r,j=>by rw[Gm,k];exact Pa k r (j+1)
abbrev e1:{ e:Int // e≠0 }:=⟨1,by decide⟩
abbrev e3:{ e:Int // e≠0 }:=⟨3,by decide⟩
abbrev e4:{ e:Int // e≠0 }:=⟨4,by decide⟩
abbrev e8:{ e:Int // e≠0 }:=⟨8,by decide⟩
abbrev Bc4:{ e:Int // e≠0 }:=⟨11,by decide⟩
abbrev A6r:{ e:Int // e≠0 }:=⟨12,by decide⟩
abbrev Bff:{ e:Int // e≠0 }:=⟨13,by decide⟩
abbrev Bef:{ e:Int // e≠0 }:=⟨16,by decide⟩
def A1t (c:CaseD) (p:Js):Js :=
 let p:=nd p (Fe 1 24 c.hours) (0,0,0) e3
 let p:=Aop c.hours c.reserve.l 0 1048576 (0,0,1) p
 let p:=nd p (Fe 1 32 (c.buses.l.length:Int)) (0,0,2) e8
 let p:=nd p (decide ((c.lines.l.length:Int)≤64)) (0,0,3) e8
 let p:=nd p (decide ((c.units.l.length:Int)≤16)) (0,0,4) e8
 let p:=nd p (decide ((c.stores.l.length:Int)≤8)) (0,0,5) e8
 let p:=nd p (decide ((c.ties.l.length:Int)≤8)) (0,0,6) e8
 nd p (decide ((c.outs.l.length:Int)≤64)) (0,0,7) e8
def Bax (c:CaseD) (j:Nat) (b:BusD) (p:Js):Js :=
 let p:=rO ((c.buses.l.map (·.name)).take j) 1 j b.name p
 let p:=Aop c.hours b.demand.l 0 1048576 (1,j,1) p
 nd p (Fe 0 1048576 b.shed) (1,j,2) e3
def Aoq (c:CaseD) (j:Nat) (x:LineD) (p:Js):Js :=
 let p:=rO ((c.lines.l.map (·.name)).take j) 2 j x.name p
 let p:=nd p (yD c x.fr) (2,j,1) A6r
 let p:=nd p (yD c x.to) (2,j,2) A6r
 let p:=nd p (x.to != x.fr) (2,j,2) e1
 let p:=nd p (S7 x.re&&decide (x.re.num>0)) (2,j,3) e3
 let p:=nd p (S7 x.smin&&decide (x.smin.num≤0)) (2,j,4) e3
 let p:=nd p (S7 x.smax&&decide (x.smax.num≥0)) (2,j,5) e3
 let p:=nd p (Fe 0 1048576 x.limit) (2,j,6) e3
 let p:=nd p (Fe x.limit 1048576 x.emer) (2,j,7) e3
 Ah9 c.hours x.away.l (2,j,8) p
def Aia (c:CaseD) (j:Nat) (x:StoreD) (p:Js):Js :=
 let p:=rO ((c.stores.l.map (·.name)).take j) 4 j x.name p
 let p:=nd p (yD c x.bus) (4,j,1) A6r
 let p:=nd p (Fe 0 1048576 x.capacity) (4,j,2) e3
 let p:=nd p (Fe 0 x.capacity x.initial) (4,j,3) e3
 let p:=nd p (Fe 0 x.capacity x.final) (4,j,4) e3
 let p:=nd p (Fe 0 1048576 x.charge) (4,j,5) e3
 let p:=nd p (Fe 0 1048576 x.discharge) (4,j,6) e3
 nd p (S7 x.eff&&(decide (x.eff.num>0)&&decide (x.eff.num≤x.eff.den))) (4,j,7) e3
def Bay (c:CaseD) (j:Nat) (x:TieD) (p:Js):Js :=
 let p:=rO ((c.ties.l.map (·.name)).take j) 5 j x.name p
 let p:=nd p (yD c x.bus) (5,j,1) A6r
 let p:=Aop c.hours x.imp.l 0 1048576 (5,j,2) p
 let p:=Aop c.hours x.exp.l 0 1048576 (5,j,3) p
 Aop c.hours x.price.l (-1048576) 1048576 (5,j,4) p
end
end Gx.Cf

namespace Gx.Cf
open Go Go.Proofs
section
variable {R:Type}
theorem HE (a:SegD):a.av.length=2:=rfl
theorem Qg (a:MoveD):a.av.length=3:=rfl
def Gi (s:SegD):Bool:=Fe 1 1048576 s.width&&Fe (-1048576) 1048576 s.price
def VC (a:Int):List SegD→Int
 | []=>a
 | s::r=>VC (IntKind.wrap .i64 (a+s.width)) r
def fN:List SegD→Bool
 | a::b::r=>decide (b.price≥a.price)&&fN (b::r)
 | _=>true
theorem VD (a b:SegD) (r:List SegD):fN (a::b::r)=(decide (b.price≥a.price)&&fN (b::r)):=by rw[fN]
theorem Aib (a:SegD):fN [a]=true:=by rw[fN];intros;simp_all
theorem Axu:fN []=true:=by rw[fN];intros;simp_all
def A87 (u:UnitD) (j:Nat) (p:Js):Js :=
 let p:=nd p (decide ((u.segs.l.length:Int)≤8)) (3,j,4) e8
 let p:=nd p (u.segs.l.all Gi) (3,j,4) e3
 let p:=nd p (fN u.segs.l) (3,j,4) Bc4
 nd p (VC 0 u.segs.l==IntKind.wrap .i64 (u.max - u.min)) (3,j,4) e4
theorem tt {u:UnitD} {f:LA→Nat→O R}:Co 2 (List.drop 4 u.av) f=f (u.segs.l.flatMap SegD.av) u.segs.l.length:=by simp[UnitD.av,Hv]
theorem Bbx {u:UnitD} {f:Int→O R}:An .i64 (List.drop 3 u.av) f=f u.max:=by simp[UnitD.av,Ay]
theorem Bby {u:UnitD} {f:Int→O R}:An .i64 (List.drop 2 u.av) f=f u.min:=by simp[UnitD.av,Ay]
theorem Aor {l:List SegD} {j:Nat} (h:j<l.length) {f:Int→O R}:An .i64 (List.drop 1 (List.drop ((Int.toNat (j:Int))*2) (l.flatMap SegD.av))) f=f l[j].price:=by
 rw[Int.toNat_natCast,Bh HE _ _ h];simp[SegD.av,Ay]
theorem A6s {l:List SegD} {j:Nat} (h:j<l.length) {f:Int→O R}:An .i64 (List.drop ((Int.toNat (j:Int))*2) (l.flatMap SegD.av)) f=f l[j].width:=by
 rw[Int.toNat_natCast,Bh HE _ _ h];simp[SegD.av,Ay]
def Axv (c:CaseD) (j:Nat) (u:UnitD) (p:Js):Js :=
 let p:=rO ((c.units.l.map (·.name)).take j) 3 j u.name p
 let p:=nd p (yD c u.bus) (3,j,1) A6r
 let p:=nd p (Fe 0 1048576 u.min) (3,j,2) e3
 let p:=nd p (Fe u.min 1048576 u.max) (3,j,3) e3
 let p:=A87 u j p
 let p:=nd p (Fe 0 1048576 u.noLoad) (3,j,5) e3
 let p:=nd p (Fe 0 1048576 u.rampUp) (3,j,6) e3
 let p:=nd p (Fe 0 1048576 u.rampDown) (3,j,7) e3
 let p:=nd p (Fe u.min u.max u.startRamp) (3,j,8) e3
 let p:=nd p (Fe u.min u.max u.stopRamp) (3,j,9) e3
 let p:=nd p (Fe 0 24 u.upTime) (3,j,10) e3
 let p:=nd p (Fe 0 24 u.downTime) (3,j,11) e3
 let p:=nd p (Fe 0 24 u.startTime) (3,j,12) e3
 let p:=nd p (Fe 0 1048576 u.hotCost) (3,j,13) e3
 let p:=nd p (Fe 0 1048576 u.coldCost) (3,j,14) e3
 let p:=nd p (Fe 0 24 u.hotHours) (3,j,15) e3
 let p:=nd p (Fe 0 1048576 u.reserve) (3,j,16) e3
 let p:=nd p (Fe 0 1048576 u.reservePrice) (3,j,17) e3
 let p:=Ah9 c.hours u.away.l (3,j,18) p
 let p:=nd p (Fe 0 2 u.state) (3,j,19) A6r
 let p:=nd p (u.state != 1||u.startTime != 0) (3,j,19) Bef
 let p:=nd p (Fe 1 48 u.hours) (3,j,20) e3
 let p:=nd p (u.state != 1||decide (u.hours≤u.startTime)) (3,j,20) e3
 cond (u.state==2) (nd p (Fe u.min u.max u.output) (3,j,21) e3) (nd p (Fe 0 0 u.output) (3,j,21) e3)
def Baz (c:CaseD) (m:MoveD):Bool:=decide (0≤m.unit)&&decide (m.unit<(c.units.l.length:Int))
def A6t (m:MoveD):Bool:=Fe 0 1048576 m.up&&Fe 0 1048576 m.down
def A1u (c:CaseD) (o:OutD) (j:Nat) (p:Js):Js :=
 let p:=nd p ((o.moves.l.length:Int)==0||o.corr) (6,j,3) Bef
 let p:=nd p (decide ((o.moves.l.length:Int)≤16)) (6,j,3) e8
 let p:=nd p (o.moves.l.all (Baz c)) (6,j,3) A6r
 let p:=nd p (Aip (o.moves.l.map (·.unit))) (6,j,3) Bc4
 nd p (o.moves.l.all A6t) (6,j,3) e3
theorem A3i {u:OutD} {f:LA→Nat→O R}:Co 3 (List.drop 3 u.av) f=f (u.moves.l.flatMap MoveD.av) u.moves.l.length:=by simp[OutD.av,Hv]
theorem Bc5 {u:OutD} {f:Bool→O R}:NC (List.drop 2 u.av) f=f u.corr:=by simp[OutD.av,A85]
def A6u (c:CaseD) (j:Nat) (x:OutD) (p:Js):Js :=
 let p:=rO ((c.outs.l.map (·.name)).take j) 6 j x.name p
 let p:=nd p ((x.lines.l.length:Int)==1||(x.lines.l.length:Int)==2) (6,j,1) e4
 let p:=nd p (x.lines.l.all fun n=>decide (0≤n)&&decide (n<(c.lines.l.length:Int))) (6,j,1) A6r
 let p:=nd p (Aip x.lines.l) (6,j,1) Bc4
 A1u c x j p
theorem tw {c:CaseD} {j:Nat} {x:OutD} {y:(Int×Int×Int)×{ e:Int // e≠0 }}:A6u c j x (some y)=some y:=rfl
end
end Gx.Cf

namespace Gx.Cf
open Go Go.Proofs
section
variable {R:Type}
theorem Ba0 {u:OutD} {f:LA→Nat→O R}:Co 1 (List.drop 1 u.av) f=f (Av u.lines.l) u.lines.l.length:=by simp[OutD.av,Hv,Fl]
end
end Gx.Cf

namespace Gx.Cf
open Go Go.Proofs
section
variable {R:Type}
def Hk (l:List (List UInt8)):LA:=l.map fun s=>.str s
theorem Tu (l:List (List UInt8)):(Hk l).length=l.length:=by simp[Hk]
theorem Aic {l:List (List UInt8)} {i:Nat} (h:i<l.length) {f:List UInt8→O R}:As8 (List.drop i (Hk l)) f=f l[i]:=by
 rw[Hk,List.drop_eq_getElem_cons (by simpa using h)];simp[HC]
theorem Fz {c:CaseD}:List.take 8 c.av=c.av:=rfl
theorem Pb {c:CaseD}:Nat.ble 8 (List.length c.av)=true:=rfl
theorem QZ {N:Nat} {c:CaseD} {o:Bool} {K:Nat→LA→O R} (C:c.buses.l.length≤1000000):∀ (m j fuel:Nat),j+m=c.buses.l.length→m<fuel →
  Lv N K o c.av fuel j (j:Int) (Hk ((c.buses.l.take j).map (·.name)))=K c.buses.l.length (Hk (c.buses.l.map (·.name)))
 | 0,j,fuel+1,D,_=>by
  rw[Lv];unfold Xq
  have k:j=c.buses.l.length:=by omega
  rw[Vi,Ku (by omega),cf,List.take_of_length_le (by omega),k]
 | m+1,j,fuel+1,D,I=>by
  rw[Lv];unfold Xq
  have h:j<c.buses.l.length:=by omega
  have b3:(Nat.ble (j+1) 140737488355328&&Nat.ble ((j+1)*16) 140737488355328)=true:=by rw[E5,E5];simp;omega
  have F:List.take (j*1) (Hk ((c.buses.l.take j).map (·.name)))++[.str c.buses.l[j].name]=Hk ((c.buses.l.take (j+1)).map (·.name)):=by
   rw[List.take_of_length_le (by simp[Tu];omega),List.take_succ_eq_append_getElem h,List.map_append];simp[Hk]
  have G:∀ f:List UInt8→O R,As8 (List.drop (j*3) (List.flatMap BusD.av c.buses.l)) f=f c.buses.l[j].name:=fun f=>by rw[Bh QY _ _ h];simp[BusD.av,HC]
  rw[Vi,Jh h,ct,Vi,Aa h,ct,Int.toNat_natCast,G,b3,ct,F,Fd (by omega),QZ C m (j+1) fuel (by omega) (by omega)]
theorem Axw {N:Nat} {c:CaseD} {o:Bool} {K:Nat→LA→O R} (hs:Small c N):He N c.av o 1 K=K (c.buses.l.map (·.name)).length (Hk (c.buses.l.map (·.name))):=by
 rw[Jo];unfold L5
 have:=QZ (R:=R) (N:=N) (c:=c) (o:=o) (K:=K) hs.top.1 c.buses.l.length 0 N (by omega) hs.bus.1
 simpa[Hk] using this
theorem Q_ {N:Nat} {c:CaseD} {o:Bool} {K:Nat→LA→O R} (C:c.lines.l.length≤1000000):∀ (m j fuel:Nat),j+m=c.lines.l.length→m<fuel →
  Lw N K o c.av fuel j (j:Int) (Hk ((c.lines.l.take j).map (·.name)))=K c.lines.l.length (Hk (c.lines.l.map (·.name)))
 | 0,j,fuel+1,D,_=>by
  rw[Lw];unfold Xr
  have k:j=c.lines.l.length:=by omega
  rw[Rm,Ku (by omega),cf,List.take_of_length_le (by omega),k]
 | m+1,j,fuel+1,D,I=>by
  rw[Lw];unfold Xr
  have h:j<c.lines.l.length:=by omega
  have b3:(Nat.ble (j+1) 140737488355328&&Nat.ble ((j+1)*16) 140737488355328)=true:=by rw[E5,E5];simp;omega
  have F:List.take (j*1) (Hk ((c.lines.l.take j).map (·.name)))++[.str c.lines.l[j].name]=Hk ((c.lines.l.take (j+1)).map (·.name)):=by
   rw[List.take_of_length_le (by simp[Tu];omega),List.take_succ_eq_append_getElem h,List.map_append];simp[Hk]
  have G:∀ f:List UInt8→O R,As8 (List.drop (j*12) (List.flatMap LineD.av c.lines.l)) f=f c.lines.l[j].name:=fun f=>by rw[Bh Hj _ _ h];simp[LineD.av,HC]
  rw[Rm,Jh h,ct,Rm,Aa h,ct,Int.toNat_natCast,G,b3,ct,F,Fd (by omega),Q_ C m (j+1) fuel (by omega) (by omega)]
theorem yE {N:Nat} {c:CaseD} {o:Bool} {K:Nat→LA→O R} (hs:Small c N):He N c.av o 2 K=K (c.lines.l.map (·.name)).length (Hk (c.lines.l.map (·.name))):=by
 rw[Jo];unfold L5
 have:=Q_ (R:=R) (N:=N) (c:=c) (o:=o) (K:=K) hs.top.2.1 c.lines.l.length 0 N (by omega) hs.lin.1
 simpa[Hk] using this
theorem Q' {N:Nat} {c:CaseD} {o:Bool} {K:Nat→LA→O R} (C:c.units.l.length≤1000000):∀ (m j fuel:Nat),j+m=c.units.l.length→m<fuel →
  Lx N K o c.av fuel j (j:Int) (Hk ((c.units.l.take j).map (·.name)))=K c.units.l.length (Hk (c.units.l.map (·.name)))
 | 0,j,fuel+1,D,_=>by
  rw[Lx];unfold Xs
  have k:j=c.units.l.length:=by omega
  rw[HD,Ku (by omega),cf,List.take_of_length_le (by omega),k]
 | m+1,j,fuel+1,D,I=>by
  rw[Lx];unfold Xs
  have h:j<c.units.l.length:=by omega
  have b3:(Nat.ble (j+1) 140737488355328&&Nat.ble ((j+1)*16) 140737488355328)=true:=by rw[E5,E5];simp;omega
  have F:List.take (j*1) (Hk ((c.units.l.take j).map (·.name)))++[.str c.units.l[j].name]=Hk ((c.units.l.take (j+1)).map (·.name)):=by
   rw[List.take_of_length_le (by simp[Tu];omega),List.take_succ_eq_append_getElem h,List.map_append];simp[Hk]
  have G:∀ f:List UInt8→O R,As8 (List.drop (j*22) (List.flatMap UnitD.av c.units.l)) f=f c.units.l[j].name:=fun f=>by rw[Bh Qf _ _ h];simp[UnitD.av,HC]
  rw[HD,Jh h,ct,HD,Aa h,ct,Int.toNat_natCast,G,b3,ct,F,Fd (by omega),Q' C m (j+1) fuel (by omega) (by omega)]
theorem yF {N:Nat} {c:CaseD} {o:Bool} {K:Nat→LA→O R} (hs:Small c N):He N c.av o 3 K=K (c.units.l.map (·.name)).length (Hk (c.units.l.map (·.name))):=by
 rw[Jo];unfold L5
 have:=Q' (R:=R) (N:=N) (c:=c) (o:=o) (K:=K) hs.top.2.2.1 c.units.l.length 0 N (by omega) hs.uni.1
 simpa[Hk] using this
theorem LL {N:Nat} {c:CaseD} {o:Bool} {K:Nat→LA→O R} (C:c.stores.l.length≤1000000):∀ (m j fuel:Nat),j+m=c.stores.l.length→m<fuel →
  Ly N K o c.av fuel j (j:Int) (Hk ((c.stores.l.take j).map (·.name)))=K c.stores.l.length (Hk (c.stores.l.map (·.name)))
 | 0,j,fuel+1,D,_=>by
  rw[Ly];unfold Xt
  have k:j=c.stores.l.length:=by omega
  rw[DP,Ku (by omega),cf,List.take_of_length_le (by omega),k]
 | m+1,j,fuel+1,D,I=>by
  rw[Ly];unfold Xt
  have h:j<c.stores.l.length:=by omega
  have b3:(Nat.ble (j+1) 140737488355328&&Nat.ble ((j+1)*16) 140737488355328)=true:=by rw[E5,E5];simp;omega
  have F:List.take (j*1) (Hk ((c.stores.l.take j).map (·.name)))++[.str c.stores.l[j].name]=Hk ((c.stores.l.take (j+1)).map (·.name)):=by
   rw[List.take_of_length_le (by simp[Tu];omega),List.take_succ_eq_append_getElem h,List.map_append];simp[Hk]
  have G:∀ f:List UInt8→O R,As8 (List.drop (j*9) (List.flatMap StoreD.av c.stores.l)) f=f c.stores.l[j].name:=fun f=>by rw[Bh O8 _ _ h];simp[StoreD.av,HC]
  rw[DP,Jh h,ct,DP,Aa h,ct,Int.toNat_natCast,G,b3,ct,F,Fd (by omega),LL C m (j+1) fuel (by omega) (by omega)]
theorem rP {N:Nat} {c:CaseD} {o:Bool} {K:Nat→LA→O R} (hs:Small c N):He N c.av o 4 K=K (c.stores.l.map (·.name)).length (Hk (c.stores.l.map (·.name))):=by
 rw[Jo];unfold L5
 have:=LL (R:=R) (N:=N) (c:=c) (o:=o) (K:=K) hs.top.2.2.2.1 c.stores.l.length 0 N (by omega) hs.sto.1
 simpa[Hk] using this
theorem ZJ {N:Nat} {c:CaseD} {o:Bool} {K:Nat→LA→O R} (C:c.ties.l.length≤1000000):∀ (m j fuel:Nat),j+m=c.ties.l.length→m<fuel →
  Lz N K o c.av fuel j (j:Int) (Hk ((c.ties.l.take j).map (·.name)))=K c.ties.l.length (Hk (c.ties.l.map (·.name)))
 | 0,j,fuel+1,D,_=>by
  rw[Lz];unfold Xu
  have k:j=c.ties.l.length:=by omega
  rw[gS,Ku (by omega),cf,List.take_of_length_le (by omega),k]
 | m+1,j,fuel+1,D,I=>by
  rw[Lz];unfold Xu
  have h:j<c.ties.l.length:=by omega
  have b3:(Nat.ble (j+1) 140737488355328&&Nat.ble ((j+1)*16) 140737488355328)=true:=by rw[E5,E5];simp;omega
  have F:List.take (j*1) (Hk ((c.ties.l.take j).map (·.name)))++[.str c.ties.l[j].name]=Hk ((c.ties.l.take (j+1)).map (·.name)):=by
   rw[List.take_of_length_le (by simp[Tu];omega),List.take_succ_eq_append_getElem h,List.map_append];simp[Hk]
  have G:∀ f:List UInt8→O R,As8 (List.drop (j*5) (List.flatMap TieD.av c.ties.l)) f=f c.ties.l[j].name:=fun f=>by rw[Bh Zk _ _ h];simp[TieD.av,HC]
  rw[gS,Jh h,ct,gS,Aa h,ct,Int.toNat_natCast,G,b3,ct,F,Fd (by omega),ZJ C m (j+1) fuel (by omega) (by omega)]
theorem Aid {N:Nat} {c:CaseD} {o:Bool} {K:Nat→LA→O R} (hs:Small c N):He N c.av o 5 K=K (c.ties.l.map (·.name)).length (Hk (c.ties.l.map (·.name))):=by
 rw[Jo];unfold L5
 have:=ZJ (R:=R) (N:=N) (c:=c) (o:=o) (K:=K) hs.top.2.2.2.2.1 c.ties.l.length 0 N (by omega) hs.tie.1
 simpa[Hk] using this
theorem ZK {N:Nat} {c:CaseD} {o:Bool} {K:Nat→LA→O R} (C:c.outs.l.length≤1000000):∀ (m j fuel:Nat),j+m=c.outs.l.length→m<fuel →
  L0 N K o c.av fuel j (j:Int) (Hk ((c.outs.l.take j).map (·.name)))=K c.outs.l.length (Hk (c.outs.l.map (·.name)))
 | 0,j,fuel+1,D,_=>by
  rw[L0];unfold Xv
  have k:j=c.outs.l.length:=by omega
  rw[CX,Ku (by omega),cf,List.take_of_length_le (by omega),k]
 | m+1,j,fuel+1,D,I=>by
  rw[L0];unfold Xv
  have h:j<c.outs.l.length:=by omega
  have b3:(Nat.ble (j+1) 140737488355328&&Nat.ble ((j+1)*16) 140737488355328)=true:=by rw[E5,E5];simp;omega
  have F:List.take (j*1) (Hk ((c.outs.l.take j).map (·.name)))++[.str c.outs.l[j].name]=Hk ((c.outs.l.take (j+1)).map (·.name)):=by
   rw[List.take_of_length_le (by simp[Tu];omega),List.take_succ_eq_append_getElem h,List.map_append];simp[Hk]
  have G:∀ f:List UInt8→O R,As8 (List.drop (j*4) (List.flatMap OutD.av c.outs.l)) f=f c.outs.l[j].name:=fun f=>by rw[Bh O9 _ _ h];simp[OutD.av,HC]
  rw[CX,Jh h,ct,CX,Aa h,ct,Int.toNat_natCast,G,b3,ct,F,Fd (by omega),ZK C m (j+1) fuel (by omega) (by omega)]
theorem Aie {N:Nat} {c:CaseD} {o:Bool} {K:Nat→LA→O R} (hs:Small c N):He N c.av o 6 K=K (c.outs.l.map (·.name)).length (Hk (c.outs.l.map (·.name))):=by
 rw[Jo];unfold L5
 have:=ZK (R:=R) (N:=N) (c:=c) (o:=o) (K:=K) hs.top.2.2.2.2.2 c.outs.l.length 0 N (by omega) hs.out.1
 simpa[Hk] using this
theorem V4 {N:Nat} {L:List (List UInt8)} {k:Int} {n:Nat} {K:LA→O R} (hn:n<L.length) (hs:n<4611686018427387904):∀ (m j fuel:Nat) (p:Js),j+m=n→m<fuel →
  Dv N K k (n:Int) L.length (Hk L) fuel (j:Int) (C9 p)=K (C9 (nd p (((L.take n).drop j).all fun x=>!(x==L[n])) (k,n,0) ⟨10,by decide⟩))
 | 0,j,fuel+1,p,C,_=>by
  rw[Dv];unfold Iz
  rw[Ku (by omega),cf,E9 (l:=L.take n) (by simp;omega),List.all_nil,VA]
 | m+1,j,fuel+1,p,C,F=>by
  rw[Dv];unfold Iz
  have h:j<L.length:=by omega
  have D:j<(L.take n).length:=by simp;omega
  rw[Jh (by omega),ct,Aa h,ct,Int.toNat_natCast,Nat.zero_add,Nat.mul_one,Aic h,Aa hn,ct,Int.toNat_natCast,Nat.zero_add,Nat.mul_one,Aic hn,Ag (by decide),Fd (by omega),V4 hn hs m (j+1) fuel _ (by omega) (by omega),C5 D,List.all_cons,Axt]
  have e:(L.take n)[j]=L[j]:=by simp
  rw[e]
theorem Dz {N:Nat} {c:CaseD} {L:List (List UInt8)} {o:Bool} {p:Js} {k:Int} {n:Nat} {K:LA→O R} (hN:64≤N) (hL:∀ K:Nat→LA→O R,He N c.av o k K=K L.length (Hk L)) (hn:n<L.length) (hs:S6 n N) :
  Ck N c.av o k (n:Int) (C9 p) K=K (C9 (rO (L.take n) k n L[n] p)):=by
 rw[Yv];unfold Ny
 rw[Fz,Pb,ct,hL,Aa hn,ct,Int.toNat_natCast,Nat.zero_add,Nat.mul_one,Aic hn,Alm hN,Ag (by decide)]
 have:=V4 (R:=R) (N:=N) (L:=L) (k:=k) (n:=n) (K:=K) hn hs.2 n 0 N (nd p (Asy L[n]) (k,n,0) ⟨9,by decide⟩) (by omega) hs.1
 simpa[rO] using this
theorem VE {N fuel:Nat} {c:CaseD} {o:Bool} {p:Js} {K:LA→O R} (hs:Small c N):Bi N K o c.av (fuel+6) 2 (C9 p)=K (C9
  (nd (nd (nd (nd (nd p (decide ((c.lines.l.length:Int)≤64)) (0,0,3) e8) (decide ((c.units.l.length:Int)≤16)) (0,0,4) e8) (decide ((c.stores.l.length:Int)≤8)) (0,0,5) e8) (decide ((c.ties.l.length:Int)≤8)) (0,0,6) e8) (decide ((c.outs.l.length:Int)≤64)) (0,0,7) e8)):=by
 have most:∀ (k:Nat) (n:Int) (K:Int→O R),k<7→([0,32,64,16,8,8,64]:List Int)[k]?=some n→Rd N (k:Int) K=K n:=by
  intro k n K C D
  rw[qB];unfold tL
  rw[Aa C,ct]
  have e:[(.int .i64 (0:Int)),(.int .i64 (32:Int)),(.int .i64 (64:Int)),(.int .i64 (16:Int)),(.int .i64 (8:Int)),(.int .i64 (8:Int)),(.int .i64 (64:Int))]=Av [0,32,64,16,8,8,64]:=rfl
  rw[e,Int.toNat_natCast,Nat.zero_add,Nat.mul_one,OS (by simpa using C)]
  rw[List.getElem?_eq_getElem (by simpa using C)] at D
  simp only[Option.some.injEq] at D
  rw[D]
 have m2:∀ K:Int→O R,Rd N 2 K=K 64:=fun K=>most 2 64 K (by omega) rfl
 have m3:∀ K:Int→O R,Rd N 3 K=K 16:=fun K=>most 3 16 K (by omega) rfl
 have m4:∀ K:Int→O R,Rd N 4 K=K 8:=fun K=>most 4 8 K (by omega) rfl
 have m5:∀ K:Int→O R,Rd N 5 K=K 8:=fun K=>most 5 8 K (by omega) rfl
 have m6:∀ K:Int→O R,Rd N 6 K=K 64:=fun K=>most 6 64 K (by omega) rfl
 have F:IntKind.wrap .i64 (2+1)=3:=rfl
 have w3:IntKind.wrap .i64 (3+1)=4:=rfl
 have G:IntKind.wrap .i64 (4+1)=5:=rfl
 have I:IntKind.wrap .i64 (5+1)=6:=rfl
 have L:IntKind.wrap .i64 (6+1)=7:=rfl
 rw[Bi];unfold Cg
 rw[show decide ((2:Int)≤6)=true from rfl,ct,Pb,ct,Fz,yE hs,m2,Ag (by decide),F]
 rw[Bi];unfold Cg
 rw[show decide ((3:Int)≤6)=true from rfl,ct,Pb,ct,Fz,yF hs,m3,Ag (by decide),w3]
 rw[Bi];unfold Cg
 rw[show decide ((4:Int)≤6)=true from rfl,ct,Pb,ct,Fz,rP hs,m4,Ag (by decide),G]
 rw[Bi];unfold Cg
 rw[show decide ((5:Int)≤6)=true from rfl,ct,Pb,ct,Fz,Aid hs,m5,Ag (by decide),I]
 rw[Bi];unfold Cg
 rw[show decide ((6:Int)≤6)=true from rfl,ct,Pb,ct,Fz,Aie hs,m6,Ag (by decide),L]
 rw[Bi];unfold Cg
 rw[show decide ((7:Int)≤6)=false from rfl,cf]
 simp only[List.length_map]
theorem VF {N:Nat} {c:CaseD} {o:Bool} {p:Js} {K:LA→O R} (hs:Small c N):Gj N c.av o (C9 p) K=K (C9 (A1t c p)):=by
 have hN:=hs.n64
 rw[Vv];unfold L6
 have:=fun p=>VE (fuel:=N - 6) (o:=o) (p:=p) (K:=K) hs
 rw[show N - 6+6=N by omega] at this
 simp only[QX,D8 (show 8≤N by omega),Ag (show(3:Int)≠0 by decide),Ag (show(8:Int)≠0 by decide),Pb,ct,Fz,A1r,Vi,Ee rfl hs.res,this]
 rfl
end
end Gx.Cf

namespace Gx.Cf
open Go Go.Proofs
section
variable {R:Type}
theorem MN {p:Js} {f:Int→O R}:An .i64 (List.drop 3 (C9 p)) f=f (Ia p):=by
 rcases p with _ | ⟨⟨a,b,k⟩,e,C⟩<;>simp[C9,A86,Ay,Ia]
theorem Nm {N:Nat} {i:Int} {u:UnitD} {o:Bool} {p:Js} {K:LA→O R} (hs:u.segs.l.length<4611686018427387904):∀ (m j fuel:Nat) (a:Int),j+m=u.segs.l.length→m<fuel →
  C6 N K i (C9 p) o u.av fuel a (j:Int)=K (C9 (nd p (VC a (u.segs.l.drop j)==IntKind.wrap .i64 (u.max - u.min)) (3,i,4) e4))
 | 0,j,fuel+1,a,C,_=>by
  rw[C6];unfold Fv
  simp only[tt,Bbx,Bby,MN,Ag (show(4:Int)≠0 by decide)]
  rw[Ku (by omega),E9 (l:=u.segs.l) (by omega),VC,VA]
  rcases p with _ | ⟨x,e,k⟩
  ·simp[Ia]
  ·have:(e != 0)=true:=by simpa using k
   simp[Ia,this,nd]
 | m+1,j,fuel+1,a,C,G=>by
  rw[C6];unfold Fv
  have h:j<u.segs.l.length:=by omega
  simp only[tt,Bbx,Bby,MN,Ag (show(4:Int)≠0 by decide),A6s h,Aa h]
  rw[Jh h,Fd (by omega),Nm hs m (j+1) fuel _ (by omega) (by omega),C5 h,VC,VA]
  rcases p with _ | ⟨x,e,k⟩
  ·simp[Ia]
  ·have D:(e != 0)=true:=by simpa using k
   have F:(e==0)=false:=by simpa using k
   simp[Ia,D,F,nd]
theorem V5 {N:Nat} {i:Int} {u:UnitD} {o:Bool} {K:LA→O R} (hs:S6 u.segs.l.length N):∀ (m j fuel:Nat) (p:Js),j+1+m=u.segs.l.length→m<fuel →
  Cl N K i o u.av fuel ((j+1:Nat):Int) (C9 p)=K (C9 (nd (nd p (fN (u.segs.l.drop j)) (3,i,4) Bc4) (VC 0 u.segs.l==IntKind.wrap .i64 (u.max - u.min)) (3,i,4) e4))
 | 0,j,fuel+1,p,k,_=>by
  rw[Cl];unfold D4
  rw[tt,Ku (by omega),cf,C5 (l:=u.segs.l) (j:=j) (by omega),E9 (l:=u.segs.l) (j:=j+1) (by omega),Aib,VA]
  have:=Nm (R:=R) (N:=N) (i:=i) (u:=u) (o:=o) (p:=p) (K:=K) hs.2 u.segs.l.length 0 N 0 (by omega) hs.1
  simpa using this
 | m+1,j,fuel+1,p,k,D=>by
  rw[Cl];unfold D4
  have h:j+1<u.segs.l.length:=by omega
  have h':j<u.segs.l.length:=by omega
  have C:=hs.2
  simp only[tt]
  rw[Jh h,ct,Aa h,ct,Aor h,Ah8 (by omega),Aa h',ct,Aor h',Fd (by omega),Ag (by decide),V5 hs m (j+1) fuel _ (by omega) (by omega),C5 h',C5 h,VD,Axt]
theorem V6 {N:Nat} {i:Int} {u:UnitD} {o:Bool} {K:LA→O R} (hN:8≤N) (hs:S6 u.segs.l.length N):∀ (m j fuel:Nat) (p:Js),j+m=u.segs.l.length→m<fuel →
  Cm N K i (u.segs.l.flatMap SegD.av) u.segs.l.length o u.av fuel (u.segs.l.length:Int) (j:Int) (C9 p) =
   K (C9 (nd (nd (nd p ((u.segs.l.drop j).all Gi) (3,i,4) e3) (fN u.segs.l) (3,i,4) Bc4) (VC 0 u.segs.l==IntKind.wrap .i64 (u.max - u.min)) (3,i,4) e4))
 | 0,j,fuel+1,p,C,_=>by
  rw[Cm];unfold Fw
  rw[Ku (by omega),cf,E9 (l:=u.segs.l) (by omega),List.all_nil,VA]
  rcases k:u.segs.l with _ | ⟨b,r⟩
  ·rw[Axu,VA]
   have l2:=Nm (R:=R) (N:=N) (i:=i) (u:=u) (o:=o) (p:=p) (K:=K) hs.2 u.segs.l.length 0 N 0 (by omega) hs.1
   rcases N with _ | N
   ·omega
   ·dsimp only
    rw[Cl];unfold D4
    rw[tt,k]
    simp only[List.length_nil,Int.natCast_zero]
    rw[show decide ((1:Int)<0)=false by decide,cf]
    rw[k] at l2
    simpa using l2
  ·have:=V5 (R:=R) (N:=N) (i:=i) (u:=u) (o:=o) (K:=K) hs r.length 0 N p (by rw[k];simp;omega) (by have:=hs.1;rw[k] at this;simp at this;omega)
   rw[k] at this
   simpa using this
 | m+1,j,fuel+1,p,C,I=>by
  rw[Cm];unfold Fw
  have h:j<u.segs.l.length:=by omega
  have D:=hs.2
  rw[Jh h,ct,Aa h,ct,Int.toNat_natCast,Bh HE _ _ h,C5 h,List.all_cons,Fd (by omega)]
  have F:Nat.ble 2 (List.length (u.segs.l[j].av++List.flatMap SegD.av (List.drop (j+1) u.segs.l)))=true:=by rw[E5,List.length_append,HE];simp
  have G:List.take 2 (u.segs.l[j].av++List.flatMap SegD.av (List.drop (j+1) u.segs.l))=u.segs.l[j].av:=List.take_left' (HE _)
  rw[F,ct,G,HE]
  simp only[SegD.av,setCells,Cu,List.nil_append,List.append_nil,List.drop_nil,List.drop_succ_cons,List.drop_zero,List.take_zero,List.length_cons,List.length_nil,Ay,E5,Asv,Bb,Nat.reduceAdd,decide_true,Bool.and_true,Bool.or_true,Bool.not_false,cond_true,Nat.zero_add,Nat.le_refl,D8 hN,Ag (show(3:Int)≠0 by decide),V6 hN hs m (j+1) fuel _ (show j+1+m=_ by omega) (show m<fuel by omega)]
  unfold Gi
  rw[Axt,Axt]
  cases Fe 1 1048576 u.segs.l[j].width<;>rfl
theorem HJ {N:Nat} {p:Js} {j:Nat} {u:UnitD} {o:Bool} {K:LA→O R} (hN:8≤N) (hs:S6 u.segs.l.length N) :
  Dg N u.av o (j:Int) (C9 p) K=K (C9 (A87 u j p)):=by
 rw[Rf];unfold H4
 simp only[tt,Ag (show(8:Int)≠0 by decide)]
 have:=V6 (R:=R) (N:=N) (i:=j) (u:=u) (o:=o) (K:=K) hN hs u.segs.l.length 0 N (nd p (decide ((u.segs.l.length:Int)≤8)) (3,j,4) e8) (by omega) hs.1
 simpa[A87] using this
theorem Zl {N:Nat} {i:Int} {l:List MoveD} {o:Bool} {K:LA→O R} (hN:8≤N) (hs:l.length<4611686018427387904):∀ (m j fuel:Nat) (p:Js),j+m=l.length→m<fuel →
  Dx N K i (l.flatMap MoveD.av) l.length o fuel (l.length:Int) (j:Int) (C9 p)=K (C9 (nd p ((l.drop j).all A6t) (6,i,3) e3))
 | 0,j,fuel+1,p,k,_=>by
  rw[Dx];unfold G4
  rw[Ku (by omega),cf,E9 (by omega),List.all_nil,VA]
 | m+1,j,fuel+1,p,k,F=>by
  rw[Dx];unfold G4
  have h:j<l.length:=by omega
  rw[Jh h,ct,Aa h,ct,Int.toNat_natCast,Bh Qg _ _ h,C5 h,List.all_cons,Fd (by omega)]
  have C:Nat.ble 3 (List.length (l[j].av++List.flatMap MoveD.av (List.drop (j+1) l)))=true:=by rw[E5,List.length_append,Qg];simp
  have D:List.take 3 (l[j].av++List.flatMap MoveD.av (List.drop (j+1) l))=l[j].av:=List.take_left' (Qg _)
  rw[C,ct,D,Qg]
  simp only[MoveD.av,setCells,Cu,List.nil_append,List.append_nil,List.drop_nil,List.drop_succ_cons,List.drop_zero,List.take_zero,List.length_cons,List.length_nil,Ay,E5,Asv,Bb,Nat.reduceAdd,decide_true,Bool.and_true,Bool.or_true,Bool.not_false,cond_true,Nat.zero_add,Nat.le_refl,zd hN,Ag (show(3:Int)≠0 by decide),Zl hN hs m (j+1) fuel _ (show j+1+m=_ by omega) (show m<fuel by omega)]
  rw[Axt];rfl
theorem Zm {N:Nat} {c:CaseD} {i:Int} {u:OutD} {o:Bool} {p:Js} {K:LA→O R} (hN:8≤N) (k:c.units.l.length≤1000000) (hs:S6 u.moves.l.length N) (C:u.moves.l.length<8796093022208):∀ (m j fuel:Nat),j+m=u.moves.l.length→m<fuel →
  Dy N K i (u.moves.l.flatMap MoveD.av) u.moves.l.length o (C9 p) c.av u.av fuel j (u.moves.l.length:Int) (j:Int) (Av ((u.moves.l.take j).map (·.unit))) =
   K (C9 (nd (nd (nd p (u.moves.l.all (Baz c)) (6,i,3) A6r) (Aip (u.moves.l.map (·.unit))) (6,i,3) Bc4) (u.moves.l.all A6t) (6,i,3) e3))
 | 0,j,fuel+1,D,_=>by
  rw[Dy];unfold G5
  have F:j=u.moves.l.length:=by omega
  rw[Ku (by omega),cf,Nat.mul_one,List.take_of_length_le (by simp[Ed];omega),List.take_of_length_le (show u.moves.l.length≤j by omega)]
  rw[HD,Hi (by simp;omega) (by simpa using hs),Ag (by decide),Z6 (by simp;omega) (by simpa using hs),Ag (by decide),A3i]
  have:=Zl (R:=R) (N:=N) (i:=i) (l:=u.moves.l) (o:=o) (K:=K) hN hs.2 u.moves.l.length 0 N (nd (nd p (u.moves.l.all (Baz c)) (6,i,3) A6r) (Aip (u.moves.l.map (·.unit))) (6,i,3) Bc4) (by omega) hs.1
  have e:(u.moves.l.map (·.unit)).all (Fe 0 (IntKind.wrap .i64 ((c.units.l.length:Int) - 1)))=u.moves.l.all (Baz c):=by
   rw[List.all_map];congr 1;funext m;exact A1s _ _ (by omega)
  rw[e]
  simpa using this
 | m+1,j,fuel+1,D,M=>by
  rw[Dy];unfold G5
  have h:j<u.moves.l.length:=by omega
  have G:Nat.ble 3 (List.length (u.moves.l[j].av++List.flatMap MoveD.av (List.drop (j+1) u.moves.l)))=true:=by rw[E5,List.length_append,Qg];simp
  have I:List.take 3 (u.moves.l[j].av++List.flatMap MoveD.av (List.drop (j+1) u.moves.l))=u.moves.l[j].av:=List.take_left' (Qg _)
  have b3:(decide (j≤140737488355327)&&decide ((j+1)*8≤140737488355328))=true:=by simp;omega
  have L:List.take (j*1) (Av ((u.moves.l.take j).map (·.unit)))++[.int .i64 u.moves.l[j].unit]=Av ((u.moves.l.take (j+1)).map (·.unit)):=by
   rw[List.take_of_length_le (by simp[Ed];omega),List.take_succ_eq_append_getElem h,List.map_append,←yC];rfl
  rw[Jh h,ct,Aa h,ct,Int.toNat_natCast,Bh Qg _ _ h,Fd (by omega),G,ct,I,Qg]
  simp only[MoveD.av,setCells,Cu,List.nil_append,List.append_nil,List.drop_nil,List.drop_succ_cons,List.take_zero,List.length_cons,List.length_nil,Ay,E5,Asv,Bb,Nat.reduceAdd,Nat.reduceLeDiff,decide_true,Bool.and_true,Bool.or_true,Bool.not_false,cond_true,Nat.zero_add,Nat.le_refl,b3,L,Zm hN k hs C m (j+1) fuel (show j+1+m=_ by omega) (show m<fuel by omega)]
theorem fO {N:Nat} {c:CaseD} {p:Js} {o:Bool} {j:Nat} {K:LA→O R} (hs:Small c N) (h:j<c.ties.l.length) :
  My N c.av o (j:Int) (C9 p) K=K (C9 (Bay c j c.ties.l[j] p)):=by
 have hN:=hs.n64
 have hN8:8≤N:=by omega
 have C:=hs.tie
 have M:=hs.top
 have F:c.ties.l[j] ∈ c.ties.l:=List.getElem_mem h
 have S:=hs.tim _ F;have G:=hs.tex _ F;have I:=hs.tpr _ F
 have D:=@Dz R N c (c.ties.l.map (·.name)) o (k:=5) (n:=j) (hN:=hN) (hL:=fun K=>Aid hs) (hn:=by simpa using h) (hs:=⟨by have:=C.1;omega,by have:=C.2;omega⟩)
 have L:(c.ties.l.map (·.name))[j]'(by simpa using h)=c.ties.l[j].name:=by simp
 rw[L] at D
 rw[BM];unfold W0 
 rw[gS,Aa h,ct,Int.toNat_natCast,Bh Zk _ _ h]
 generalize c.ties.l[j]=b at *
 have T:Nat.ble 5 (List.length (b.av++List.flatMap TieD.av (List.drop (j+1) c.ties.l)))=true:=by rw[E5,List.length_append,Zk];simp
 have U:List.take 5 (b.av++List.flatMap TieD.av (List.drop (j+1) c.ties.l))=b.av:=List.take_left' (Zk b)
 rw[T,ct,U,Zk]
 simp only[Fz,D,TieD.av,List.drop_succ_cons,List.drop_zero,Ay,Hv,Fl,E5,Asv,decide_true,Bool.and_true,cond_true]
 simp only[I9 hN8 (show c.buses.l.length<4611686018427387904 by omega),Ee rfl S,Ee rfl G,Ee rfl I]
 rfl
theorem VG {N:Nat} {c:CaseD} {p:Js} {o:Bool} {j:Nat} {K:LA→O R} (hs:Small c N) (h:j<c.stores.l.length) :
  I3 N c.av o (j:Int) (C9 p) K=K (C9 (Aia c j c.stores.l[j] p)):=by
 have hN:=hs.n64
 have hN8:8≤N:=by omega
 have C:=hs.sto
 have G:=hs.top
 have M:c.stores.l[j] ∈ c.stores.l:=List.getElem_mem h
 skip
 have D:=@Dz R N c (c.stores.l.map (·.name)) o (k:=4) (n:=j) (hN:=hN) (hL:=fun K=>rP hs) (hn:=by simpa using h) (hs:=⟨by have:=C.1;omega,by have:=C.2;omega⟩)
 have F:(c.stores.l.map (·.name))[j]'(by simpa using h)=c.stores.l[j].name:=by simp
 rw[F] at D
 rw[Vx];unfold Sp 
 rw[DP,Aa h,ct,Int.toNat_natCast,Bh O8 _ _ h]
 generalize c.stores.l[j]=b at *
 have I:Nat.ble 9 (List.length (b.av++List.flatMap StoreD.av (List.drop (j+1) c.stores.l)))=true:=by rw[E5,List.length_append,O8];simp
 have L:List.take 9 (b.av++List.flatMap StoreD.av (List.drop (j+1) c.stores.l))=b.av:=List.take_left' (O8 b)
 rw[I,ct,L,O8]
 simp only[Fz,D,StoreD.av,List.drop_succ_cons,List.drop_zero,List.take_succ_cons,List.take_zero,List.length_cons,List.length_nil,Ay,E5,Asv,Bb,Nat.reduceAdd,decide_true,Bool.and_true,Bool.or_true,cond_true,Nat.zero_add,Nat.le_refl]
 simp only[I9 hN8 (show c.buses.l.length<4611686018427387904 by omega),D8 hN8,Ag (show(3:Int)≠0 by decide),LK hN8]
 unfold Aia;cases S7 b.eff<;>cases decide (b.eff.num>0)<;>rfl
theorem Z_ {N:Nat} {c:CaseD} {p:Js} {o:Bool} {j:Nat} {K:LA→O R} (hs:Small c N) (h:j<c.lines.l.length) :
  Hg N c.av o (j:Int) (C9 p) K=K (C9 (Aoq c j c.lines.l[j] p)):=by
 have hN:=hs.n64
 have hN8:8≤N:=by omega
 have C:=hs.lin
 have G:=hs.top
 have I:c.lines.l[j] ∈ c.lines.l:=List.getElem_mem h
 have L:=hs.law _ I
 have D:=@Dz R N c (c.lines.l.map (·.name)) o (k:=2) (n:=j) (hN:=hN) (hL:=fun K=>yE hs) (hn:=by simpa using h) (hs:=⟨by have:=C.1;omega,by have:=C.2;omega⟩)
 have F:(c.lines.l.map (·.name))[j]'(by simpa using h)=c.lines.l[j].name:=by simp
 rw[F] at D
 rw[Yz];unfold Nz J5 Oy Qn Ox Qm
 rw[Rm,Aa h,ct,Int.toNat_natCast,Bh Hj _ _ h]
 generalize c.lines.l[j]=b at *
 have M:Nat.ble 12 (List.length (b.av++List.flatMap LineD.av (List.drop (j+1) c.lines.l)))=true:=by rw[E5,List.length_append,Hj];simp
 have S:List.take 12 (b.av++List.flatMap LineD.av (List.drop (j+1) c.lines.l))=b.av:=List.take_left' (Hj b)
 rw[M,ct,S,Hj]
 simp only[Fz,D,LineD.av,List.drop_succ_cons,List.drop_zero,List.take_succ_cons,List.take_zero,List.length_cons,List.length_nil,Ay,Hv,Fl,E5,Asv,Bb,Nat.reduceAdd,Nat.reduceLeDiff,decide_true,Bool.and_true,Bool.or_true,cond_true,Nat.zero_add]
 simp only[I9 hN8 (show c.buses.l.length<4611686018427387904 by omega),D8 hN8,Ag (show(1:Int)≠0 by decide),Ag (show(3:Int)≠0 by decide),LK hN8,V3 rfl L]
 unfold Aoq;rw[show(b.fr != b.to)=(b.to != b.fr) by simp[bne,BEq.comm (a:=b.fr)]];cases S7 b.re<;>cases S7 b.smin<;>cases S7 b.smax<;>rfl
end
end Gx.Cf

namespace Gx.Cf
open Go Go.Proofs
section
variable {R:Type}
def A3j (c:CaseD) (j:Nat) (u:UnitD) (p:Js):Js :=
 let p:=rO ((c.units.l.map (·.name)).take j) 3 j u.name p
 let p:=nd p (yD c u.bus) (3,j,1) A6r
 let p:=nd p (Fe 0 1048576 u.min) (3,j,2) e3
 let p:=nd p (Fe u.min 1048576 u.max) (3,j,3) e3
 let p:=A87 u j p
 let p:=nd p (Fe 0 1048576 u.noLoad) (3,j,5) e3
 let p:=nd p (Fe 0 1048576 u.rampUp) (3,j,6) e3
 let p:=nd p (Fe 0 1048576 u.rampDown) (3,j,7) e3
 let p:=nd p (Fe u.min u.max u.startRamp) (3,j,8) e3
 let p:=nd p (Fe u.min u.max u.stopRamp) (3,j,9) e3
 let p:=nd p (Fe 0 24 u.upTime) (3,j,10) e3
 nd p (Fe 0 24 u.downTime) (3,j,11) e3
def A88 (c:CaseD) (j:Nat) (u:UnitD) (p:Js):Js :=
 let p:=nd p (Fe 0 24 u.startTime) (3,j,12) e3
 let p:=nd p (Fe 0 1048576 u.hotCost) (3,j,13) e3
 let p:=nd p (Fe 0 1048576 u.coldCost) (3,j,14) e3
 let p:=nd p (Fe 0 24 u.hotHours) (3,j,15) e3
 let p:=nd p (Fe 0 1048576 u.reserve) (3,j,16) e3
 let p:=nd p (Fe 0 1048576 u.reservePrice) (3,j,17) e3
 let p:=Ah9 c.hours u.away.l (3,j,18) p
 let p:=nd p (Fe 0 2 u.state) (3,j,19) A6r
 let p:=nd p (u.state != 1||decide (u.startTime>0)) (3,j,19) Bef
 let p:=nd p (Fe 1 48 u.hours) (3,j,20) e3
 let p:=nd p (u.state != 1||decide (u.hours≤u.startTime)) (3,j,20) e3
 cond (u.state==2) (nd p (Fe u.min u.max u.output) (3,j,21) e3) (nd p (u.output==0) (3,j,21) e3)
theorem Bd0 (n:Int):Fe 0 0 n=(n==0):=by
 unfold Fe
 by_cases h:n=0
 ·simp[h]
 ·have:(n==0)=false:=by simpa using h
  rw[this];simp;omega
theorem Ba1 {c:CaseD} {j:Nat} {u:UnitD} {p:Js}:A88 c j u (A3j c j u p)=Axv c j u p:=by
 show _=(let p:=nd (A3j c j u p) (Fe 0 24 u.startTime) (3,j,12) e3
  let p:=nd p (Fe 0 1048576 u.hotCost) (3,j,13) e3
  let p:=nd p (Fe 0 1048576 u.coldCost) (3,j,14) e3
  let p:=nd p (Fe 0 24 u.hotHours) (3,j,15) e3
  let p:=nd p (Fe 0 1048576 u.reserve) (3,j,16) e3
  let p:=nd p (Fe 0 1048576 u.reservePrice) (3,j,17) e3
  let p:=Ah9 c.hours u.away.l (3,j,18) p
  let p:=nd p (Fe 0 2 u.state) (3,j,19) A6r
  let p:=nd p (u.state != 1||u.startTime != 0) (3,j,19) Bef
  let p:=nd p (Fe 1 48 u.hours) (3,j,20) e3
  let p:=nd p (u.state != 1||decide (u.hours≤u.startTime)) (3,j,20) e3
  cond (u.state==2) (nd p (Fe u.min u.max u.output) (3,j,21) e3) (nd p (Fe 0 0 u.output) (3,j,21) e3))
 unfold A88
 rw[Bd0]
 cases hq:nd (A3j c j u p) (Fe 0 24 u.startTime) (3,(j:Int),12) e3 with
 | some x=>simp only[Baw,Ah9]
 | none =>
  have k:Fe 0 24 u.startTime=true:=by
   cases C:Fe 0 24 u.startTime with
   | true=>rfl
   | false =>
    rw[C] at hq
    cases D:A3j c j u p<;>rw[D] at hq<;>simp[nd] at hq
  have:decide (u.startTime>0)=(u.startTime != 0):=by
   unfold Fe at k
   simp at k
   by_cases h:u.startTime=0
   ·simp[h]
   ·have F:(u.startTime != 0)=true:=by simpa using h
    rw[F];simp;omega
  rw[this]
theorem Z' {N:Nat} {c:CaseD} {p:Js} {o:Bool} {j:Nat} {K:LA→O R} (hs:Small c N) (h:j<c.units.l.length) :
  Hh N c.av o (j:Int) (C9 p) K=K (C9 (Axv c j c.units.l[j] p)):=by
 have hN:=hs.n64
 have hN8:8≤N:=by omega
 have C:=hs.uni
 have L:=hs.top
 have M:c.units.l[j] ∈ c.units.l:=List.getElem_mem h
 have S:=hs.seg _ M;have F:=hs.uaw _ M
 have D:=@Dz R N c (c.units.l.map (·.name)) o (k:=3) (n:=j) (hN:=hN) (hL:=fun K=>yF hs) (hn:=by simpa using h) (hs:=⟨by have:=C.1;omega,by have:=C.2;omega⟩)
 have G:(c.units.l.map (·.name))[j]'(by simpa using h)=c.units.l[j].name:=by simp
 rw[G] at D
 rw[Y1];unfold N0 J6 O2 Qp
 rw[HD,Aa h,ct,Int.toNat_natCast,Bh Qf _ _ h]
 generalize c.units.l[j]=b at *
 have T:Nat.ble 22 (List.length (b.av++List.flatMap UnitD.av (List.drop (j+1) c.units.l)))=true:=by rw[E5,List.length_append,Qf];simp
 have U:List.take 22 (b.av++List.flatMap UnitD.av (List.drop (j+1) c.units.l))=b.av:=List.take_left' (Qf b)
 rw[T,ct,U,Qf]
 have I:∀ (p:Js) (K:LA→O R),Dg N [.str b.name,.int .i64 b.bus,.int .i64 b.min,.int .i64 b.max,b.segs.av 2 SegD.av,.int .i64 b.noLoad,.int .i64 b.rampUp,.int .i64 b.rampDown,.int .i64 b.startRamp,.int .i64 b.stopRamp,.int .i64 b.upTime,.int .i64 b.downTime,.int .i64 b.startTime,.int .i64 b.hotCost,.int .i64 b.coldCost,.int .i64 b.hotHours,.int .i64 b.reserve,.int .i64 b.reservePrice,b.away.av 1 GC,.int .i64 b.state,.int .i64 b.hours,.int .i64 b.output] o j (C9 p) K=K (C9 (A87 b j p)):=fun p K=>HJ hN8 S
 simp only[Fz,D,UnitD.av,List.drop_succ_cons,List.drop_zero,List.take_succ_cons,List.take_zero,Ay,Hv,Fl,E5,Asv,decide_true,Bool.and_true,cond_true,cond_false,Nat.le_refl]
 simp only[I9 hN8 (show c.buses.l.length<4611686018427387904 by omega),D8 hN8,Ag (show(3:Int)≠0 by decide),Ag (show(12:Int)≠0 by decide),Ag (show(16:Int)≠0 by decide),I,V3 rfl F]
 rw[←Ba1]
 unfold A88
 by_cases s1:b.state=1
 ·simp[s1];rfl
 ·have a4:(b.state != 1)=true:=by simpa using s1
  rw[a4]
  cases b.state==2<;>rfl
theorem RA {N:Nat} {c:CaseD} {p:Js} {o:Bool} {j:Nat} {K:LA→O R} (hs:Small c N) (h:j<c.outs.l.length) :
  Fn N c.av o (j:Int) (C9 p) K=K (C9 (A6u c j c.outs.l[j] p)):=by
 have hN:=hs.n64
 have hN8:8≤N:=by omega
 have C:=hs.out
 have D:=hs.top
 have I:c.outs.l[j] ∈ c.outs.l:=List.getElem_mem h
 have S:=hs.oli _ I;have F:=hs.omo _ I;have L:=hs.omb _ I
 have G:=@Dz R N c (c.outs.l.map (·.name)) o (k:=6) (n:=j) (hN:=hN) (hL:=fun K=>Aie hs) (hn:=by simpa using h) (hs:=⟨by have:=C.1;omega,by have:=C.2;omega⟩)
 have M:(c.outs.l.map (·.name))[j]'(by simpa using h)=c.outs.l[j].name:=by simp
 rw[M] at G
 rw[U0];unfold J7 H5 L9
 rw[CX,Aa h,ct,Int.toNat_natCast,Bh O9 _ _ h]
 generalize c.outs.l[j]=b at *
 have T:Nat.ble 4 (List.length (b.av++List.flatMap OutD.av (List.drop (j+1) c.outs.l)))=true:=by rw[E5,List.length_append,O9];simp
 have U:List.take 4 (b.av++List.flatMap OutD.av (List.drop (j+1) c.outs.l))=b.av:=List.take_left' (O9 b)
 rw[T,ct,U,O9]
 have l1:=fun p=>Zm (R:=R) (N:=N) (c:=c) (i:=j) (u:=b) (o:=o) (p:=p) (K:=K) hN8 D.2.2.1 F L b.moves.l.length 0 N (by omega) F.1
 simp only[List.take_zero,List.map_nil,Int.natCast_zero,Av] at l1
 simp only[Asv,decide_true,Bool.and_true,cond_true,Pb,Fz,G,Ba0,A3i,Bc5,D8 hN8,Hi rfl S,Z6 rfl S,Rm,Ag (show(4:Int)≠0 by decide),Ag (show(8:Int)≠0 by decide),Ag (show(11:Int)≠0 by decide),Ag (show(12:Int)≠0 by decide),Ag (show(16:Int)≠0 by decide),l1]
 have a1:Fe 1 2 (b.lines.l.length:Int)=((b.lines.l.length:Int)==1||(b.lines.l.length:Int)==2):=by
  unfold Fe
  by_cases x1:b.lines.l.length=1
  ·simp[x1]
  ·by_cases x2:b.lines.l.length=2
   ·simp[x2]
   ·have y1:((b.lines.l.length:Int)==1)=false:=by simp;omega
    have y2:((b.lines.l.length:Int)==2)=false:=by simp;omega
    rw[y1,y2];simp;omega
 have a2:b.lines.l.all (Fe 0 (IntKind.wrap .i64 ((c.lines.l.length:Int) - 1)))=b.lines.l.all fun n=>decide (0≤n)&&decide (n<(c.lines.l.length:Int)):=by
  congr 1;funext n;exact A1s _ _ (by omega)
 rw[a1,a2]
 unfold A6u A1u
 cases b.corr
 ·simp
 ·simp
end
end Gx.Cf

namespace Gx.Cf
inductive Conn (es:List (Nat×Nat)):Nat→Nat→Prop
 | refl (a:Nat):Conn es a a
 | fwd {u v b:Nat}:(u,v) ∈ es→Conn es v b→Conn es u b
 | bwd {u v b:Nat}:(u,v) ∈ es→Conn es u b→Conn es v b
theorem Conn.trans {es:List (Nat×Nat)} {a b c:Nat} (F:Conn es a b) (k:Conn es b c):Conn es a c:=by
 induction F with
 | refl=>exact k
 | fwd C _ D=>exact .fwd C (D k)
 | bwd C _ D=>exact .bwd C (D k)
theorem Conn.symm {es:List (Nat×Nat)} {a b:Nat} (h:Conn es a b):Conn es b a:=by
 induction h with
 | refl=>exact .refl _
 | fwd k _ C=>exact C.trans (.bwd k (.refl _))
 | bwd k _ C=>exact C.trans (.fwd k (.refl _))
theorem Conn.mono {es fs:List (Nat×Nat)} (hs:∀ e ∈ es,e ∈ fs) {a b:Nat} (h:Conn es a b):Conn fs a b:=by
 induction h with
 | refl=>exact .refl _
 | fwd k _ C=>exact .fwd (hs _ k) C
 | bwd k _ C=>exact .bwd (hs _ k) C
def yG (es:List (Nat×Nat)) (b:Nat):Prop:=∀ a,a<b→¬ Conn es a b
open Classical in
noncomputable def Zn (n:Nat) (es:List (Nat×Nat)):Nat:=((List.range n).filter fun b=>decide (yG es b)).length
theorem A1v {n:Nat} {es fs:List (Nat×Nat)} (h:∀ e ∈ es,e ∈ fs):Zn n fs≤Zn n es:=by
 unfold Zn
 have:∀ (l:List Nat),(l.filter fun b=>@decide (yG fs b) (Classical.propDecidable _)).length≤(l.filter fun b=>@decide (yG es b) (Classical.propDecidable _)).length:=by
  intro l
  induction l with
  | nil=>simp
  | cons a r k =>
   rw[List.filter_cons,List.filter_cons]
   by_cases x:yG fs a
   ·have:yG es a:=fun b C D=>x b C (D.mono h)
    simp[x,this,k]
   ·by_cases y:yG es a<;>simp[x,y]<;>omega
 exact this _
def Rn (n:Nat):List Int:=(List.range n).map fun b:Nat=>(b:Int)
theorem Aos {n a:Nat} (h:a<n):(Rn n).getD a 0=(a:Int):=by
 rw[List.getD_eq_getElem?_getD,Rn,List.getElem?_map,List.getElem?_range h];rfl
structure LeastOk (n:Nat) (es:List (Nat×Nat)) (L:List Int):Prop where
 len:L.length=n
 low:∀ b,b<n→0≤L.getD b 0∧L.getD b 0≤b
 con:∀ b,b<n→Conn es (L.getD b 0).toNat b
def A3k (es:List (Nat×Nat)) (L:List Int):Prop:=∀ e ∈ es,L.getD e.1 0=L.getD e.2 0
def Ba2 (L:List Int):Nat:=((List.range L.length).filter fun b=>L.getD b 0==(b:Int)).length
theorem yH {n:Nat} {es:List (Nat×Nat)} {L:List Int} (h:LeastOk n es L) (G:A3k es L) (I:∀ e ∈ es,e.1<n∧e.2<n):Ba2 L=Zn n es:=by
 unfold Ba2 Zn
 rw[h.len]
 congr 1
 apply List.filter_congr
 intro b C
 have C:b<n:=by simpa using C
 have conn_eq:∀ a b,Conn es a b→L.getD a 0=L.getD b 0:=by
  intro a b D
  induction D with
  | refl=>rfl
  | fwd k _ F=>exact(G _ k).trans F
  | bwd k _ F=>exact(G _ k).symm.trans F
 have M:=h.low b C
 by_cases x:L.getD b 0=(b:Int)
 ·have:yG es b:=fun a S D=>by
   have e:=conn_eq a b D
   have:=(h.low a (by omega)).2
   omega
  have x':(L.getD b 0==(b:Int))=true:=by simpa using x
  rw[x'];simp[this]
 ·have x':(L.getD b 0==(b:Int))=false:=by simpa using x
  have:¬ yG es b:=fun k=>k (L.getD b 0).toNat (by omega) (h.con b C)
  rw[x'];simp[this]
end Gx.Cf

namespace Gx.Cf
open Go Go.Proofs
section
variable {R:Type}
theorem VH {l:List Int} {j:Nat} (h:j<l.length):l.getD j 0=l[j]:=by rw[List.getD_eq_getElem?_getD,List.getElem?_eq_getElem h];rfl
theorem Aot {x:Int} {n:Nat} (k:0≤x) (C:x.toNat<n):Ac x n=true:=by simp[Ac];omega
theorem A89 {l:List Int} {x:Int} (h:x.toNat<l.length) {f:Int→O R}:An .i64 (List.drop (0+((Int.toNat x)*1)) (Av l)) f=f (l.getD x.toNat 0):=by
 rw[Nat.zero_add,Nat.mul_one,OS h,VH h]
theorem rQ (l:List Int) (j:Nat) (v:Int):List.set (Av l) j (.int .i64 v)=Av (l.set j v):=by simp[Av,List.map_set]
theorem Asz {l:List Int} {x:Nat} (h:x<l.length):((Nat.beq 1 1)&&((Nat.ble ((0+(x*1))+1) (List.length (Av l)))&&(!false)))=true:=by
 rw[Asv,E5,Ed];simp;omega
def Ik (c:CaseD) (l:Int):Nat×Nat:=match c.lines.l[l.toNat]? with
 | some x=>(x.fr.toNat,x.to.toNat)
 | none=>(0,0)
structure LnV (c:CaseD) (l:Int) (x:LineD):Prop where
 l0:0≤l
 lt:l.toNat<c.lines.l.length
 at':c.lines.l[l.toNat]?=some x
 f0:0≤x.fr
 f1:x.fr.toNat<c.buses.l.length
 t0:0≤x.to
 t1:x.to.toNat<c.buses.l.length
theorem A3l {c:CaseD} {l:Int} {x:LineD} (h:LnV c l x):Ik c l=(x.fr.toNat,x.to.toNat):=by unfold Ik;rw[h.at']
theorem Bd1 {c:CaseD} {l:Int} {x:LineD} (h:LnV c l x) {f:Int→O R}:An .i64 (List.drop 1 (List.drop ((Int.toNat l)*12) (c.lines.l.flatMap LineD.av))) f=f x.fr:=by
 have e:c.lines.l[l.toNat]'h.lt=x:=by have:=h.at';rw[List.getElem?_eq_getElem h.lt] at this;simpa using this
 rw[Bh Hj _ _ h.lt,e];simp[LineD.av,Ay]
theorem Bd2 {c:CaseD} {l:Int} {x:LineD} (h:LnV c l x) {f:Int→O R}:An .i64 (List.drop 2 (List.drop ((Int.toNat l)*12) (c.lines.l.flatMap LineD.av))) f=f x.to:=by
 have e:c.lines.l[l.toNat]'h.lt=x:=by have:=h.at';rw[List.getElem?_eq_getElem h.lt] at this;simpa using this
 rw[Bh Hj _ _ h.lt,e];simp[LineD.av,Ay]
theorem A1w {L:List Int} {n j:Nat} (C:L.length=n) (h:j<n):((Rn n).take j++L.drop j).set j (j:Int)=(Rn n).take (j+1)++L.drop (j+1):=by
 have hi:(Rn n).length=n:=by simp[Rn]
 have e:(Rn n)[j]'(by omega)=(j:Int):=by simp[Rn]
 have k:j - ((Rn n).take j).length=0:=by simp[hi];omega
 rw[List.set_append_right _ _ (by simp;omega),k,List.take_succ_eq_append_getElem (by omega),C5 (l:=L) (by omega),e,List.set_cons_zero,List.append_assoc];rfl
end
end Gx.Cf

namespace Gx.Cf
open Go Go.Proofs
section
variable {R:Type}
def tz (h:Int):List LineD→Nat→List Int
 | [],_=>[]
 | x::r,j=>cond (x.away.l.contains h) (tz h r (j+1)) ((j:Int)::tz h r (j+1))
theorem fP (h:Int):∀ (l:List LineD) (j:Nat),(tz h l j).length≤l.length
 | [],_=>by simp[tz]
 | x::r,j=>by rw[tz];have:=fP h r (j+1);cases x.away.l.contains h<;>simp<;>omega
theorem Axx (h:Int):∀ (l:List LineD) (j:Nat) (a:Int),a ∈ tz h l j→(j:Int)≤a∧a<j+l.length
 | [],_,_,k=>by simp[tz] at k
 | x::r,j,a,k=>by
  rw[tz] at k
  have C:=Axx h r (j+1) a
  cases D:x.away.l.contains h<;>rw[D] at k<;>simp at k
  ·rcases k with rfl | k
   ·simp;omega
   ·have:=C k;simp at this ⊢;omega
  ·have:=C k;simp at this ⊢;omega
def Bc (c:CaseD) (h:Int):List Int:=tz h c.lines.l 0
theorem As0 {A B:List Int} {n:Nat} (h:n=A.length):(List.take (n*1) (Av A))++Av B=Av (A++B):=by
 rw[Nat.mul_one,List.take_of_length_le (by simp[Ed,h]),yC]
theorem fQ {N:Nat} {c:CaseD} {h:Int} {o:Bool} {K:Nat→LA→O R} (hs:Small c N):∀ (m j fuel:Nat) (A:List Int),j+m=c.lines.l.length→m<fuel→A.length≤j →
  Fo N K h o c.av fuel A.length (j:Int) (Av A)=K (A++tz h (c.lines.l.drop j) j).length (Av (A++tz h (c.lines.l.drop j) j))
 | 0,j,fuel+1,A,G,_,_=>by
  rw[Fo];unfold N1
  rw[Rm,Ku (by omega),cf,E9 (l:=c.lines.l) (by omega),tz,List.append_nil]
 | m+1,j,fuel+1,A,G,T,hA=>by
  rw[Fo];unfold N1
  have k:j<c.lines.l.length:=by omega
  have F:=hs.top.2.1
  have I:c.lines.l[j] ∈ c.lines.l:=List.getElem_mem k
  have L:=hs.law _ I
  simp only[Rm]
  rw[Jh k,ct,Aa k,ct,Int.toNat_natCast,Bh Hj _ _ k,C5 (l:=c.lines.l) k,tz]
  have C:=fQ (N:=N) (c:=c) (h:=h) (o:=o) (K:=K) hs m (j+1) fuel (A++[(j:Int)]) (by omega) (by omega) (by simp;omega)
  have D:=fQ (N:=N) (c:=c) (h:=h) (o:=o) (K:=K) hs m (j+1) fuel A (by omega) (by omega) (by omega)
  generalize c.lines.l[j]=b at *
  have b3:(Nat.ble (A.length+1) 140737488355328&&Nat.ble ((A.length+1)*8) 140737488355328)=true:=by rw[E5,E5];simp;omega
  have M:∀ (r:LA) (f:LA→Nat→O R),Co 1 (List.drop 11 (b.av++r)) f=f (Av b.away.l) b.away.l.length:=fun r f=>by simp[LineD.av,Hv,Fl]
  have S:List.take (A.length*1) (Av A)++[.int .i64 (j:Int)]=Av (A++[(j:Int)]):=As0 (B:=[(j:Int)]) rfl
  rw[M,VB rfl L,b3,ct,S,Fd (by omega)]
  cases b.away.l.contains h with
  | true=>simp only[Bool.not_true,cond_false,cond_true];exact D
  | false =>
   simp only[Bool.not_false,cond_true,cond_false]
   rw[List.length_append] at C
   simpa using C
theorem Axy {N:Nat} {c:CaseD} {h:Int} {o:Bool} {K:Nat→LA→O R} (hs:Small c N):Ne N c.av o h K=K (Bc c h).length (Av (Bc c h)):=by
 rw[KR];unfold U5
 have:=fQ (R:=R) (N:=N) (c:=c) (h:=h) (o:=o) (K:=K) hs c.lines.l.length 0 N [] (by omega) hs.lin.1 (by simp)
 simpa[Bc,Av] using this
def Bz (e:Nat×Nat):LA:=[.int .i64 (e.1:Int),.int .i64 (e.2:Int)]
theorem Vj (e:Nat×Nat):(Bz e).length=2:=rfl
theorem gT (es:List (Nat×Nat)):(es.flatMap Bz).length=es.length*2:=by
 induction es with
 | nil=>rfl
 | cons e r k=>rw[List.flatMap_cons,List.length_append,k,Vj];simp;omega
theorem Aif {N:Nat} {c:CaseD} {o:Bool} {ls:List Int} {K:Nat→Nat→LA→LA→O R} (D:ls.length≤1000000) (C:∀ l ∈ ls,∃ x,LnV c l x):∀ (m j fuel:Nat),j+m=ls.length→m<fuel →
  Ma N K ls.length o c.av (Av ls) fuel j (ls.length:Int) (j:Int) (((ls.take j).map (Ik c)).flatMap Bz)=K ls.length ls.length ((ls.map (Ik c)).flatMap Bz) (Av ls)
 | 0,j,fuel+1,F,_=>by
  rw[Ma];unfold Xw
  have:j=ls.length:=by omega
  rw[Ku (by omega),cf,List.take_of_length_le (by omega),this]
 | m+1,j,fuel+1,F,I=>by
  rw[Ma];unfold Xw
  have h:j<ls.length:=by omega
  obtain⟨x,k⟩:=C ls[j] (List.getElem_mem h)
  have b3:(Nat.ble (j+1) 140737488355328&&Nat.ble ((j+1)*16) 140737488355328)=true:=by rw[E5,E5];simp;omega
  have G:List.take (j*2) (((ls.take j).map (Ik c)).flatMap Bz)++[.int .i64 x.fr,.int .i64 x.to]=((ls.take (j+1)).map (Ik c)).flatMap Bz:=by
   rw[List.take_of_length_le (by rw[gT];simp;omega),List.take_succ_eq_append_getElem h,List.map_append,List.flatMap_append]
   simp only[List.map_cons,List.map_nil,A3l k,List.flatMap_cons,List.flatMap_nil,List.append_nil,Bz]
   have:=k.f0;have:=k.t0
   rw[Int.toNat_of_nonneg k.f0,Int.toNat_of_nonneg k.t0]
  rw[Jh h,ct,Aa h,ct,A89 (by simpa using h),Int.toNat_natCast,VH h]
  simp only[Rm,Bd1 k,Bd2 k]
  rw[Aot k.l0 k.lt,ct,ct,b3,ct,G,Fd (by omega),Aif D C m (j+1) fuel (by omega) (by omega)]
theorem A1x {N:Nat} {c:CaseD} {h:Int} {o:Bool} {K:Nat→Nat→LA→LA→O R} (hs:Small c N) (D:∀ l ∈ Bc c h,∃ x,LnV c l x) :
  DN N c.av o h K=K (Bc c h).length (Bc c h).length (((Bc c h).map (Ik c)).flatMap Bz) (Av (Bc c h)):=by
 rw[kJ];unfold UM
 have F:=fP h c.lines.l 0
 have k:=hs.top.2.1
 have C:=hs.lin.1
 have:=Aif (R:=R) (N:=N) (c:=c) (o:=o) (ls:=Bc c h) (K:=K) (by unfold Bc;omega) D (Bc c h).length 0 N (by omega) (by unfold Bc;omega)
 rw[Pb,ct,Fz,Axy hs]
 simpa using this
def Fq (st:Bool×List Int) (e:Nat×Nat):Bool×List Int :=
 let m:=Bj (st.2.getD e.1 0) (st.2.getD e.2 0)
 ((st.1||(st.2.getD e.1 0 != m))||(st.2.getD e.2 0 != m),(st.2.set e.1 m).set e.2 m)
theorem yI {N:Nat} {es:List (Nat×Nat)} {n:Nat} {t o:Bool} {K1:Bool→LA→O R} {K:Nat→LA→O R} (hs:es.length<4611686018427387904) (F:∀ e ∈ es,e.1<n∧e.2<n):∀ (m j fuel:Nat) (st:Bool×List Int),j+m=es.length→m<fuel→st.2.length=n →
  H0 N K1 K (es.flatMap Bz) es.length t o n fuel st.1 (es.length:Int) (j:Int) (Av st.2)=K1 ((es.drop j).foldl Fq st).1 (Av ((es.drop j).foldl Fq st).2)
 | 0,j,fuel+1,st,G,_,_=>by
  rw[H0];unfold R4
  rw[Ku (by omega),cf,E9 (l:=es) (by omega)];rfl
 | m+1,j,fuel+1,st,G,hf,k=>by
  rw[H0];unfold R4
  have h:j<es.length:=by omega
  obtain⟨C,D⟩:=F es[j] (List.getElem_mem h)
  have I:=yI (N:=N) (es:=es) (n:=n) (t:=t) (o:=o) (K1:=K1) (K:=K) hs F m (j+1) fuel (Fq st es[j]) (by omega) (by omega) (by simp[Fq,k])
  rw[Jh h,ct,Aa h,ct,Int.toNat_natCast,Bh Vj _ _ h,C5 (l:=es) h,List.foldl_cons,←I]
  generalize es[j]=e at *
  have L:Nat.ble 2 (List.length (Bz e++List.flatMap Bz (List.drop (j+1) es)))=true:=by rw[E5,List.length_append,Vj];simp
  have M:List.take 2 (Bz e++List.flatMap Bz (List.drop (j+1) es))=Bz e:=List.take_left' (Vj e)
  rw[L,ct,M,Vj]
  have iu:Ac (e.1:Int) n=true:=Aa C
  have iv:Ac (e.2:Int) n=true:=Aa D
  have ru:∀ f:Int→O R,An .i64 (List.drop (0+((Int.toNat (e.1:Int))*1)) (Av st.2)) f=f (st.2.getD e.1 0):=fun f=>by rw[A89 (by rw[k];simpa using C)];rfl
  have rv:∀ f:Int→O R,An .i64 (List.drop (0+((Int.toNat (e.2:Int))*1)) (Av st.2)) f=f (st.2.getD e.2 0):=fun f=>by rw[A89 (by rw[k];simpa using D)];rfl
  have s1:=Asz (l:=st.2) (x:=(Int.toNat (e.1:Int))) (by rw[k];simpa using C)
  have s2:∀ m:Int,((Nat.beq 1 1)&&((Nat.ble ((0+((Int.toNat (e.2:Int))*1))+1) (List.length (List.set (Av st.2) (0+((Int.toNat (e.1:Int))*1)) (.int .i64 m))))&&(!false)))=true:=fun m=>by
   rw[rQ];exact Asz (by simpa[k] using D)
  have S:∀ m:Int,List.set (List.set (Av st.2) (0+((Int.toNat (e.1:Int))*1)) (.int .i64 m)) (0+((Int.toNat (e.2:Int))*1)) (.int .i64 m)=Av ((st.2.set e.1 m).set e.2 m):=fun m=>by
   rw[rQ,rQ];simp
  have p1:(!o||Bb (Bz e))=true:=by simp[Bz,Bb]
  have p2:(Nat.beq 2 2&&(Nat.ble 2 2&&!false))=true:=rfl
  have T:setCells [(.int .i64 (0:Int)),(.int .i64 (0:Int))] 0 (Bz e)=Bz e:=rfl
  have U:∀ f:Int→O R,An .i64 (Bz e) f=f e.1:=fun f=>by simp[Bz,Ay]
  have V:∀ f:Int→O R,An .i64 (List.drop 1 (Bz e)) f=f e.2:=fun f=>by simp[Bz,Ay]
  simp only[p1,p2,T,U,V,ct,iu,iv,ru,rv,s1,s2,S,Fd (show j<4611686018427387904 by omega)]
  unfold Fq
  cases st.1
  ·cases Y:(st.2.getD e.1 0 != Bj (st.2.getD e.1 0) (st.2.getD e.2 0))<;>simp only[Y,Bool.false_or,Bool.true_or,cond_true,cond_false,beq_self_eq_true,show(true==false)=false from rfl]
  ·simp only[Bool.true_or,cond_false,show(true==false)=false from rfl]
def m8 (L:List Int):Nat:=(L.map Int.toNat).sum
theorem A3m {L:List Int} {x:Nat} {v:Int} (h:x<L.length):m8 (L.set x v)+(L.getD x 0).toNat=m8 L+v.toNat:=by
 unfold m8
 rw[VH h]
 induction L generalizing x with
 | nil=>simp at h
 | cons a r k =>
  cases x with
  | zero=>simp;omega
  | succ x=>have:=k (x:=x) (by simpa using h);simp at this ⊢;omega
theorem Aig {L:List Int} {x y:Nat} {v:Int} (h:x<L.length):(L.set x v).getD y 0=if x=y then v else L.getD y 0:=by
 rw[List.getD_eq_getElem?_getD,List.getD_eq_getElem?_getD,List.getElem?_set]
 by_cases e:x=y
 ·subst e;simp[h]
 ·simp[e]
theorem Ba3 (a b:Int):Bj a b≤a∧Bj a b≤b∧(Bj a b=a∨Bj a b=b):=by
 unfold Bj
 by_cases h:b<a
 ·simp[h];omega
 ·simp[h];omega
theorem A6v {n:Nat} {es:List (Nat×Nat)} {e:Nat×Nat} (T:e ∈ es) (G:e.1<n) (I:e.2<n) {b:Bool} {L:List Int} (h:LeastOk n es L) :
    LeastOk n es (Fq (b,L) e).2∧(((Fq (b,L) e).1=true∧m8 (Fq (b,L) e).2<m8 L)∨((Fq (b,L) e)=(b,L)∧L.getD e.1 0=L.getD e.2 0)):=by
  obtain⟨u,v⟩:=e
  simp only at G I
  obtain⟨m1,m2,m3⟩:=Ba3 (L.getD u 0) (L.getD v 0)
  have k:u<L.length:=by rw[h.len];exact G
  have D:v<L.length:=by rw[h.len];exact I
  have C:Conn es u v:=.fwd T (.refl _)
  have Au:∀ y,((L.set u (Bj (L.getD u 0) (L.getD v 0))).set v (Bj (L.getD u 0) (L.getD v 0))).getD y 0=if v=y then Bj (L.getD u 0) (L.getD v 0) else if u=y then Bj (L.getD u 0) (L.getD v 0) else L.getD y 0:=fun y=>by
    rw[Aig (by simpa using D),Aig k]
  have lu:=h.low u G
  have lv:=h.low v I
  refine⟨⟨by simp[Fq,h.len],fun y S=>?_,fun y S=>?_⟩,?_⟩
  · simp only[Fq,Au]
    split
    · rename_i e;subst e;omega
    · split
      · rename_i e;subst e;omega
      · exact h.low y S
  · simp only[Fq,Au]
    have cm:Conn es (Bj (L.getD u 0) (L.getD v 0)).toNat u:=by
      rcases m3 with e | e<;>rw[e]
      · exact h.con u G
      · exact(h.con v I).trans C.symm
    split
    · rename_i e;subst e;exact cm.trans C
    · split
      · rename_i e;subst e;exact cm
      · exact h.con y S
  · by_cases e1:L.getD u 0=Bj (L.getD u 0) (L.getD v 0)<;>by_cases M:L.getD v 0=Bj (L.getD u 0) (L.getD v 0)
    · right
      have q:(L.set u (Bj (L.getD u 0) (L.getD v 0))).set v (Bj (L.getD u 0) (L.getD v 0))=L:=by
        have key:∀ m:Int,L.getD u 0=m→L.getD v 0=m→(L.set u m).set v m=L:=by
          intro m U V
          have a1:L.set u m=L:=by rw[←U,VH k,List.set_getElem_self]
          have a2:L.set v m=L:=by rw[←V,VH D,List.set_getElem_self]
          rw[a1,a2]
        exact key _ e1 M
      have x1:(L.getD u 0 != Bj (L.getD u 0) (L.getD v 0))=false:=by simpa using e1
      have x2:(L.getD v 0 != Bj (L.getD u 0) (L.getD v 0))=false:=by simpa using M
      refine⟨by simp only[Fq,q,x1,x2,Bool.or_false],by rw[e1];exact M.symm⟩
    all_goals
      left
      have Y:=A3m (v:=Bj (L.getD u 0) (L.getD v 0)) k
      have F:=A3m (L:=L.set u (Bj (L.getD u 0) (L.getD v 0))) (x:=v) (v:=Bj (L.getD u 0) (L.getD v 0)) (by simpa using D)
      rw[Aig k] at F
      refine⟨?_,?_⟩
      · first
          | (have x2 : (L.getD v 0 != Bj (L.getD u 0) (L.getD v 0)) = true := by simpa using M
             simp only[Fq,x2,Bool.or_true])
          | (have x1 : (L.getD u 0 != Bj (L.getD u 0) (L.getD v 0)) = true := by simpa using e1
             simp only[Fq,x1,Bool.or_true,Bool.true_or])
      · simp only[Fq]
        split at F
        · rename_i e;subst e;omega
        · omega
theorem As1 {n:Nat} {es:List (Nat×Nat)} (C:∀ e ∈ es,e.1<n∧e.2<n):∀ (fs:List (Nat×Nat)) (b:Bool) (L:List Int),(∀ e ∈ fs,e ∈ es)→LeastOk n es L →
  LeastOk n es (fs.foldl Fq (b,L)).2∧(((fs.foldl Fq (b,L)).1=true∧(m8 (fs.foldl Fq (b,L)).2<m8 L∨(b=true∧m8 (fs.foldl Fq (b,L)).2≤m8 L)))∨((fs.foldl Fq (b,L))=(b,L)∧A3k fs L))
 | [],b,L,_,h=>⟨h,.inr ⟨rfl,fun e C=>by simp at C⟩⟩
 | e::r,b,L,G,h=>by
  have I:=G e (by simp)
  obtain⟨U,V⟩:=A6v I (C e I).1 (C e I).2 (b:=b) h
  rw[List.foldl_cons]
  rcases V with⟨M,S⟩ | ⟨M,S⟩
  ·have e':Fq (b,L) e=(true,(Fq (b,L) e).2):=by rw[←M]
   rw[e']
   obtain⟨T,k2⟩:=As1 C r true (Fq (b,L) e).2 (fun x k=>G x (List.mem_cons_of_mem _ k)) U
   refine⟨T,.inl ?_⟩
   rcases k2 with⟨D,F⟩ | ⟨D,_⟩
   ·exact⟨D,.inl (by rcases F with F | ⟨_,F⟩<;>omega)⟩
   ·rw[D];exact⟨rfl,.inl S⟩
  ·rw[M]
   obtain⟨T,k2⟩:=As1 C r b L (fun x k=>G x (List.mem_cons_of_mem _ k)) h
   refine⟨T,?_⟩
   rcases k2 with k2 | ⟨D,F⟩
   ·exact .inl k2
   ·refine .inr ⟨D,fun x k=>?_⟩
    rcases List.mem_cons.1 k with rfl | k
    ·exact S
    ·exact F x k
theorem yJ {N:Nat} {es:List (Nat×Nat)} {n:Nat} {t o:Bool} (hs:S6 es.length N) (C:∀ e ∈ es,e.1<n∧e.2<n):∀ (s fuel:Nat) (L:List Int),LeastOk n es L→m8 L≤s→s+2<fuel →
  ∃ L',LeastOk n es L'∧A3k es L'∧∀ K:Nat→LA→O R,Dh N K (es.flatMap Bz) es.length t o n fuel true (Av L)=K n (Av L')
 | s,fuel+1,L,h,hL,M=>by
  obtain⟨F,k2⟩:=As1 C es false L (fun _ G=>G) h
  have step:∀ K:Nat→LA→O R,Dh N K (es.flatMap Bz) es.length t o n (fuel+1) true (Av L)=Dh N K (es.flatMap Bz) es.length t o n fuel (es.foldl Fq (false,L)).1 (Av (es.foldl Fq (false,L)).2):=fun K=>by
   rw[Dh];unfold R5
   have:=yI (R:=R) (N:=N) (es:=es) (n:=n) (t:=t) (o:=o) (K1:=Dh N K (es.flatMap Bz) es.length t o n fuel) (K:=K) hs.2 C es.length 0 N (false,L) (by omega) hs.1 h.len
   simpa using this
  rcases k2 with⟨D,k⟩ | ⟨D,k⟩
  ·have I:m8 (es.foldl Fq (false,L)).2<m8 L:=by
    rcases k with k | ⟨k,_⟩
    ·exact k
    ·cases k
   obtain⟨L',a1,a2,a3⟩:=yJ hs C (s - 1) fuel _ F (by omega) (by omega)
   exact⟨L',a1,a2,fun K=>by rw[step,D];exact a3 K⟩
  ·refine⟨L,h,k,fun K=>?_⟩
   rw[step,D]
   rcases fuel with _ | fuel
   ·omega
   ·rw[Dh];unfold R5;rfl
 termination_by s=>s
 decreasing_by omega
theorem yK {N:Nat} {es:List (Nat×Nat)} {n:Nat} {t o:Bool} {K:Nat→LA→O R} (hn:n<4611686018427387904) (L:List Int) (hL:L.length=n):∀ (m j fuel:Nat),j+m=n→m<fuel →
  H1 N K (n:Int) (es.flatMap Bz) es.length t o fuel n (j:Int) (Av ((Rn n).take j++L.drop j))=Dh N K (es.flatMap Bz) es.length t o n N true (Av (Rn n))
 | 0,j,fuel+1,C,_=>by
  rw[H1];unfold R6
  rw[Ku (by omega),cf,E9 (by omega),List.append_nil,List.take_of_length_le (by simp[Rn];omega)]
 | m+1,j,fuel+1,C,D=>by
  rw[H1];unfold R6
  have h:j<n:=by omega
  have k:((Rn n).take j++L.drop j).length=n:=by simp[Rn];omega
  rw[Jh h,ct,Aa h,ct,Asz (by rw[k];simpa using h),ct,Int.toNat_natCast,Nat.zero_add,Nat.mul_one,rQ,A1w hL h,Fd (by omega),yK hn L hL m (j+1) fuel (by omega) (by omega)]
theorem A1y (n:Nat) (es:List (Nat×Nat)):LeastOk n es (Rn n):=by
 refine⟨by simp[Rn],fun b k=>?_,fun b k=>?_⟩
 ·rw[Aos k];omega
 ·rw[Aos k];exact .refl _
theorem Bc6 {L:List Int} {b:Nat}:(∀ x ∈ L,x.toNat≤b)→m8 L≤L.length*b:=by
 unfold m8
 induction L with
 | nil=>intro _;simp
 | cons a r k =>
  intro h
  have D:=h a (by simp)
  have F:=k (fun x C=>h x (List.mem_cons_of_mem _ C))
  simp[Nat.add_mul];omega
theorem rR {N:Nat} {es:List (Nat×Nat)} {n:Nat} {t o:Bool} (hs:S6 es.length N) (hn:n≤1000) (hN:n*n+1000<N) (D:∀ e ∈ es,e.1<n∧e.2<n) :
  ∃ L,LeastOk n es L∧A3k es L∧∀ (m:Nat) (K:Nat→LA→O R),m=es.length→O3 N (n:Int) (es.flatMap Bz) m t o K=K n (Av L):=by
 have k:m8 (Rn n)≤n*n:=by
  have:=Bc6 (L:=Rn n) (b:=n) (by
   intro x C;simp[Rn] at C;obtain⟨a,S,rfl⟩:=C;simp;omega)
  simpa[Rn] using this
 obtain⟨L,F,G,I⟩:=yJ (R:=R) (N:=N) (es:=es) (n:=n) (t:=t) (o:=o) hs D (n*n) N (Rn n) (A1y n es) k (by omega)
 refine⟨L,F,G,fun m K M=>?_⟩
 subst M
 rw[YG];unfold CQ
 have ok:(decide ((0:Int)≤(n:Int))&&(decide ((n:Int)≤(n:Int))&&(decide ((n:Int)≤(140737488355328:Int))&&decide (((n:Int)*((8:Nat):Int))≤(140737488355328:Int)))))=true:=by simp;omega
 have e:List.replicate n (AV.int .i64 (0:Int))=Av (List.replicate n 0):=by simp[Av]
 have:=yK (R:=R) (N:=N) (es:=es) (n:=n) (t:=t) (o:=o) (K:=K) (by omega) (List.replicate n 0) (by simp) n 0 N (by omega) (by omega)
 rw[ok,ct,Int.toNat_natCast,e,←I K]
 simpa using this
theorem m9 {N:Nat} {L:List Int} {t o:Bool} {K:Int→O R} (hs:L.length<1000000):∀ (m j fuel:Nat) (a:Nat),j+m=L.length→m<fuel→a≤j →
  Mb N K (Av L) L.length t o fuel (a:Int) (j:Int)=K ((a+((List.range' j m).filter fun b=>L.getD b 0==(b:Int)).length:Nat):Int)
 | 0,j,fuel+1,a,k,_,_=>by
  rw[Mb];unfold Xx
  rw[Ku (by omega),cf];simp
 | m+1,j,fuel+1,a,k,C,D=>by
  rw[Mb];unfold Xx
  have h:j<L.length:=by omega
  rw[Jh h,ct,Aa h,ct,Ah7 h,Fd (by omega),Fd (by omega),List.range'_succ,List.filter_cons,VH h]
  cases F:L[j]==(j:Int) with
  | true =>
   rw[ct,m9 hs m (j+1) fuel (a+1) (by omega) (by omega) (by omega)]
   simp;congr 1;omega
  | false =>
   rw[cf,m9 hs m (j+1) fuel a (by omega) (by omega) (by omega)]
   simp
theorem Aih {N:Nat} {L:List Int} {n:Nat} {t o:Bool} {K:Int→O R} (hn:n=L.length) (hs:L.length<1000000) (hN:L.length<N):W1 N (Av L) n t o K=K (Ba2 L:Int):=by
 subst hn
 rw[kL];unfold UN
 have:=m9 (R:=R) (N:=N) (L:=L) (t:=t) (o:=o) (K:=K) hs L.length 0 N 0 (by omega) hN (by omega)
 simp only[Int.natCast_zero,Nat.zero_add] at this
 rw[Ba2,List.range_eq_range']
 exact this
def rS (gone:List Int):List (Nat×Nat)→Nat→List (Nat×Nat)
 | [],_=>[]
 | e::r,j=>cond (gone.contains (j:Int)) (rS gone r (j+1)) (e::rS gone r (j+1))
theorem Aii {N:Nat} {es:List (Nat×Nat)} {gone:List Int} {n:Nat} {t o t2 o2:Bool} {K:Bool→O R} (T:es.length≤1000) (hlN:es.length<N) (hn:n≤1000) (hN:n*n+1000<N) (k:∀ e ∈ es,e.1<n∧e.2<n) (G:S6 gone.length N):∀ (m j fuel:Nat) (A:List (Nat×Nat)),j+m=es.length→m<fuel→A.length≤j→(∀ e ∈ A,e.1<n∧e.2<n) →
  Fp N K (n:Int) (es.flatMap Bz) es.length t o (Av gone) gone.length t2 o2 fuel A.length (j:Int) (A.flatMap Bz)=K (decide ((Zn n (A++rS gone (es.drop j) j):Int)>(Zn n es:Int)))
 | 0,j,fuel+1,A,U,_,hA,hAe=>by
  rw[Fp];unfold N2
  obtain⟨L,a1,a2,a3⟩:=rR (R:=R) (N:=N) (es:=A) (n:=n) (t:=false) (o:=true) ⟨by omega,by omega⟩ hn hN hAe
  obtain⟨L',D,I,b3⟩:=rR (R:=R) (N:=N) (es:=es) (n:=n) (t:=false) (o:=o) ⟨by omega,by omega⟩ hn hN k
  have l1:=a1.len;have l2:=D.len
  rw[Ku (by omega),cf,E9 (l:=es) (by omega),rS,List.append_nil,List.take_of_length_le (by rw[gT];exact Nat.le_refl _),a3 _ _ rfl,Nat.mul_one,List.take_of_length_le (by rw[Ed];omega),Aih (by omega) (by omega) (by omega),b3 _ _ rfl,List.take_of_length_le (by rw[Ed];omega),Aih (by omega) (by omega) (by omega),yH a1 a2 hAe,yH D I k]
 | m+1,j,fuel+1,A,U,hf,hA,hAe=>by
  rw[Fp];unfold N2
  have h:j<es.length:=by omega
  have C:=Aii (N:=N) (es:=es) (gone:=gone) (n:=n) (t:=t) (o:=o) (t2:=t2) (o2:=o2) (K:=K) T hlN hn hN k G m (j+1) fuel (A++[es[j]]) (by omega) (by omega) (by simp;omega) (by
   intro e M
   rcases List.mem_append.1 M with F | F
   ·exact hAe e F
   ·simp at F;subst F;exact k _ (List.getElem_mem h))
  have S:=Aii (N:=N) (es:=es) (gone:=gone) (n:=n) (t:=t) (o:=o) (t2:=t2) (o2:=o2) (K:=K) T hlN hn hN k G m (j+1) fuel A (by omega) (by omega) (by omega) hAe
  rw[Jh h,ct,VB rfl G,Aa h,ct,Int.toNat_natCast,Bh Vj _ _ h,C5 (l:=es) h,rS]
  generalize es[j]=e at *
  have D:Nat.ble 2 (List.length (Bz e++List.flatMap Bz (List.drop (j+1) es)))=true:=by rw[E5,List.length_append,Vj];simp
  have I:List.take 2 (Bz e++List.flatMap Bz (List.drop (j+1) es))=Bz e:=List.take_left' (Vj e)
  have b3:(Nat.ble (A.length+1) 140737488355328&&Nat.ble ((A.length+1)*16) 140737488355328)=true:=by rw[E5,E5];simp;omega
  have p1:(!o||Bb (Bz e))=true:=by simp[Bz,Bb]
  have V:List.take 2 (setCells [(.int .i64 (0:Int)),(.int .i64 (0:Int))] 0 (Bz e))=Bz e:=rfl
  have Y:List.take (A.length*2) (A.flatMap Bz)++Bz e=(A++[e]).flatMap Bz:=by
   rw[List.take_of_length_le (by rw[gT];exact Nat.le_refl _)];simp
  rw[D,ct,I,p1,ct,Vj,show(Nat.beq 2 2&&Nat.ble 2 2)=true from rfl,ct,b3,ct,V,Y,Fd (by omega)]
  cases gone.contains (j:Int) with
  | true=>simp only[Bool.not_true,cond_false,cond_true];exact S
  | false =>
   simp only[Bool.not_false,cond_true,cond_false]
   rw[List.length_append] at C
   simpa using C
theorem Aij {N:Nat} {es:List (Nat×Nat)} {gone:List Int} {n m m2:Nat} {t o t2 o2:Bool} {K:Bool→O R} (C:m=es.length) (k:m2=gone.length) (D:es.length≤1000) (hlN:es.length<N) (hn:n≤1000) (hN:n*n+1000<N) (F:∀ e ∈ es,e.1<n∧e.2<n) (G:S6 gone.length N) :
  Nf N (n:Int) (es.flatMap Bz) m t o (Av gone) m2 t2 o2 K=K (decide ((Zn n (rS gone es 0):Int)>(Zn n es:Int))):=by
 subst C k
 rw[KW];unfold U8
 have:=Aii (R:=R) (N:=N) (es:=es) (gone:=gone) (n:=n) (t:=t) (o:=o) (t2:=t2) (o2:=o2) (K:=K) D hlN hn hN F G es.length 0 N [] (by omega) hlN (by simp) (by simp)
 simpa using this
end
end Gx.Cf

namespace Gx.Cf
open Go Go.Proofs
section
variable {R:Type}
theorem Dn {p:Js} {ok:Bool} {w:Int×Int×Int} {e:{ e:Int // e≠0 }} (h:nd p ok w e=none):p=none∧ok=true:=by
 rcases p with _ | x
 ·cases ok
  ·simp[nd] at h
  ·exact⟨rfl,rfl⟩
 ·simp[nd] at h
theorem S8 {α:Type} {f:Nat→α→Js→Js} (C:∀ j a x,f j a (some x)=some x):∀ (l:List α) (j:Nat) (p:Js),Gm f l j p=none→p=none∧∀ i (h:i<l.length),f (j+i) l[i] none=none
 | [],j,p,h=>by rw[Gm] at h;exact⟨h,fun i hi=>by simp at hi⟩
 | a::r,j,p,h=>by
  rw[Gm] at h
  obtain⟨k,D⟩:=S8 C r (j+1) _ h
  have F:p=none:=by
   rcases p with _ | x
   ·rfl
   ·rw[C] at k;cases k
  subst F
  refine⟨rfl,fun i hi=>?_⟩
  cases i with
  | zero=>simpa using k
  | succ i=>have:=D i (by simpa using hi);rw[show j+1+i=j+(i+1) by omega] at this;simpa using this
theorem uA {c:CaseD} (j:Nat) (x:BusD) (y:(Int×Int×Int)×{ e:Int // e≠0 }):Bax c j x (some y)=some y:=rfl
theorem m_ {c:CaseD} (j:Nat) (x:LineD) (y:(Int×Int×Int)×{ e:Int // e≠0 }):Aoq c j x (some y)=some y:=rfl
theorem fR {c:CaseD} (j:Nat) (x:StoreD) (y:(Int×Int×Int)×{ e:Int // e≠0 }):Aia c j x (some y)=some y:=rfl
theorem uB {c:CaseD} (j:Nat) (x:TieD) (y:(Int×Int×Int)×{ e:Int // e≠0 }):Bay c j x (some y)=some y:=rfl
theorem mb {c:CaseD} (j:Nat) (x:UnitD) (y:(Int×Int×Int)×{ e:Int // e≠0 }):Axv c j x (some y)=some y:=by
 show cond (x.state==2) _ _=_
 cases x.state==2<;>rfl
def A9a (c:CaseD):Js :=
 let p:=A1t c none
 let p:=Gm (Bax c) c.buses.l 0 p
 let p:=Gm (Aoq c) c.lines.l 0 p
 let p:=Gm (Axv c) c.units.l 0 p
 let p:=Gm (Aia c) c.stores.l 0 p
 let p:=Gm (Bay c) c.ties.l 0 p
 Gm (A6u c) c.outs.l 0 p
noncomputable def A9b (c:CaseD) (h:Int) (o:OutD):Bool :=
 (Zn c.buses.l.length (((Bc c h).filter fun l=>!o.lines.l.contains l).map (Ik c)):Int)==(Zn c.buses.l.length ((Bc c h).map (Ik c)):Int)
noncomputable def A9c (c:CaseD) (h:Int) (j:Nat) (o:OutD) (p:Js):Js:=nd p (A9b c h o) (6,j,h) Bff
noncomputable def md (c:CaseD):Nat→Nat→Js→Js
 | 0,_,p=>p
 | m+1,j,p=>md c m (j+1) (Gm (A9c c j) c.outs.l 0 p)
theorem A6w {c:CaseD} {h:Int} (j:Nat) (x:OutD) (y:(Int×Int×Int)×{ e:Int // e≠0 }):A9c c h j x (some y)=some y:=rfl
theorem yL {c:CaseD} {y:(Int×Int×Int)×{ e:Int // e≠0 }}:∀ (m j:Nat),md c m j (some y)=some y
 | 0,_=>rfl
 | m+1,j=>by rw[md,Pa (fun j a=>A6w j a y)];exact yL m (j+1)
noncomputable def fS (c:CaseD):Js:=match A9a c with
 | some x=>some x
 | none=>md c c.hours.toNat 0 none
structure PreV (c:CaseD):Prop where
 hours:1≤c.hours∧c.hours≤24
 nb:c.buses.l.length≤32
 nl:c.lines.l.length≤64
 no:c.outs.l.length≤64
 line:∀ x ∈ c.lines.l,0≤x.fr∧x.fr.toNat<c.buses.l.length∧0≤x.to∧x.to.toNat<c.buses.l.length
 out:∀ x ∈ c.outs.l,x.lines.l.length≤2
theorem A6x {c:CaseD} (h:A9a c=none):PreV c:=by
 unfold A9a at h
 obtain⟨M,o6⟩:=S8 (fun _ _ _=>tw) _ _ _ h
 obtain⟨S,o5⟩:=S8 (fun j a x=>uB j a x) _ _ _ M
 obtain⟨T,o4⟩:=S8 (fun j a x=>fR j a x) _ _ _ S
 obtain⟨U,o3⟩:=S8 (fun j a x=>mb j a x) _ _ _ T
 obtain⟨V,o2⟩:=S8 (fun j a x=>m_ j a x) _ _ _ U
 obtain⟨I,o1⟩:=S8 (fun j a x=>uA j a x) _ _ _ V
 unfold A1t at I
 obtain⟨Y,e7⟩:=Dn I
 obtain⟨w6,_⟩:=Dn Y
 obtain⟨w5,_⟩:=Dn w6
 obtain⟨w4,_⟩:=Dn w5
 obtain⟨w3,D⟩:=Dn w4
 obtain⟨w2,k⟩:=Dn w3
 obtain⟨w1,_⟩:=Dn w2
 obtain⟨w0,_⟩:=Dn w1
 obtain⟨_,F⟩:=Dn w0
 unfold Fe at F k
 simp at F k D e7
 refine⟨F,by omega,by omega,by omega,fun x G=>?_,fun x G=>?_⟩
 ·obtain⟨i,hi,rfl⟩:=List.getElem_of_mem G
  have:=o2 i hi
  unfold Aoq Ah9 at this
  obtain⟨a,_⟩:=Dn this
  obtain⟨a,_⟩:=Dn a
  obtain⟨a,_⟩:=Dn a
  obtain⟨a,_⟩:=Dn a
  obtain⟨a,_⟩:=Dn a
  obtain⟨a,_⟩:=Dn a
  obtain⟨a,_⟩:=Dn a
  obtain⟨a,_⟩:=Dn a
  obtain⟨a,L⟩:=Dn a
  obtain⟨_,C⟩:=Dn a
  unfold yD at L C
  simp at L C
  omega
 ·obtain⟨i,hi,rfl⟩:=List.getElem_of_mem G
  have:=o6 i hi
  unfold A6u A1u at this
  obtain⟨a,_⟩:=Dn this
  obtain⟨a,_⟩:=Dn a
  obtain⟨a,_⟩:=Dn a
  obtain⟨a,_⟩:=Dn a
  obtain⟨a,_⟩:=Dn a
  obtain⟨a,_⟩:=Dn a
  obtain⟨a,_⟩:=Dn a
  obtain⟨_,C⟩:=Dn a
  simp at C
  omega
theorem PreV.lnV {c:CaseD} (v:PreV c) {h:Int} {l:Int} (C:l ∈ Bc c h):∃ x,LnV c l x:=by
 have:=Axx h c.lines.l 0 l C
 have D:0≤l:=by omega
 have k:l.toNat<c.lines.l.length:=by omega
 obtain⟨a,b,d,e⟩:=v.line _ (List.getElem_mem k)
 exact⟨c.lines.l[l.toNat],D,k,List.getElem?_eq_getElem k,a,b,d,e⟩
def w3 (p:Js):LA:=match p with
 | none=>[.int .i64 0,.int .i64 0,.int .i64 0]
 | some ((a,b,f),_)=>[.int .i64 a,.int .i64 b,.int .i64 f]
end
end Gx.Cf

namespace Gx.Cf
open Go Go.Proofs
section
variable {R:Type}
theorem A9d {N:Nat} {c:CaseD} {p:Js} {o:Bool} {j:Nat} {K:Int→LA→O R} {K2:LA→Int→O R} (hs:Small c N) (h:j<c.buses.l.length) :
  U9 N K K2 o c.av (j:Int) (C9 p)=K ((j+1:Nat):Int) (C9 (Bax c j c.buses.l[j] p)):=by
 have hN:=hs.n64
 have hN8:8≤N:=by omega
 have C:=hs.bus
 have G:c.buses.l[j] ∈ c.buses.l:=List.getElem_mem h
 have I:=hs.dem _ G
 have D:=@Dz R N c (c.buses.l.map (·.name)) o (k:=1) (n:=j) (hN:=hN) (hL:=fun K=>Axw hs) (hn:=by simpa using h) (hs:=⟨by have:=C.1;omega,by have:=C.2;omega⟩)
 have F:(c.buses.l.map (·.name))[j]'(by simpa using h)=c.buses.l[j].name:=by simp
 rw[F] at D
 unfold U9
 simp only[Pb,Fz,ct,D,Vi]
 rw[Aa h,ct,Int.toNat_natCast,Bh QY _ _ h]
 generalize c.buses.l[j]=b at *
 have L:∀ (r:LA) (f:LA→Nat→O R),Co 1 (List.drop 1 (b.av++r)) f=f (Av b.demand.l) b.demand.l.length:=fun r f=>by simp[BusD.av,Hv,Fl]
 have M:∀ (r:LA) (f:Int→O R),An .i64 (List.drop 2 (b.av++r)) f=f b.shed:=fun r f=>by simp[BusD.av,Ay]
 rw[L,Ee rfl I,ct,M,D8 hN8,Ag (by decide),Fd (by have:=C.2;omega)]
 rfl
theorem As2 {p:Js} {K:LA→Int→O R}:(cond (Nat.ble 3 (List.length (C9 p))) (An .i64 (List.drop 3 (C9 p)) fun x38=>(cond ((Nat.beq (List.length (List.take 3 (C9 p))) 3)&&((Nat.ble 3 3)&&(!false))) (cond (Nat.ble 3 (List.length (setCells [(.int .i64 (0:Int)),(.int .i64 (0:Int)),(.int .i64 (0:Int))] 0 (List.take 3 (C9 p))))) (K (List.take 3 (setCells [(.int .i64 (0:Int)),(.int .i64 (0:Int)),(.int .i64 (0:Int))] 0 (List.take 3 (C9 p)))) x38) none) none)) none)=K (w3 p) (Ia p):=by
 rcases p with _ | ⟨⟨a,b,f⟩,e,k⟩<;>simp[C9,A86,w3,Ia,E5,setCells,Cu,Ay]
theorem yM {N:Nat} {c:CaseD} {o:Bool} {K:LA→Int→O R} (hs:Small c N):∀ (m j fuel:Nat) (p:Js),j+m=c.buses.l.length→m<fuel →
  I5 N K o c.av fuel (j:Int) (C9 p)=Mg N K o c.av N 0 (C9 (Gm (Bax c) (c.buses.l.drop j) j p))
 | 0,j,fuel+1,p,C,_=>by
  rw[I5];unfold X4
  rw[Vi,Ku (by omega),E9 (l:=c.buses.l) (by omega),Gm];rfl
 | m+1,j,fuel+1,p,C,G=>by
  rw[I5];unfold X4
  have h:j<c.buses.l.length:=by omega
  have k:=hs.bus
  rw[Vi,Jh h,MN,C5 (l:=c.buses.l) h,Gm]
  rcases p with _ | ⟨x,e,D⟩
  ·simp only[Ia,beq_self_eq_true,cond_true]
   rw[A9d hs h,yM hs m (j+1) fuel _ (by omega) (by omega)]
  ·have F:(e==0)=false:=by simpa using D
   simp only[Ia,F,beq_self_eq_true,cond_true,cond_false]
   rw[uA,Pa (fun _ _=>uA _ _ _)]
theorem yN {N:Nat} {c:CaseD} {o:Bool} {K:LA→Int→O R} (hs:Small c N):∀ (m j fuel:Nat) (p:Js),j+m=c.lines.l.length→m<fuel →
  Mg N K o c.av fuel (j:Int) (C9 p)=Mf N K o c.av N 0 (C9 (Gm (Aoq c) (c.lines.l.drop j) j p))
 | 0,j,fuel+1,p,C,_=>by
  rw[Mg];unfold X3
  rw[Rm,Ku (by omega),E9 (l:=c.lines.l) (by omega),Gm];rfl
 | m+1,j,fuel+1,p,C,G=>by
  rw[Mg];unfold X3
  have h:j<c.lines.l.length:=by omega
  have k:=hs.lin
  rw[Rm,Jh h,MN,C5 (l:=c.lines.l) h,Gm]
  rcases p with _ | ⟨x,e,D⟩
  ·simp only[Ia,beq_self_eq_true,cond_true]
   rw[Pb,ct,Fz,Z_ hs h,Fd (by have:=k.2;omega),yN hs m (j+1) fuel _ (by omega) (by omega)]
  ·have F:(e==0)=false:=by simpa using D
   simp only[Ia,F,beq_self_eq_true,cond_true,cond_false]
   rw[m_,Pa (fun _ _=>m_ _ _ _)]
theorem yO {N:Nat} {c:CaseD} {o:Bool} {K:LA→Int→O R} (hs:Small c N):∀ (m j fuel:Nat) (p:Js),j+m=c.units.l.length→m<fuel →
  Mf N K o c.av fuel (j:Int) (C9 p)=Me N K o c.av N 0 (C9 (Gm (Axv c) (c.units.l.drop j) j p))
 | 0,j,fuel+1,p,C,_=>by
  rw[Mf];unfold X2
  rw[HD,Ku (by omega),E9 (l:=c.units.l) (by omega),Gm];rfl
 | m+1,j,fuel+1,p,C,G=>by
  rw[Mf];unfold X2
  have h:j<c.units.l.length:=by omega
  have k:=hs.uni
  rw[HD,Jh h,MN,C5 (l:=c.units.l) h,Gm]
  rcases p with _ | ⟨x,e,D⟩
  ·simp only[Ia,beq_self_eq_true,cond_true]
   rw[Pb,ct,Fz,Z' hs h,Fd (by have:=k.2;omega),yO hs m (j+1) fuel _ (by omega) (by omega)]
  ·have F:(e==0)=false:=by simpa using D
   simp only[Ia,F,beq_self_eq_true,cond_true,cond_false]
   rw[mb,Pa (fun _ _=>mb _ _ _)]
theorem yP {N:Nat} {c:CaseD} {o:Bool} {K:LA→Int→O R} (hs:Small c N):∀ (m j fuel:Nat) (p:Js),j+m=c.stores.l.length→m<fuel →
  Me N K o c.av fuel (j:Int) (C9 p)=Md N K o c.av N 0 (C9 (Gm (Aia c) (c.stores.l.drop j) j p))
 | 0,j,fuel+1,p,C,_=>by
  rw[Me];unfold X1
  rw[DP,Ku (by omega),E9 (l:=c.stores.l) (by omega),Gm];rfl
 | m+1,j,fuel+1,p,C,G=>by
  rw[Me];unfold X1
  have h:j<c.stores.l.length:=by omega
  have k:=hs.sto
  rw[DP,Jh h,MN,C5 (l:=c.stores.l) h,Gm]
  rcases p with _ | ⟨x,e,D⟩
  ·simp only[Ia,beq_self_eq_true,cond_true]
   rw[Pb,ct,Fz,VG hs h,Fd (by have:=k.2;omega),yP hs m (j+1) fuel _ (by omega) (by omega)]
  ·have F:(e==0)=false:=by simpa using D
   simp only[Ia,F,beq_self_eq_true,cond_true,cond_false]
   rw[fR,Pa (fun _ _=>fR _ _ _)]
theorem yQ {N:Nat} {c:CaseD} {o:Bool} {K:LA→Int→O R} (hs:Small c N):∀ (m j fuel:Nat) (p:Js),j+m=c.ties.l.length→m<fuel →
  Md N K o c.av fuel (j:Int) (C9 p)=Mc N K o c.av N 0 (C9 (Gm (Bay c) (c.ties.l.drop j) j p))
 | 0,j,fuel+1,p,C,_=>by
  rw[Md];unfold X0
  rw[gS,Ku (by omega),E9 (l:=c.ties.l) (by omega),Gm];rfl
 | m+1,j,fuel+1,p,C,G=>by
  rw[Md];unfold X0
  have h:j<c.ties.l.length:=by omega
  have k:=hs.tie
  rw[gS,Jh h,MN,C5 (l:=c.ties.l) h,Gm]
  rcases p with _ | ⟨x,e,D⟩
  ·simp only[Ia,beq_self_eq_true,cond_true]
   rw[Pb,ct,Fz,fO hs h,Fd (by have:=k.2;omega),yQ hs m (j+1) fuel _ (by omega) (by omega)]
  ·have F:(e==0)=false:=by simpa using D
   simp only[Ia,F,beq_self_eq_true,cond_true,cond_false]
   rw[uB,Pa (fun _ _=>uB _ _ _)]
theorem yR {N:Nat} {c:CaseD} {o:Bool} {K:LA→Int→O R} (hs:Small c N):∀ (m j fuel:Nat) (p:Js),j+m=c.outs.l.length→m<fuel →
  Mc N K o c.av fuel (j:Int) (C9 p)=D7 N K o c.av N 0 (C9 (Gm (A6u c) (c.outs.l.drop j) j p))
 | 0,j,fuel+1,p,C,_=>by
  rw[Mc];unfold Xz
  rw[CX,Ku (by omega),E9 (l:=c.outs.l) (by omega),Gm];rfl
 | m+1,j,fuel+1,p,C,G=>by
  rw[Mc];unfold Xz
  have h:j<c.outs.l.length:=by omega
  have k:=hs.out
  rw[CX,Jh h,MN,C5 (l:=c.outs.l) h,Gm]
  rcases p with _ | ⟨x,e,D⟩
  ·simp only[Ia,beq_self_eq_true,cond_true]
   rw[Pb,ct,Fz,RA hs h,Fd (by have:=k.2;omega),yR hs m (j+1) fuel _ (by omega) (by omega)]
  ·have F:(e==0)=false:=by simpa using D
   simp only[Ia,F,beq_self_eq_true,cond_true,cond_false]
   rw[tw,Pa (fun _ _=>tw)]
def HF (ol:List Int):List Int→Nat→List Int
 | [],_=>[]
 | a::r,j=>cond (ol.contains a) ((j:Int)::HF ol r (j+1)) (HF ol r (j+1))
theorem Axz (ol:List Int):∀ (l:List Int) (j:Nat) (x:Int),x ∈ HF ol l j→(j:Int)≤x
 | [],_,_,h=>by simp[HF] at h
 | a::r,j,x,h=>by
  rw[HF] at h
  have k:=Axz ol r (j+1) x
  cases C:ol.contains a<;>rw[C] at h<;>simp at h
  ·have:=k h;omega
  ·rcases h with rfl | h
   ·omega
   ·have:=k h;omega
theorem uC {f:Int→Nat×Nat} (ol:List Int):∀ (l:List Int) (j:Nat) (pre:List Int),(∀ x ∈ pre,x<(j:Int))→rS (pre++HF ol l j) (l.map f) j=((l.filter fun a=>!ol.contains a).map f)
 | [],_,_,_=>rfl
 | a::r,j,pre,F=>by
  rw[List.map_cons,rS,HF,List.filter_cons]
  have C:¬ (j:Int) ∈ pre:=fun h=>by have:=F _ h;omega
  cases I:ol.contains a with
  | true =>
   have G:(pre++cond true ((j:Int)::HF ol r (j+1)) (HF ol r (j+1))).contains (j:Int)=true:=by simp
   rw[G]
   have:=uC (f:=f) ol r (j+1) (pre++[(j:Int)]) (by
    intro x k
    rcases List.mem_append.1 k with D | D
    ·have:=F x D;omega
    ·simp at D;omega)
   simp only[cond_true,Bool.not_true,Bool.false_eq_true,if_false]
   rw[←this];simp
  | false =>
   have G:(pre++cond false ((j:Int)::HF ol r (j+1)) (HF ol r (j+1))).contains (j:Int)=false:=by
    simp only[cond_false]
    rw[List.contains_eq_mem]
    simp only[decide_eq_false_iff_not,List.mem_append,not_or]
    exact⟨C,fun D=>by have:=Axz ol r (j+1) _ D;omega⟩
   rw[G]
   have:=uC (f:=f) ol r (j+1) pre (by intro x k;have:=F x k;omega)
   simp only[cond_false,Bool.not_false,if_true,List.map_cons]
   rw[this]
theorem VI {N:Nat} {c:CaseD} {o:Bool} {hr:Int} {j:Nat} {p:Js} {K7:Int→LA→O R} {K9:Int→Int→LA→O R} {K:LA→Int→O R} (hs:Small c N) (hN:4096≤N) (v:PreV c) (h:j<c.outs.l.length):∀ (m q fuel:Nat) (A:List Int),q+m=(Bc c hr).length→m<fuel→A.length≤q →
  A++HF c.outs.l[j].lines.l ((Bc c hr).drop q) q=HF c.outs.l[j].lines.l (Bc c hr) 0 →
  Jp N K7 K9 K (Bc c hr).length (Bc c hr).length o c.av (((Bc c hr).map (Ik c)).flatMap Bz) (Av (Bc c hr)) fuel hr (j:Int) A.length (q:Int) (C9 p) (Av A)=K9 hr ((j+1:Nat):Int) (C9 (A9c c hr j c.outs.l[j] p))
 | 0,q,fuel+1,A,hq,_,hA,k=>by
  rw[Jp];unfold Va
  have T:=fP hr c.lines.l 0
  have U:=v.nl
  have D:=v.nb
  have F:=hs.out
  have hnn:c.buses.l.length*c.buses.l.length≤32*32:=Nat.mul_le_mul D D
  have G:(Bc c hr).length≤64:=by unfold Bc;omega
  rw[E9 (l:=Bc c hr) (by omega),HF,List.append_nil] at k
  have M:∀ e ∈ (Bc c hr).map (Ik c),e.1<c.buses.l.length∧e.2<c.buses.l.length:=by
   intro e M
   simp only[List.mem_map] at M
   obtain⟨l,V,rfl⟩:=M
   obtain⟨x,C⟩:=v.lnV V
   rw[A3l C];exact⟨C.f1,C.t1⟩
  rw[Ku (by omega),cf,Vi,List.take_of_length_le (by rw[gT];simp),Nat.mul_one,List.take_of_length_le (by rw[Ed];exact Nat.le_refl _),
   Aij (by simp) rfl (by simp;omega) (by simp;omega) (by omega) (by omega) M ⟨by omega,by omega⟩,Ag (by decide),Fd (by have:=F.2;omega)]
  have e1:rS A ((Bc c hr).map (Ik c)) 0=(((Bc c hr).filter fun a=>!c.outs.l[j].lines.l.contains a).map (Ik c)):=by
   rw[k]
   have:=uC (f:=Ik c) c.outs.l[j].lines.l (Bc c hr) 0 [] (by simp)
   simpa using this
  rw[e1]
  have Y:Zn c.buses.l.length ((Bc c hr).map (Ik c))≤Zn c.buses.l.length (((Bc c hr).filter fun a=>!c.outs.l[j].lines.l.contains a).map (Ik c)):=A1v (by
   intro e I
   simp only[List.mem_map,List.mem_filter] at I ⊢
   obtain⟨l,⟨V,_⟩,rfl⟩:=I
   exact⟨l,V,rfl⟩)
  have e2:(!decide ((Zn c.buses.l.length (((Bc c hr).filter fun a=>!c.outs.l[j].lines.l.contains a).map (Ik c)):Int)>(Zn c.buses.l.length ((Bc c hr).map (Ik c)):Int)))=A9b c hr c.outs.l[j]:=by
   unfold A9b
   generalize Zn c.buses.l.length ((Bc c hr).map (Ik c))=x at *
   generalize Zn c.buses.l.length (((Bc c hr).filter fun a=>!c.outs.l[j].lines.l.contains a).map (Ik c))=y at *
   by_cases hxy:x=y
   ·subst hxy;simp
   ·have a1:((y:Int)==(x:Int))=false:=by simp;omega
    rw[a1];simp;omega
  rw[e2];rfl
 | m+1,q,fuel+1,A,hq,hf,hA,k=>by
  rw[Jp];unfold Va
  have L:q<(Bc c hr).length:=by omega
  have T:=fP hr c.lines.l 0
  have U:=v.nl
  have G:(Bc c hr).length≤64:=by unfold Bc;omega
  have hm:c.outs.l[j] ∈ c.outs.l:=List.getElem_mem h
  have hd:=hs.oli _ hm
  have b4:∀ (f:LA→Nat→O R),Co 1 (List.drop 1 (List.drop (j*4) (List.flatMap OutD.av c.outs.l))) f=f (Av c.outs.l[j].lines.l) c.outs.l[j].lines.l.length:=fun f=>by rw[Bh O9 _ _ h];simp[OutD.av,Hv,Fl]
  have b3:(Nat.ble (A.length+1) 140737488355328&&Nat.ble ((A.length+1)*8) 140737488355328)=true:=by rw[E5,E5];simp;omega
  have b5:List.take (A.length*1) (Av A)++[.int .i64 (q:Int)]=Av (A++[(q:Int)]):=As0 (B:=[(q:Int)]) rfl
  rw[Jh L,ct,CX,Aa h,ct,Int.toNat_natCast,b4,Aa L,ct,A89 (by simpa using L),Int.toNat_natCast,VH L,VB rfl hd,b3,ct,b5,Fd (by omega)]
  rw[C5 L,HF] at k
  cases C:c.outs.l[j].lines.l.contains (Bc c hr)[q] with
  | true =>
   rw[C] at k
   have S:=VI (o:=o) (hr:=hr) (j:=j) (p:=p) (K7:=K7) (K9:=K9) (K:=K) hs hN v h m (q+1) fuel (A++[(q:Int)]) (by omega) (by omega) (by simp;omega) (by simpa using k)
   rw[List.length_append] at S
   simpa using S
  | false =>
   rw[C] at k
   have S:=VI (o:=o) (hr:=hr) (j:=j) (p:=p) (K7:=K7) (K9:=K9) (K:=K) hs hN v h m (q+1) fuel A (by omega) (by omega) (by omega) (by simpa using k)
   simpa using S
theorem yS {N:Nat} {c:CaseD} {o:Bool} {hr:Int} {K7:Int→LA→O R} {K:LA→Int→O R} (hs:Small c N) (hN:4096≤N) (v:PreV c):∀ (m j fuel:Nat) (p:Js),j+m=c.outs.l.length→m<fuel →
  I4 N K7 K (Bc c hr).length (Bc c hr).length o c.av (((Bc c hr).map (Ik c)).flatMap Bz) (Av (Bc c hr)) fuel hr (j:Int) (C9 p)=K7 (IntKind.wrap .i64 (hr+1)) (C9 (Gm (A9c c hr) (c.outs.l.drop j) j p))
 | 0,j,fuel+1,p,k,_=>by
  rw[I4];unfold Xy
  rw[CX,Ku (by omega),cf,E9 (l:=c.outs.l) (by omega),Gm]
 | m+1,j,fuel+1,p,k,G=>by
  rw[I4];unfold Xy
  have h:j<c.outs.l.length:=by omega
  have C:=fP hr c.lines.l 0
  have D:=v.nl
  have F:=yS (o:=o) (hr:=hr) (K7:=K7) (K:=K) hs hN v m (j+1) fuel (A9c c hr j c.outs.l[j] p) (by omega) (by omega)
  have l10:=VI (R:=R) (N:=N) (c:=c) (o:=o) (hr:=hr) (j:=j) (p:=p) (K7:=K7) (K9:=I4 N K7 K (Bc c hr).length (Bc c hr).length o c.av (((Bc c hr).map (Ik c)).flatMap Bz) (Av (Bc c hr)) fuel) (K:=K) hs hN v h (Bc c hr).length 0 N [] (by omega) (by unfold Bc;omega) (by simp) (by simp)
  rw[CX,Jh h,ct,C5 (l:=c.outs.l) h,Gm,←F,←l10]
  rfl
theorem yT {N H:Nat} {c:CaseD} {o:Bool} {K:LA→Int→O R} (hs:Small c N) (hN:4096≤N) (v:PreV c) (hH:c.hours=(H:Int)):∀ (m j fuel:Nat) (p:Js),j+m=H→m<fuel →
  D7 N K o c.av fuel (j:Int) (C9 p)=K (w3 (md c m j p)) (Ia (md c m j p))
 | 0,j,fuel+1,p,k,_=>by
  rw[D7];unfold Rj
  rw[QX,hH,Ku (by omega),As2,md];rfl
 | m+1,j,fuel+1,p,k,G=>by
  rw[D7];unfold Rj CS MJ
  have I:=v.hours
  rw[QX,hH,Jh (by omega),MN,As2]
  rcases p with _ | ⟨x,e,C⟩
  ·simp only[Ia,beq_self_eq_true,cond_true]
   have l9:=yS (R:=R) (N:=N) (c:=c) (o:=o) (hr:=(j:Int)) (K7:=D7 N K o c.av fuel) (K:=K) hs hN v c.outs.l.length 0 N none (by omega) hs.out.1
   rw[Pb,ct,Fz,A1x hs (fun l D=>v.lnV D)]
   simp only[List.drop_zero,Int.natCast_zero] at l9
   rw[l9,Fd (by omega),yT hs hN v hH m (j+1) fuel _ (by omega) (by omega)];rfl
  ·have F:(e==0)=false:=by simpa using C
   simp only[Ia,F,beq_self_eq_true,cond_true,cond_false]
   rw[yL]
theorem Ax0 {N:Nat} {c:CaseD} {o:Bool} {y:(Int×Int×Int)×{ e:Int // e≠0 }} {K:LA→Int→O R} {fuel:Nat}:D7 N K o c.av (fuel+1) 0 (C9 (some y))=K (w3 (some y)) (Ia (some y)):=by
 rw[D7];unfold Rj
 rw[QX,MN,As2]
 have k:(y.2.1==0)=false:=by simpa using y.2.2
 cases decide ((0:Int)<c.hours)<;>simp[Ia,k]
theorem Aik {N:Nat} {c:CaseD} {o:Bool} {K:LA→Int→O R} (hs:Small c N) (hN:4096≤N):DO N c.av o K=K (w3 (fS c)) (Ia (fS c)):=by
 rw[kN];unfold UO
 have k:[(.int .i64 (0:Int)),(.int .i64 (0:Int)),(.int .i64 (0:Int)),(.int .i64 (0:Int))]=C9 none:=rfl
 rw[Pb,ct,Fz,k,VF hs]
 have l0:=fun p=>yM (R:=R) (N:=N) (c:=c) (o:=o) (K:=K) hs c.buses.l.length 0 N p (by omega) hs.bus.1
 have l2:=fun p=>yN (R:=R) (N:=N) (c:=c) (o:=o) (K:=K) hs c.lines.l.length 0 N p (by omega) hs.lin.1
 have l3:=fun p=>yO (R:=R) (N:=N) (c:=c) (o:=o) (K:=K) hs c.units.l.length 0 N p (by omega) hs.uni.1
 have l4:=fun p=>yP (R:=R) (N:=N) (c:=c) (o:=o) (K:=K) hs c.stores.l.length 0 N p (by omega) hs.sto.1
 have l5:=fun p=>yQ (R:=R) (N:=N) (c:=c) (o:=o) (K:=K) hs c.ties.l.length 0 N p (by omega) hs.tie.1
 have l6:=fun p=>yR (R:=R) (N:=N) (c:=c) (o:=o) (K:=K) hs c.outs.l.length 0 N p (by omega) hs.out.1
 simp only[List.drop_zero,Int.natCast_zero] at l0 l2 l3 l4 l5 l6
 try dsimp only
 rw[l0,l2,l3,l4,l5,l6]
 show D7 N K o c.av N 0 (C9 (A9a c))=_
 unfold fS
 cases C:A9a c with
 | some y =>
  rcases N with _ | N
  ·omega
  ·exact Ax0
 | none =>
  have v:=A6x C
  have D:=v.hours
  have:=yT (R:=R) (N:=N) (H:=c.hours.toNat) (c:=c) (o:=o) (K:=K) hs hN v (by omega) c.hours.toNat 0 N none (by omega) (by omega)
  simpa using this
end
end Gx.Cf

namespace Gx.Cf
open Go Go.Proofs
section
variable {R:Type}
theorem Bc7 (p:Js):(w3 p).length=3:=by rcases p with _ | ⟨⟨a,b,f⟩,e⟩<;>rfl
end
end Gx.Cf

namespace Gx.Cf
open Go Go.Proofs
section
variable {R:Type}
theorem A9e (v n:Int) (F:1≤n) (G:n≤4611686018427387904):(IntKind.wrap .u64 n==0)=false∧0≤IntKind.wrap .i64 (Int.tmod (IntKind.wrap .u64 v) (IntKind.wrap .u64 n))∧IntKind.wrap .i64 (Int.tmod (IntKind.wrap .u64 v) (IntKind.wrap .u64 n))<n:=by
 have hn:IntKind.wrap .u64 n=n:=IntWalk.u64_in _ (by omega)
 have k:0≤IntKind.wrap .u64 v:=by rw[IntKind.wrap_u64];omega
 rw[hn]
 have C:0≤Int.tmod (IntKind.wrap .u64 v) n:=Int.tmod_nonneg _ k
 have D:Int.tmod (IntKind.wrap .u64 v) n<n:=Int.tmod_lt_of_pos _ (by omega)
 rw[Yb _ (by omega)]
 exact⟨by simp;omega,C,D⟩
theorem nx {N:Nat} {l:List Int} {t o:Bool} (M:l.length≤9223372036854775807) (n:Int) (F:1≤n) (G:n≤4611686018427387904) (k:Nat) (I:k≤l.length) :
  ∃ (v:Int) (C:Nat),0≤v∧v<n∧C≤l.length∧∀ K:Int→Int→O R,Af N n (Av l) l.length t o (k:Int) K=K v (C:Int):=by
 by_cases h:k<l.length
 ·obtain⟨a1,a2,a3⟩:=A9e l[k] n F G
  refine⟨_,k+1,a2,a3,by omega,fun K=>?_⟩
  rw[Ww];unfold Xm
  have D:IntKind.wrap .i64 ((k:Int)+1)=((k+1:Nat):Int):=by rw[Yb _ (by omega)];omega
  have L:IntKind.wrap .i64 (IntKind.wrap .i64 ((k:Int)+1) - 1)=(k:Int):=by rw[D,Yb _ (by omega)];omega
  rw[L,D,Aa h,ct,Ah7 h,Agq];unfold Arj
  rw[a1,cf,show decide ((k:Int)≥(l.length:Int))=false by simp;omega,cf]
 ·refine⟨0,k,by omega,by omega,I,fun K=>?_⟩
  rw[Ww];unfold Xm
  rw[show decide ((k:Int)≥(l.length:Int))=true by simp;omega,ct]
theorem Ail {N m:Nat} {l:List Int} {t o:Bool} (G:l.length≤9223372036854775807) (n:Int) (I:1≤n) (L:n≤4611686018427387904) (S:m≤1000):∀ (r j fuel:Nat) (k:Nat) (A:List Int),j+r=m→r<fuel→k≤l.length→A.length=j →
  ∃ (B:List Int) (M:Nat),B.length=r∧(∀ x ∈ B,0≤x∧x<n)∧M≤l.length∧∀ K:Nat→Int→LA→O R,Fm N K (m:Int) n (Av l) l.length t o fuel j (j:Int) (k:Int) (Av A)=K m (M:Int) (Av (A++B))
 | 0,j,fuel+1,k,A,T,_,C,hA=>by
  refine⟨[],k,rfl,by simp,C,fun K=>?_⟩
  rw[Fm];unfold Nw
  have:j=m:=by omega
  subst this
  rw[Ku (Nat.le_refl _),cf,List.append_nil]
 | r+1,j,fuel+1,k,A,T,hf,C,hA=>by
  obtain⟨v,U,v0,v1,D,V⟩:=nx (R:=R) (N:=N) (t:=t) (o:=o) G n I L k C
  obtain⟨B,k2,Y,b2,b3,b4⟩:=Ail G n I L S r (j+1) fuel U (A++[v]) (by omega) (by omega) D (by simp[hA])
  refine⟨v::B,k2,by simp[Y],?_,b3,fun K=>?_⟩
  ·intro x F
   rcases List.mem_cons.1 F with rfl | F
   ·exact⟨v0,v1⟩
   ·exact b2 x F
  ·rw[Fm];unfold Nw
   have c3:(Nat.ble (j+1) 140737488355328&&Nat.ble ((j+1)*8) 140737488355328)=true:=by rw[E5,E5];simp;omega
   have c5:List.take (j*1) (Av A)++[.int .i64 v]=Av (A++[v]):=As0 (B:=[v]) hA.symm
   rw[Jh (by omega),ct,V,c3,ct,c5,Fd (by omega),b4]
   simp
theorem HG {N m:Nat} {l:List Int} {t o:Bool} (hN:1001≤N) (D:l.length≤9223372036854775807) (n:Int) (F:1≤n) (G:n≤4611686018427387904) (I:m≤1000) (k:Nat) (L:k≤l.length) :
  ∃ (B:List Int) (C:Nat),B.length=m∧(∀ x ∈ B,0≤x∧x<n)∧C≤l.length∧∀ K:Nat→Int→LA→O R,El N (m:Int) n (Av l) l.length t o (k:Int) K=K m (C:Int) (Av B):=by
 obtain⟨B,C,M,S,b3,T⟩:=Ail (R:=R) (N:=N) (t:=t) (o:=o) D n F G I m 0 N k [] (by omega) (by omega) L rfl
 refine⟨B,C,M,S,b3,fun K=>?_⟩
 rw[KD];unfold Uu
 simpa[Av] using T K
theorem uD {N:Nat} {l:List Int} {t o:Bool} (F:l.length≤9223372036854775807) (H:Int) (T:1≤H) (Y:H≤1000) (k:Nat) (U:k≤l.length) :
  ∃ (B:List Int) (G:Nat),B.length≤1∧(∀ x ∈ B,0≤x∧x<H)∧G≤l.length∧∀ K:Nat→Int→LA→O R,Ls N H (Av l) l.length t o (k:Int) K=K B.length (G:Int) (Av B):=by
 obtain⟨v,I,v0,v1,C,L⟩:=nx (R:=R) (N:=N) (t:=t) (o:=o) F 6 (by omega) (by omega) k U
 by_cases M:v=5
 ·obtain⟨u,k2,u0,u1,D,V⟩:=nx (R:=R) (N:=N) (t:=t) (o:=o) F H T (by omega) I C
  refine⟨[u],k2,by simp,by intro x S;simp at S;subst S;exact⟨u0,u1⟩,D,fun K=>?_⟩
  rw[Wx];unfold Xn
  rw[L,V,M];rfl
 ·refine⟨[],I,by simp,by simp,C,fun K=>?_⟩
  rw[Wx];unfold Xn
  have:(v==5)=false:=by simpa using M
  rw[L,this];rfl
def Beu:List UInt8:=[48,49,50,51,52,53,54,55,56,57,97,98,99,100,101,102]
theorem Tv {N:Nat} {c:UInt8} {i:Nat} (hi:i<16) {K:List UInt8→O R}:KG N [c] (i:Int) K=K [c,Beu.getD i 0]:=by
 rw[xC];unfold Agt
 have e1:Int.tmod (i:Int) 16=(i:Int):=Int.tmod_eq_of_lt (by omega) (by omega)
 rw[e1,Fd (by omega)]
 have c1:(decide ((0:Int)≤(i:Int))&&(decide ((i:Int)≤((i+1:Nat):Int))&&(decide (((i+1:Nat):Int)≤(16:Int))&&decide ((16:Int)≤(16:Int)))))=true:=by simp;omega
 rw[c1,ct]
 simp only[Int.toNat_natCast,Nat.add_sub_cancel_left]
 have:List.take 1 (List.drop i ([48,49,50,51,52,53,54,55,56,57,97,98,99,100,101,102]:List UInt8))=[Beu.getD i 0]:=by
  rw[C5 (by simpa using hi)]
  simp[Beu,hi]
 rw[this];rfl
end
end Gx.Cf

namespace Gx.Cf
open Go Go.Proofs
section
variable {R:Type}
theorem Qh {a:Int} (h:-9223372036854775808≤a∧a≤9223372036854775807):IntKind.wrap .i64 a=a:=Yb a h
theorem Il {lo hi n:Int} (h:lo≤n∧n≤hi):Fe lo hi n=true:=by unfold Fe;simp;omega
structure LineG (i:Nat) (fr to H:Int) (x:LineD):Prop where
 name:x.name=[108,Beu.getD i 0]
 fr:x.fr=fr
 to:x.to=to
 re:(S7 x.re&&decide (x.re.num>0))=true
 smin:(S7 x.smin&&decide (x.smin.num≤0))=true
 smax:(S7 x.smax&&decide (x.smax.num≥0))=true
 lim:Fe 0 1048576 x.limit=true
 em:Fe x.limit 1048576 x.emer=true
 aw:x.away.l.length≤1
 awr:∀ y ∈ x.away.l,0≤y∧y<H
theorem Aou {f:FracD} (h:1≤f.den∧f.den≤1048576∧-1048576≤f.num∧f.num≤1048576):S7 f=true:=by unfold S7;rw[Il (by omega),Il (by omega)];rfl
theorem W7 {B:List Int}:List.take (B.length*1) (Av B)=B.flatMap GC:=by rw[Nat.mul_one,List.take_of_length_le (by rw[Ed];exact Nat.le_refl _),Fl]
theorem Aov {N:Nat} {l:List Int} {t o:Bool} (D:l.length≤9223372036854775807) {i:Nat} (hi:i<16) (fr to:Int) {H:Int} (hH:1≤H∧H≤24) (k:Nat) (hk:k≤l.length) :
  ∃ (x:LineD) (k':Nat),LineG i fr to H x∧k'≤l.length∧∀ K:LA→Int→O R,P4 N (i:Int) fr to H (Av l) l.length t o (k:Int) K=K x.av (k':Int):=by
 obtain⟨y2,ky2,y20,y21,M,S⟩:=nx (R:=R) (N:=N) (t:=t) (o:=o) D 4 (by omega) (by omega) k hk
 obtain⟨y4,ky4,y40,y41,T,U⟩:=nx (R:=R) (N:=N) (t:=t) (o:=o) D 2 (by omega) (by omega) ky2 M
 obtain⟨y6,ky6,y60,y61,V,Y⟩:=nx (R:=R) (N:=N) (t:=t) (o:=o) D 40 (by omega) (by omega) ky4 T
 obtain⟨y8,ky8,y80,y81,hky8,hy8⟩:=nx (R:=R) (N:=N) (t:=t) (o:=o) D 20 (by omega) (by omega) ky6 V
 obtain⟨y10,ky10,y100,y101,C,F⟩:=nx (R:=R) (N:=N) (t:=t) (o:=o) D 5 (by omega) (by omega) ky8 hky8
 by_cases h4:y10=4
 ·have e4:(y10==4)=true:=by simpa using h4
  obtain⟨y12,ky12,y120,y121,G,hy12⟩:=nx (R:=R) (N:=N) (t:=t) (o:=o) D 4 (by omega) (by omega) ky10 C
  obtain⟨y14,ky14,y140,y141,I,hy14⟩:=nx (R:=R) (N:=N) (t:=t) (o:=o) D 2 (by omega) (by omega) ky12 G
  obtain⟨y16,ky16,y160,y161,L,hy16⟩:=nx (R:=R) (N:=N) (t:=t) (o:=o) D 4 (by omega) (by omega) ky14 I
  obtain⟨B,kB,b1,b2,hkB,hB⟩:=uD (R:=R) (N:=N) (t:=t) (o:=o) D H hH.1 (by omega) ky16 L
  refine⟨⟨[108,Beu.getD i 0],fr,to,⟨1+y2,1+y4⟩,⟨0 - y12,1+y14⟩,⟨y16,1⟩,4+y6,4+y6+y8,.of B false false⟩,kB,⟨rfl,rfl,rfl,?_,?_,?_,Il (by simp only;omega),Il (by simp only;omega),b1,b2⟩,hkB,fun K=>?_⟩
  ·rw[Aou (by simp only;omega)];simp;omega
  ·rw[Aou (by simp only;omega)];simp;omega
  ·rw[Aou (by simp only;omega)];simp;omega
  ·rw[Wy];unfold Xo
   rw[Tv hi,S,U,Y,hy8,F,e4,ct,hy12,hy14,hy16,hB,W7,Qh (a:=1+y2) (by omega),Qh (a:=1+y4) (by omega),Qh (a:=0 - y12) (by omega),Qh (a:=1+y14) (by omega),Qh (a:=4+y6) (by omega),Qh (a:=4+y6+y8) (by omega)]
   rfl
 ·have e4:(y10==4)=false:=by simpa using h4
  obtain⟨B,kB,b1,b2,hkB,hB⟩:=uD (R:=R) (N:=N) (t:=t) (o:=o) D H hH.1 (by omega) ky10 C
  refine⟨⟨[108,Beu.getD i 0],fr,to,⟨1+y2,1+y4⟩,⟨0,1⟩,⟨0,1⟩,4+y6,4+y6+y8,.of B false false⟩,kB,⟨rfl,rfl,rfl,?_,?_,?_,Il (by simp only;omega),Il (by simp only;omega),b1,b2⟩,hkB,fun K=>?_⟩
  ·rw[Aou (by simp only;omega)];simp;omega
  ·rw[Aou (by simp only;omega)];simp
  ·rw[Aou (by simp only;omega)];simp
  ·rw[Wy];unfold Xo
   rw[Tv hi,S,U,Y,hy8,F,e4,cf,hB,W7,Qh (a:=1+y2) (by omega),Qh (a:=1+y4) (by omega),Qh (a:=4+y6) (by omega),Qh (a:=4+y6+y8) (by omega)]
   rfl
structure UnitG (i:Nat) (nb H:Int) (u:UnitD):Prop where
 name:u.name=[117,Beu.getD i 0]
 bus:0≤u.bus∧u.bus<nb
 min:Fe 0 1048576 u.min=true
 max:Fe u.min 1048576 u.max=true
 sl:1≤u.segs.l.length∧u.segs.l.length≤8
 sok:u.segs.l.all Gi=true
 sord:fN u.segs.l=true
 ssum:(VC 0 u.segs.l==IntKind.wrap .i64 (u.max - u.min))=true
 noLoad:Fe 0 1048576 u.noLoad=true
 rampUp:Fe 0 1048576 u.rampUp=true
 rampDown:Fe 0 1048576 u.rampDown=true
 startRamp:Fe u.min u.max u.startRamp=true
 stopRamp:Fe u.min u.max u.stopRamp=true
 upTime:Fe 0 24 u.upTime=true
 downTime:Fe 0 24 u.downTime=true
 startTime:Fe 0 24 u.startTime=true
 hotCost:Fe 0 1048576 u.hotCost=true
 coldCost:Fe 0 1048576 u.coldCost=true
 hotHours:Fe 0 24 u.hotHours=true
 reserve:Fe 0 1048576 u.reserve=true
 reservePrice:Fe 0 1048576 u.reservePrice=true
 aw:u.away.l.length≤1
 awr:∀ y ∈ u.away.l,0≤y∧y<H
 state:Fe 0 2 u.state=true
 starting:(u.state != 1||u.startTime != 0)=true
 hours:Fe 1 48 u.hours=true
 started:(u.state != 1||decide (u.hours≤u.startTime))=true
 output:cond (u.state==2) (Fe u.min u.max u.output) (Fe 0 0 u.output)=true
theorem Aow {s:SegD}:∀ {S:List SegD},fN S=true→(∀ x ∈ S,x.price≤s.price)→fN (S++[s])=true
 | [],_,_=>Aib s
 | [a],_,h=>by
  rw[List.cons_append,List.nil_append,VD,Aib]
  have:=h a (by simp);simp;omega
 | a::b::r,k,h=>by
  rw[VD] at k
  simp only[Bool.and_eq_true] at k
  rw[List.cons_append,List.cons_append,VD,k.1]
  have:=Aow (S:=b::r) k.2 (fun x D=>h x (by rcases List.mem_cons.1 D with C | C<;>simp[C]))
  simpa using this
theorem Aox {s:SegD}:∀ {S:List SegD} {a:Int},VC a (S++[s])=IntKind.wrap .i64 (VC a S+s.width)
 | [],a=>rfl
 | x::r,a=>by rw[List.cons_append,VC,VC];exact Aox
theorem Ba4 (S:List SegD):(S.flatMap SegD.av).length=S.length*2:=by
 induction S with
 | nil=>rfl
 | cons e r k=>rw[List.flatMap_cons,List.length_append,k,HE];simp;omega
theorem uE {S:List SegD} {n:Nat} (h:n=S.length):List.take (n*2) (S.flatMap SegD.av)=S.flatMap SegD.av:=List.take_of_length_le (by rw[Ba4,h];exact Nat.le_refl _)
theorem Aoy {N:Nat} {l:List Int} {t o:Bool} (C:l.length≤9223372036854775807) {i:Nat} {nb H bus mn noLoad:Int} (hb:0≤bus∧bus<nb) (hmn:0≤mn∧mn<8) (hno:0≤noLoad∧noLoad<20) (hH:1≤H∧H≤24):∀ (n fuel:Nat) (p:Int) (k:Nat) (M:Int) (S:List SegD),n<fuel→k≤l.length→S.length+n≤2→1≤S.length+n→(∀ x ∈ S,x.price≤p∧Gi x=true)→fN S=true→VC 0 S=M - mn→0≤M - mn→M - mn≤15*S.length→-10≤p→p≤20+10*S.length →
  ∃ (u:UnitD) (k':Nat),UnitG i nb H u∧k'≤l.length∧∀ K:LA→Int→O R,Fa N K H (Av l) l.length t o [117,Beu.getD i 0] bus mn noLoad fuel p (n:Int) (k:Int) M S.length (S.flatMap SegD.av)=K u.av (k':Int)
 | 0,fuel+1,p,k,M,S,_,hk,hS,hS1,hp,ho,hw,hM0,hM1,_,_=>by
  obtain⟨y16,ky16,y160,y161,G,hy16⟩:=nx (R:=R) (N:=N) (t:=t) (o:=o) C 20 (by omega) (by omega) k hk
  obtain⟨y18,ky18,y180,y181,I,hy18⟩:=nx (R:=R) (N:=N) (t:=t) (o:=o) C 20 (by omega) (by omega) ky16 G
  obtain⟨y20,ky20,y200,y201,L,hy20⟩:=nx (R:=R) (N:=N) (t:=t) (o:=o) C (M - mn+1) (by omega) (by omega) ky18 I
  obtain⟨y22,ky22,y220,y221,T,hy22⟩:=nx (R:=R) (N:=N) (t:=t) (o:=o) C (M - mn+1) (by omega) (by omega) ky20 L
  obtain⟨y24,ky24,y240,y241,U,hy24⟩:=nx (R:=R) (N:=N) (t:=t) (o:=o) C 3 (by omega) (by omega) ky22 T
  obtain⟨y26,ky26,y260,y261,V,hy26⟩:=nx (R:=R) (N:=N) (t:=t) (o:=o) C 3 (by omega) (by omega) ky24 U
  obtain⟨y28,ky28,y280,y281,Y,hy28⟩:=nx (R:=R) (N:=N) (t:=t) (o:=o) C 2 (by omega) (by omega) ky26 V
  obtain⟨y30,ky30,y300,y301,hky30,hy30⟩:=nx (R:=R) (N:=N) (t:=t) (o:=o) C 30 (by omega) (by omega) ky28 Y
  obtain⟨y32,ky32,y320,y321,hky32,hy32⟩:=nx (R:=R) (N:=N) (t:=t) (o:=o) C 30 (by omega) (by omega) ky30 hky30
  obtain⟨y34,ky34,y340,y341,hky34,hy34⟩:=nx (R:=R) (N:=N) (t:=t) (o:=o) C 4 (by omega) (by omega) ky32 hky32
  obtain⟨y36,ky36,y360,y361,hky36,hy36⟩:=nx (R:=R) (N:=N) (t:=t) (o:=o) C 8 (by omega) (by omega) ky34 hky34
  obtain⟨y38,ky38,y380,y381,hky38,hy38⟩:=nx (R:=R) (N:=N) (t:=t) (o:=o) C 4 (by omega) (by omega) ky36 hky36
  obtain⟨B,kB,b1,b2,hkB,hB⟩:=uD (R:=R) (N:=N) (t:=t) (o:=o) C H hH.1 (by omega) ky38 hky38
  obtain⟨y43,ky43,y430,y431,hky43,hy43⟩:=nx (R:=R) (N:=N) (t:=t) (o:=o) C (2+y28) (by omega) (by omega) kB hkB
  obtain⟨y46,ky46,y460,y461,D,hy46⟩:=nx (R:=R) (N:=N) (t:=t) (o:=o) C 4 (by omega) (by omega) ky43 hky43
  have i43:Ac y43 3=true:=Aot y430 (by omega)
  obtain⟨x45,hx45,hst⟩:∃ x45:Int,(∀ f:Int→O R,An .i64 (List.drop (0+((Int.toNat y43)*1)) [(.int .i64 (0:Int)),(.int .i64 (2:Int)),(.int .i64 (1:Int))]) f=f x45)∧(x45=0∨x45=2∨(x45=1∧y28=1)):=by
   have e:[(.int .i64 (0:Int)),(.int .i64 (2:Int)),(.int .i64 (1:Int))]=Av [0,2,1]:=rfl
   refine⟨([0,2,1]:List Int).getD y43.toNat 0,fun f=>by rw[e,A89 (by simp;omega)],?_⟩
   have:y43=0∨y43=1∨y43=2:=by omega
   rcases this with rfl | rfl | rfl
   ·left;rfl
   ·right;left;rfl
   ·right;right;exact⟨rfl,by omega⟩
  have wM:IntKind.wrap .i64 (IntKind.wrap .i64 (M - mn)+1)=M - mn+1:=by rw[Qh (a:=M - mn) (by omega),Qh (by omega)]
  have head:∀ K:LA→Int→O R,Fa N K H (Av l) l.length t o [117,Beu.getD i 0] bus mn noLoad (fuel+1) p ((0:Nat):Int) (k:Int) M S.length (S.flatMap SegD.av) =
    Mx N K (Av l) l.length t o (ky46:Int) [117,Beu.getD i 0] bus mn M S.length noLoad y16 y18 y24 y26 y28 y30 y34 y36 y38 B.length x45 (S.flatMap SegD.av) (Av B) (mn+y20) (mn+y22) (y30+y32) (cond (x45==1) 1 (1+y46)):=fun K=>by
   rw[Fa];unfold P5
   rw[show decide (((0:Nat):Int)>0)=false from rfl,cf,wM,hy16,hy18,hy20,hy22,hy24,hy26,hy28,hy30,hy32,hy34,hy36,hy38,hB,Qh (a:=2+y28) (by omega),hy43,i43,ct,hx45,hy46,Qh (a:=mn+y20) (by omega),Qh (a:=mn+y22) (by omega),Qh (a:=y30+y32) (by omega),Qh (a:=1+y46) (by omega)]
   cases x45==1<;>rfl
  have hhr:1≤(cond (x45==1) (1:Int) (1+y46))∧(cond (x45==1) (1:Int) (1+y46))≤4:=by cases x45==1<;>simp<;>omega
  have hst1:x45=1→cond (x45==1) (1:Int) (1+y46)=1:=by intro e;subst e;rfl
  have sall:S.all Gi=true:=by rw[List.all_eq_true];exact fun x hx=>(hp x hx).2
  have ssum:(VC 0 S==IntKind.wrap .i64 (M - mn))=true:=by rw[Qh (a:=M - mn) (by omega),hw];simp
  have starting:(x45 != 1||y28 != 0)=true:=by
   rcases hst with h | h | ⟨h,h'⟩
   ·rw[h];rfl
   ·rw[h];rfl
   ·rw[h,h'];rfl
  have started:(x45 != 1||decide ((cond (x45==1) (1:Int) (1+y46))≤y28))=true:=by
   rcases hst with h | h | ⟨h,h'⟩
   ·rw[h];rfl
   ·rw[h];rfl
   ·rw[h,h'];rfl
  have stR:Fe 0 2 x45=true:=Il (by omega)
  by_cases F:x45=2
  ·obtain⟨y48,ky48,y480,y481,hky48,hy48⟩:=nx (R:=R) (N:=N) (t:=t) (o:=o) C (M - mn+1) (by omega) (by omega) ky46 D
   refine⟨⟨[117,Beu.getD i 0],bus,mn,M,.of S false false,noLoad,y16,y18,mn+y20,mn+y22,y24,y26,y28,y30,y30+y32,y34,y36,y38,.of B false false,x45,cond (x45==1) 1 (1+y46),mn+y48⟩,ky48,
    ⟨rfl,hb,Il (by simp only;omega),Il (by simp only;omega),by simp only[Sl.l];omega,sall,ho,ssum,Il (by simp only;omega),Il (by simp only;omega),Il (by simp only;omega),Il (by simp only;omega),Il (by simp only;omega),Il (by simp only;omega),Il (by simp only;omega),Il (by simp only;omega),Il (by simp only;omega),Il (by simp only;omega),Il (by simp only;omega),Il (by simp only;omega),Il (by simp only;omega),b1,b2,stR,starting,Il (by simp only;omega),started,?_⟩,hky48,fun K=>?_⟩
   ·have:(x45==2)=true:=by simpa using F
    simp only[this,cond_true];exact Il (by omega)
   ·rw[head];unfold Mx
    have:(x45==2)=true:=by simpa using F
    rw[this,ct,wM,hy48,Qh (a:=mn+y48) (by omega),uE rfl,W7]
    rfl
  ·refine⟨⟨[117,Beu.getD i 0],bus,mn,M,.of S false false,noLoad,y16,y18,mn+y20,mn+y22,y24,y26,y28,y30,y30+y32,y34,y36,y38,.of B false false,x45,cond (x45==1) 1 (1+y46),0⟩,ky46,
    ⟨rfl,hb,Il (by simp only;omega),Il (by simp only;omega),by simp only[Sl.l];omega,sall,ho,ssum,Il (by simp only;omega),Il (by simp only;omega),Il (by simp only;omega),Il (by simp only;omega),Il (by simp only;omega),Il (by simp only;omega),Il (by simp only;omega),Il (by simp only;omega),Il (by simp only;omega),Il (by simp only;omega),Il (by simp only;omega),Il (by simp only;omega),Il (by simp only;omega),b1,b2,stR,starting,Il (by simp only;omega),started,?_⟩,D,fun K=>?_⟩
   ·have:(x45==2)=false:=by simpa using F
    simp only[this,cond_false];exact Il (by omega)
   ·rw[head];unfold Mx
    have:(x45==2)=false:=by simpa using F
    rw[this,cf,uE rfl,W7]
    rfl
 | n+1,fuel+1,p,k,M,S,hf,hk,hS,hS1,hp,ho,hw,hM0,hM1,hp0,hp1=>by
  obtain⟨y12,ky12,y120,y121,hky12,hy12⟩:=nx (R:=R) (N:=N) (t:=t) (o:=o) C 15 (by omega) (by omega) k hk
  obtain⟨y14,ky14,y140,y141,hky14,hy14⟩:=nx (R:=R) (N:=N) (t:=t) (o:=o) C 10 (by omega) (by omega) ky12 hky12
  obtain⟨u,k',g1,g2,g3⟩:=Aoy (N:=N) (t:=t) (o:=o) (i:=i) (nb:=nb) (H:=H) (bus:=bus) (mn:=mn) (noLoad:=noLoad) C hb hmn hno hH n fuel (p+y14) ky14 (M+(1+y12)) (S++[(⟨1+y12,p⟩:SegD)]) (by omega) hky14 (by simp;omega) (by simp;omega) (by
   intro x hx
   rcases List.mem_append.1 hx with h | h
   ·have:=hp x h;exact⟨by omega,this.2⟩
   ·simp at h;subst h
    refine⟨by simp only;omega,?_⟩
    unfold Gi;rw[Il (by simp only;omega),Il (by simp only;omega)];rfl) (Aow ho (fun x hx=>(hp x hx).1)) (by rw[Aox,hw,Qh (by simp only;omega)];simp only;omega) (by omega) (by simp;omega) (by omega) (by simp;omega)
  refine⟨u,k',g1,g2,fun K=>?_⟩
  rw[Fa];unfold P5
  have c3:(Nat.ble (S.length+1) 140737488355328&&Nat.ble ((S.length+1)*16) 140737488355328)=true:=by rw[E5,E5];simp;omega
  have c5:List.take (S.length*2) (S.flatMap SegD.av)++[.int .i64 (1+y12),.int .i64 p]=(S++[(⟨1+y12,p⟩:SegD)]).flatMap SegD.av:=by rw[uE rfl];simp[SegD.av]
  have wn:IntKind.wrap .i64 (((n+1:Nat):Int) - 1)=(n:Int):=Ah8 (by omega)
  rw[show decide (((n+1:Nat):Int)>0)=true from decide_eq_true (by omega),ct,hy12,c3,ct,hy14,Qh (a:=1+y12) (by omega),Qh (a:=p+y14) (by omega),wn,Qh (a:=M+(1+y12)) (by omega),c5]
  have:=g3 K
  rw[List.length_append] at this
  exact this
theorem A6y {N:Nat} {l:List Int} {t o:Bool} (hN:8≤N) (D:l.length≤9223372036854775807) {i:Nat} (hi:i<16) {nb H:Int} (hnb:1≤nb∧nb≤1000) (hH:1≤H∧H≤24) (k:Nat) (hk:k≤l.length) :
  ∃ (u:UnitD) (S:Nat),UnitG i nb H u∧S≤l.length∧∀ K:LA→Int→O R,P6 N (i:Int) nb H (Av l) l.length t o (k:Int) K=K u.av (S:Int):=by
 obtain⟨y2,ky2,y20,y21,F,T⟩:=nx (R:=R) (N:=N) (t:=t) (o:=o) D nb (by omega) (by omega) k hk
 obtain⟨y4,ky4,y40,y41,G,U⟩:=nx (R:=R) (N:=N) (t:=t) (o:=o) D 8 (by omega) (by omega) ky2 F
 obtain⟨y6,ky6,y60,y61,I,V⟩:=nx (R:=R) (N:=N) (t:=t) (o:=o) D 20 (by omega) (by omega) ky4 G
 obtain⟨y8,ky8,y80,y81,L,Y⟩:=nx (R:=R) (N:=N) (t:=t) (o:=o) D 20 (by omega) (by omega) ky6 I
 obtain⟨y10,ky10,y100,y101,C,M⟩:=nx (R:=R) (N:=N) (t:=t) (o:=o) D 2 (by omega) (by omega) ky8 L
 obtain⟨n,hn⟩:∃ n:Nat,1+y10=(n:Int):=⟨(1+y10).toNat,by omega⟩
 obtain⟨u,S,g1,g2,g3⟩:=Aoy (R:=R) (N:=N) (l:=l) (t:=t) (o:=o) D (i:=i) (nb:=nb) (H:=H) (bus:=y2) (mn:=y4) (noLoad:=y6) ⟨y20,y21⟩ ⟨y40,y41⟩ ⟨y60,y61⟩ hH n N (y8 - 2) ky10 y4 [] (by omega) C (by simp;omega) (by simp;omega) (by simp) Axu (by simp[VC]) (by omega) (by simp) (by omega) (by simp;omega)
 refine⟨u,S,g1,g2,fun K=>?_⟩
 rw[PB];unfold Xp
 rw[Tv hi,T,U,V,Y,M,Qh (a:=y8 - 2) (by omega),Qh (a:=1+y10) (by omega),hn]
 simpa using g3 K
structure OutG (i:Nat) (nl nu:Nat) (x:OutD):Prop where
 name:x.name=[111,Beu.getD i 0]
 ll:x.lines.l.length=1∨x.lines.l.length=2
 lr:∀ y ∈ x.lines.l,0≤y∧y<(nl:Int)
 la:Aip x.lines.l=true
 ml:x.moves.l.length≤nu
 mc:((x.moves.l.length:Int)==0||x.corr)=true
 mr:∀ m ∈ x.moves.l,0≤m.unit∧m.unit<(nu:Int)
 ma:Aip (x.moves.l.map (·.unit))=true
 mi:x.moves.l.all A6t=true
theorem Ax1 {s:Int}:∀ {S:List Int},Aip S=true→(∀ x ∈ S,x<s)→Aip (S++[s])=true
 | [],_,_=>rM s
 | [a],_,h=>by
  rw[List.cons_append,List.nil_append,QW,rM]
  have:=h a (by simp);simp;omega
 | a::b::r,k,h=>by
  rw[QW] at k
  simp only[Bool.and_eq_true] at k
  rw[List.cons_append,List.cons_append,QW,k.1]
  have:=Ax1 (S:=b::r) k.2 (fun x D=>h x (by rcases List.mem_cons.1 D with C | C<;>simp[C]))
  simpa using this
theorem A9f (S:List MoveD):(S.flatMap MoveD.av).length=S.length*3:=by
 induction S with
 | nil=>rfl
 | cons e r k=>rw[List.flatMap_cons,List.length_append,k,Qg];simp;omega
theorem uF {N:Nat} {l:List Int} {t o:Bool} (M:l.length≤9223372036854775807) {i nl nu:Nat} (T:nu≤16) {B:List Int} (hB1:B.length=1∨B.length=2) (hB2:∀ y ∈ B,0≤y∧y<(nl:Int)) (hB3:Aip B=true):∀ (m j fuel:Nat) (k:Nat) (S:List MoveD),j+m=nu→m<fuel→k≤l.length→S.length≤j→(∀ x ∈ S,0≤x.unit∧x.unit<(j:Int))→Aip (S.map (·.unit))=true→S.all A6t=true →
  ∃ (x:OutD) (I:Nat),OutG i nl nu x∧I≤l.length∧∀ K:LA→Int→O R,Eu N K (nu:Int) (Av l) l.length t o [111,Beu.getD i 0] B.length (Av B) fuel (j:Int) (k:Int) S.length (S.flatMap MoveD.av)=K x.av (I:Int)
 | 0,j,fuel+1,k,S,hj,_,hk,hS,hr,Y,hi=>by
  have hju:j=nu:=by omega
  subst hju
  refine⟨⟨[111,Beu.getD i 0],.of B false false,true,.of S false false⟩,k,⟨rfl,hB1,hB2,hB3,hS,by simp,hr,Y,hi⟩,hk,fun K=>?_⟩
  rw[Eu];unfold Hy
  rw[Ku (Nat.le_refl _),cf,W7,List.take_of_length_le (by rw[A9f];exact Nat.le_refl _)]
  rfl
 | m+1,j,fuel+1,k,S,hj,hf,hk,hS,hr,Y,hi=>by
  obtain⟨y10,ky10,y100,y101,C,D⟩:=nx (R:=R) (N:=N) (t:=t) (o:=o) M 2 (by omega) (by omega) k hk
  by_cases h1:y10=1
  ·obtain⟨y12,ky12,y120,y121,F,U⟩:=nx (R:=R) (N:=N) (t:=t) (o:=o) M 8 (by omega) (by omega) ky10 C
   obtain⟨y14,ky14,y140,y141,G,V⟩:=nx (R:=R) (N:=N) (t:=t) (o:=o) M 8 (by omega) (by omega) ky12 F
   obtain⟨x,I,g1,g2,g3⟩:=uF (N:=N) (t:=t) (o:=o) (i:=i) (nl:=nl) (nu:=nu) M T hB1 hB2 hB3 m (j+1) fuel ky14 (S++[(⟨j,y12,y14⟩:MoveD)]) (by omega) (by omega) G (by simp;omega) (by
    intro x L
    rcases List.mem_append.1 L with h | h
    ·have:=hr x h;omega
    ·simp at h;subst h;simp only;omega) (by
    rw[List.map_append];exact Ax1 Y (by
     intro x L
     simp only[List.mem_map] at L
     obtain⟨y,hy,rfl⟩:=L
     exact(hr y hy).2)) (by
    rw[List.all_append,hi]
    simp only[List.all_cons,List.all_nil,Bool.and_true,Bool.true_and]
    unfold A6t;rw[Il (by simp only;omega),Il (by simp only;omega)];rfl)
   refine⟨x,I,g1,g2,fun K=>?_⟩
   rw[Eu];unfold Hy
   have e1:(y10==1)=true:=by simpa using h1
   have c3:(Nat.ble (S.length+1) 140737488355328&&Nat.ble ((S.length+1)*24) 140737488355328)=true:=by rw[E5,E5];simp;omega
   have c5:List.take (S.length*3) (S.flatMap MoveD.av)++[.int .i64 (j:Int),.int .i64 y12,.int .i64 y14]=(S++[(⟨j,y12,y14⟩:MoveD)]).flatMap MoveD.av:=by
    rw[List.take_of_length_le (by rw[A9f];exact Nat.le_refl _)];simp[MoveD.av]
   rw[Jh (by omega),ct,D,e1,ct,U,V,c3,ct,c5,Fd (by omega)]
   have:=g3 K
   rw[List.length_append] at this
   exact this
  ·obtain⟨x,I,g1,g2,g3⟩:=uF (N:=N) (t:=t) (o:=o) (i:=i) (nl:=nl) (nu:=nu) M T hB1 hB2 hB3 m (j+1) fuel ky10 S (by omega) (by omega) C (by omega) (by intro x L;have:=hr x L;omega) Y hi
   refine⟨x,I,g1,g2,fun K=>?_⟩
   rw[Eu];unfold Hy
   have e1:(y10==1)=false:=by simpa using h1
   rw[Jh (by omega),ct,D,e1,cf,Fd (by omega),g3]
theorem Aoz {N:Nat} {l:List Int} {t o:Bool} (hN:64≤N) (I:l.length≤9223372036854775807) {i nl nu:Nat} (G:nu≤16) {B:List Int} (hB1:B.length=1∨B.length=2) (hB2:∀ y ∈ B,0≤y∧y<(nl:Int)) (hB3:Aip B=true) (k:Nat) (M:k≤l.length) :
  ∃ (x:OutD) (F:Nat),OutG i nl nu x∧F≤l.length∧∀ K:LA→Int→O R,Ev N K (nu:Int) (Av l) l.length t o [111,Beu.getD i 0] (k:Int) B.length (Av B)=K x.av (F:Int):=by
 obtain⟨y8,ky8,y80,y81,C,D⟩:=nx (R:=R) (N:=N) (t:=t) (o:=o) I 2 (by omega) (by omega) k M
 by_cases L:y8=1
 ·obtain⟨x,F,S,T,U⟩:=uF (R:=R) (N:=N) (t:=t) (o:=o) (i:=i) (nl:=nl) (nu:=nu) I G hB1 hB2 hB3 nu 0 N ky8 [] (by omega) (by omega) C (by simp) (by simp) Asw rfl
  refine⟨x,F,S,T,fun K=>?_⟩
  unfold Ev Lt
  have e1:(y8==1)=true:=by simpa using L
  rw[D,e1,ct]
  simpa using U K
 ·refine⟨⟨[111,Beu.getD i 0],.of B false false,false,.of [] false false⟩,ky8,⟨rfl,hB1,hB2,hB3,by simp[Sl.l],by simp[Sl.l],by simp[Sl.l],Asw,rfl⟩,C,fun K=>?_⟩
  unfold Ev Lt
  have e1:(y8==1)=false:=by simpa using L
  rw[D,e1,cf,W7]
  rfl
theorem Ax2 {N:Nat} {l:List Int} {t o:Bool} (hN:64≤N) (L:l.length≤9223372036854775807) {i nl nu:Nat} (hi:i<16) (hnl:1≤nl∧nl≤1000) (M:nu≤16) (k:Nat) (hk:k≤l.length) :
  ∃ (x:OutD) (C:Nat),OutG i nl nu x∧C≤l.length∧∀ K:LA→Int→O R,Ko N (i:Int) (nl:Int) (nu:Int) (Av l) l.length t o (k:Int) K=K x.av (C:Int):=by
 obtain⟨y2,ky2,y20,y21,S,G⟩:=nx (R:=R) (N:=N) (t:=t) (o:=o) L (nl:Int) (by omega) (by omega) k hk
 obtain⟨y4,ky4,y40,y41,D,I⟩:=nx (R:=R) (N:=N) (t:=t) (o:=o) L (nl:Int) (by omega) (by omega) ky2 S
 have one:∀ k0,k0≤l.length→∃ (x:OutD) (C:Nat),OutG i nl nu x∧C≤l.length∧∀ K:LA→Int→O R,Ev N K (nu:Int) (Av l) l.length t o [111,Beu.getD i 0] (k0:Int) 1 [.int .i64 y2]=K x.av (C:Int):=fun k0 hk0 =>
  Aoz (i:=i) (nl:=nl) hN L M (B:=[y2]) (.inl rfl) (by intro y T;simp at T;subst T;exact⟨y20,y21⟩) (rM _) k0 hk0
 by_cases h1:y4>y2
 ·obtain⟨y6,ky6,y60,y61,F,U⟩:=nx (R:=R) (N:=N) (t:=t) (o:=o) L 3 (by omega) (by omega) ky4 D
  by_cases h2:y6=2
  ·obtain⟨x,C,V,Y,g3⟩:=Aoz (R:=R) (N:=N) (t:=t) (o:=o) (i:=i) (nl:=nl) (nu:=nu) hN L M (B:=[y2,y4]) (.inr rfl) (by intro y T;simp at T;rcases T with rfl | rfl<;>omega) (by rw[QW,rM];simp;omega) ky6 F
   refine⟨x,C,V,Y,fun K=>?_⟩
   rw[Lu];unfold Ir
   have e1:decide (y4>y2)=true:=by simpa using h1
   have e2:(y6==2)=true:=by simpa using h2
   rw[Tv hi,G,I,e1,U,e2]
   simpa[Av] using g3 K
  ·obtain⟨x,C,V,Y,g3⟩:=one ky6 F
   refine⟨x,C,V,Y,fun K=>?_⟩
   rw[Lu];unfold Ir
   have e1:decide (y4>y2)=true:=by simpa using h1
   have e2:(y6==2)=false:=by simpa using h2
   rw[Tv hi,G,I,e1,U,e2]
   exact g3 K
 ·obtain⟨x,C,V,Y,g3⟩:=one ky4 D
  refine⟨x,C,V,Y,fun K=>?_⟩
  rw[Lu];unfold Ir
  have e1:decide (y4>y2)=false:=by simpa using h1
  rw[Tv hi,G,I,e1]
  exact g3 K
end
end Gx.Cf

namespace Gx.Cf
open Go Go.Proofs
section
variable {R:Type}
def Aln (f:Bool) (H:Nat) (res:List Int) (bs:List BusD) (ls:List LineD) (us:List UnitD) (ss:List StoreD) (ts:List TieD) (os:List OutD):CaseD :=
 ⟨(H:Int),.of res false f,.of bs false f,.of ls false f,.of us false f,.of ss false f,.of ts false f,.of os false f⟩
structure BusG (i H:Nat) (b:BusD):Prop where
 name:b.name=[98,Beu.getD i 0]
 dl:b.demand.l.length=H
 dr:∀ x ∈ b.demand.l,0≤x∧x<14
 shed:0≤b.shed∧b.shed<300
structure StoreG (nb:Nat) (x:StoreD):Prop where
 name:x.name=[115,48]
 bus:0≤x.bus∧x.bus<(nb:Int)
 cap:0≤x.capacity∧x.capacity<20
 ini:0≤x.initial∧x.initial≤x.capacity
 fin:0≤x.final∧x.final≤x.capacity
 ch:0≤x.charge∧x.charge<8
 dis:0≤x.discharge∧x.discharge<8
 eff:1≤x.eff.num∧x.eff.num≤4∧x.eff.den=4
structure TieG (nb H:Nat) (x:TieD):Prop where
 name:x.name=[116,48]
 bus:0≤x.bus∧x.bus<(nb:Int)
 il:x.imp.l.length=H
 ir:∀ y ∈ x.imp.l,0≤y∧y<12
 el:x.exp.l.length=H
 er:∀ y ∈ x.exp.l,0≤y∧y<12
 pl:x.price.l.length=H
 pr:∀ y ∈ x.price.l,0≤y∧y<40
structure LineH (nb:Nat) (i:Nat) (H:Int) (x:LineD):Prop where
 g:LineG i x.fr x.to H x
 fr:0≤x.fr∧x.fr<(nb:Int)
 to:0≤x.to∧x.to<(nb:Int)
 ne:x.fr≠x.to
structure BaseG (H:Nat) (res:List Int) (bs:List BusD) (ls:List LineD) (us:List UnitD) (ss:List StoreD) (ts:List TieD):Prop where
 h:1≤H∧H≤3
 rl:res.length=H
 rr:∀ x ∈ res,0≤x∧x<5
 bl:1≤bs.length∧bs.length≤4
 bg:∀ i (h:i<bs.length),BusG i H bs[i]
 ll:ls.length≤7
 lg:∀ i (h:i<ls.length),LineH bs.length i H ls[i]
 ul:1≤us.length∧us.length≤3
 ug:∀ i (h:i<us.length),UnitG i bs.length H us[i]
 sl:ss.length≤1
 sg:∀ x ∈ ss,StoreG bs.length x
 tl:ts.length≤1
 tg:∀ x ∈ ts,TieG bs.length H x
structure OutsG (nl nu:Nat) (os:List OutD):Prop where
 l:os.length≤3
 g:∀ i (h:i<os.length),OutG i nl nu os[i]
theorem A6z {N:Nat} (hN:4096≤N) {f:Bool} {H:Nat} {C:List Int} {bs:List BusD} {ls:List LineD} {us:List UnitD} {ss:List StoreD} {ts:List TieD} {os:List OutD} (b:BaseG H C bs ls us ss ts) (g:OutsG ls.length us.length os):Small (Aln f H C bs ls us ss ts os) N:=by
 have h:=b.h;have rl:=b.rl;have bl:=b.bl;have ll:=b.ll;have ul:=b.ul;have sl:=b.sl;have tl:=b.tl;have ol:=g.l
 have fit:∀ n:Nat,n≤100→S6 n N:=fun n hn=>⟨by omega,by omega⟩
 refine⟨by omega,fit _ (by simp only[Aln,Sl.l];omega),fit _ (by simp only[Aln,Sl.l];omega),fit _ (by simp only[Aln,Sl.l];omega),fit _ (by simp only[Aln,Sl.l];omega),fit _ (by simp only[Aln,Sl.l];omega),fit _ (by simp only[Aln,Sl.l];omega),fit _ (by simp only[Aln,Sl.l];omega),
  fun x k=>?_,fun x k=>?_,fun x k=>?_,fun x k=>?_,fun x k=>?_,fun x k=>?_,fun x k=>?_,fun x k=>?_,fun x k=>?_,fun x k=>?_,by simp only[Aln,Sl.l];omega⟩
 all_goals simp only[Aln,Sl.l] at k
 ·obtain⟨i,hi,rfl⟩:=List.getElem_of_mem k;have:=(b.bg i hi).dl;exact fit _ (by omega)
 ·obtain⟨i,hi,rfl⟩:=List.getElem_of_mem k;have:=(b.lg i hi).g.aw;exact fit _ (by omega)
 ·obtain⟨i,hi,rfl⟩:=List.getElem_of_mem k;have:=(b.ug i hi).sl;exact fit _ (by omega)
 ·obtain⟨i,hi,rfl⟩:=List.getElem_of_mem k;have:=(b.ug i hi).aw;exact fit _ (by omega)
 ·have:=(b.tg x k).il;exact fit _ (by omega)
 ·have:=(b.tg x k).el;exact fit _ (by omega)
 ·have:=(b.tg x k).pl;exact fit _ (by omega)
 ·obtain⟨i,hi,rfl⟩:=List.getElem_of_mem k;have:=(g.g i hi).ll;exact fit _ (by omega)
 ·obtain⟨i,hi,rfl⟩:=List.getElem_of_mem k;have:=(g.g i hi).ml;exact fit _ (by omega)
 ·obtain⟨i,hi,rfl⟩:=List.getElem_of_mem k;have:=(g.g i hi).ml;omega
theorem A9g {α:Type} {e:α→LA} {sz:Nat} (k:∀ a,(e a).length=sz) (l:List α):(l.flatMap e).length=l.length*sz:=by
 induction l with
 | nil=>simp
 | cons a r C=>rw[List.flatMap_cons,List.length_append,C,k,List.length_cons,Nat.add_mul];omega
theorem Cd {α:Type} {e:α→LA} {sz n:Nat} (k:∀ a,(e a).length=sz) (l:List α) (hn:n=l.length):List.take (n*sz) (l.flatMap e)=l.flatMap e:=List.take_of_length_le (by rw[A9g k,hn];exact Nat.le_refl _)
theorem Pc {B:List Int} {n:Nat} (h:n=B.length):List.take (n*1) (Av B)=B.flatMap GC:=by rw[h];exact W7
theorem fT {α:Type} {P:Nat→α→Prop} {l:List α} {x:α} (h:∀ i (h:i<l.length),P i l[i]) (C:P l.length x):∀ i (h:i<(l++[x]).length),P i (l++[x])[i]:=by
 intro i hi
 by_cases k:i<l.length
 ·rw[List.getElem_append_left k];exact h i k
 ·have:i=l.length:=by simp at hi;omega
  subst this
  simpa using C
theorem A1z {p:Js} (h:(Ia p==0)=true):p=none:=by
 rcases p with _ | ⟨x,e,k⟩
 ·rfl
 ·simp[Ia] at h;exact absurd h k
theorem As3 {N:Nat} {l:List Int} {o:Bool} (hN:4096≤N) (L:l.length≤9223372036854775807) {H:Nat} {C:List Int} {bs:List BusD} {ls:List LineD} {us:List UnitD} {ss:List StoreD} {ts:List TieD} (b:BaseG H C bs ls us ss ts):∀ (n fuel k:Nat) (os:List OutD),n<fuel→k≤l.length→os.length+n≤3→OutsG ls.length us.length os→(os=[]∨fS (Aln true H C bs ls us ss ts os)=none) →
  ∃ D,OutsG ls.length us.length D∧(D=[]∨fS (Aln true H C bs ls us ss ts D)=none)∧∀ K:LA→O R,H2 N K (Av l) l.length o (H:Int) C.length bs.length ls.length us.length ss.length ts.length (Av C) (bs.flatMap BusD.av) (ls.flatMap LineD.av) (us.flatMap UnitD.av) (ss.flatMap StoreD.av) (ts.flatMap TieD.av) fuel (n:Int) (k:Int) os.length (os.flatMap OutD.av)=K (Aln false H C bs ls us ss ts D).av
 | 0,fuel+1,k,os,_,M,_,g,G=>by
  refine⟨os,g,G,fun K=>?_⟩
  rw[H2];unfold Y7
  rw[show decide (((0:Nat):Int)>0)=false from rfl,Pc rfl,Cd QY _ rfl,Cd Hj _ rfl,Cd Qf _ rfl,Cd O8 _ rfl,Cd Zk _ rfl,Cd O9 _ rfl]
  rfl
 | n+1,fuel+1,k,os,hf,M,hn,g,G=>by
  by_cases S:ls.length=0
  ·refine⟨os,g,G,fun K=>?_⟩
   rw[H2];unfold Y7
   rw[show decide ((ls.length:Int)>0)=false from decide_eq_false (by omega),show decide (((n+1:Nat):Int)>0)=true from decide_eq_true (by omega),Pc rfl,Cd QY _ rfl,Cd Hj _ rfl,Cd Qf _ rfl,Cd O8 _ rfl,Cd Zk _ rfl,Cd O9 _ rfl]
   rfl
  ·have T:=b.ul;have U:=b.ll
   obtain⟨x,I,gx,F,V⟩:=Ax2 (R:=R) (N:=N) (t:=false) (o:=o) (by omega) L (i:=os.length) (nl:=ls.length) (nu:=us.length) (by omega) (by omega) (by omega) k M
   have g':OutsG ls.length us.length (os++[x]):=⟨by simp;omega,fT g.g gx⟩
   have sm:=A6z (f:=true) hN b g'
   have wn:IntKind.wrap .i64 (((n+1:Nat):Int) - 1)=(n:Int):=Ah8 (by omega)
   have step:∀ K:LA→O R,H2 N K (Av l) l.length o (H:Int) C.length bs.length ls.length us.length ss.length ts.length (Av C) (bs.flatMap BusD.av) (ls.flatMap LineD.av) (us.flatMap UnitD.av) (ss.flatMap StoreD.av) (ts.flatMap TieD.av) (fuel+1) ((n+1:Nat):Int) (k:Int) os.length (os.flatMap OutD.av) =
     cond (Ia (fS (Aln true H C bs ls us ss ts (os++[x])))==0)
      (H2 N K (Av l) l.length o (H:Int) C.length bs.length ls.length us.length ss.length ts.length (Av C) (bs.flatMap BusD.av) (ls.flatMap LineD.av) (us.flatMap UnitD.av) (ss.flatMap StoreD.av) (ts.flatMap TieD.av) fuel (n:Int) (I:Int) (os++[x]).length ((os++[x]).flatMap OutD.av))
      (H2 N K (Av l) l.length o (H:Int) C.length bs.length ls.length us.length ss.length ts.length (Av C) (bs.flatMap BusD.av) (ls.flatMap LineD.av) (us.flatMap UnitD.av) (ss.flatMap StoreD.av) (ts.flatMap TieD.av) fuel (n:Int) (I:Int) os.length (os.flatMap OutD.av)):=fun K=>by
    rw[H2];unfold Y7 UR
    have c1:(Nat.ble (0+os.length) 140737488355328&&Nat.ble ((0+os.length)*72) 140737488355328)=true:=by rw[E5,E5];simp;omega
    have Y:(Nat.ble ((0+os.length)+1) 140737488355328&&Nat.ble (((0+os.length)+1)*72) 140737488355328)=true:=by rw[E5,E5];simp;omega
    have c3:List.take ((0+os.length)*4) (List.take (os.length*4) (os.flatMap OutD.av))++List.take 4 (setCells [(.str ([]:List UInt8)),.nsl,(.bool false),.nsl] 0 (List.take 4 x.av))=(os++[x]).flatMap OutD.av:=by
     rw[Nat.zero_add,Cd O9 _ rfl,Cd O9 _ rfl]
     simp only[List.flatMap_append,List.flatMap_cons,List.flatMap_nil,List.append_nil]
     rfl
    have c4:List.take (((0+os.length)+1)*4) ((os++[x]).flatMap OutD.av)=(os++[x]).flatMap OutD.av:=Cd O9 _ (by simp)
    have c5:(0+os.length)+1=(os++[x]).length:=by simp
    rw[show decide ((ls.length:Int)>0)=true from decide_eq_true (by omega),show decide (((n+1:Nat):Int)>0)=true from decide_eq_true (by omega)]
    simp only[beq_self_eq_true,cond_true]
    rw[V,show((Nat.beq 0 0)&&((Nat.beq (List.length x.av) 4)&&(Nat.beq 4 4)))=true from rfl,ct,c1,ct,show Nat.ble 4 (List.length x.av)=true from rfl,ct,show((Nat.beq (List.length (List.take 4 x.av)) 4)&&(Nat.ble 4 4))=true from rfl,ct,Y,ct,c3,c4,c5,Pc rfl,Cd QY _ rfl,Cd Hj _ rfl,Cd Qf _ rfl,Cd O8 _ rfl,Cd Zk _ rfl]
    refine Eq.trans (Aik (R:=R) (N:=N) (c:=Aln true H C bs ls us ss ts (os++[x])) (o:=true) sm hN) ?_
    rw[Bc7,show((Nat.beq 3 3)&&((Nat.ble 3 3)&&(!false)))=true from rfl,ct,wn]
   cases hq:Ia (fS (Aln true H C bs ls us ss ts (os++[x])))==0 with
   | true =>
    obtain⟨D,a1,a2,a3⟩:=As3 hN L b n fuel I (os++[x]) (by omega) F (by simp;omega) g' (.inr (A1z hq))
    exact⟨D,a1,a2,fun K=>by rw[step,hq,ct,a3]⟩
   | false =>
    obtain⟨D,a1,a2,a3⟩:=As3 hN L b n fuel I os (by omega) F (by omega) g G
    exact⟨D,a1,a2,fun K=>by rw[step,hq,cf,a3]⟩
end
end Gx.Cf

namespace Gx.Cf
open Go Go.Proofs
section
variable {R:Type}
def rT (c:CaseD):Prop:=∃ (H:Nat) (res:List Int) (bs:List BusD) (ls:List LineD) (us:List UnitD) (ss:List StoreD) (ts:List TieD) (os:List OutD),
 BaseG H res bs ls us ss ts∧OutsG ls.length us.length os∧(os=[]∨fS (Aln true H res bs ls us ss ts os)=none)∧c=Aln false H res bs ls us ss ts os
theorem A3n {N:Nat} {l:List Int} {o:Bool} (hN:4096≤N) (F:l.length≤9223372036854775807) {H:Nat} {C:List Int} {bs:List BusD} {ls:List LineD} {us:List UnitD} {ss:List StoreD} {ts:List TieD} (b:BaseG H C bs ls us ss ts) (k:Nat) (G:k≤l.length) :
  ∃ c,rT c∧∀ K:LA→O R,US N K (Av l) l.length o (H:Int) C.length bs.length ls.length us.length ss.length (Av C) (bs.flatMap BusD.av) (ls.flatMap LineD.av) (us.flatMap UnitD.av) (ss.flatMap StoreD.av) (k:Int) ts.length (ts.flatMap TieD.av)=K c.av:=by
 obtain⟨y,I,y0,y1,D,L⟩:=nx (R:=R) (N:=N) (t:=false) (o:=o) F 4 (by omega) (by omega) k G
 obtain⟨n,hn⟩:∃ n:Nat,y=(n:Int):=⟨y.toNat,by omega⟩
 subst hn
 obtain⟨os,a1,a2,a3⟩:=As3 (R:=R) (o:=o) hN F b n N I [] (by omega) D (by simp;omega) ⟨by simp,by simp⟩ (.inl rfl)
 refine⟨_,⟨H,C,bs,ls,us,ss,ts,os,b,a1,a2,rfl⟩,fun K=>?_⟩
 unfold US eS
 rw[L]
 simpa using a3 K
theorem A3o {N:Nat} {l:List Int} {o:Bool} (hN:4096≤N) (G:l.length≤9223372036854775807) {H:Nat} {I:List Int} {bs:List BusD} {ls:List LineD} {us:List UnitD} {ss:List StoreD} (b:BaseG H I bs ls us ss []) (k:Nat) (hk:k≤l.length) :
  ∃ c,rT c∧∀ K:LA→O R,GT N K (bs.length:Int) (Av l) l.length o (H:Int) I.length bs.length ls.length us.length (Av I) (bs.flatMap BusD.av) (ls.flatMap LineD.av) (us.flatMap UnitD.av) (k:Int) ss.length (ss.flatMap StoreD.av)=K c.av:=by
 have hb:=b.bl;have hH:=b.h
 obtain⟨y50,S,y500,y501,D,F⟩:=nx (R:=R) (N:=N) (t:=false) (o:=o) G 3 (by omega) (by omega) k hk
 by_cases h2:y50=2
 ·have V:(y50==2)=true:=by simpa using h2
  obtain⟨y52,Y,y520,y521,T,U⟩:=nx (R:=R) (N:=N) (t:=false) (o:=o) G (bs.length:Int) (by omega) (by omega) S D
  obtain⟨B1,k1,C,b12,hk1,hB1⟩:=HG (R:=R) (N:=N) (m:=H) (t:=false) (o:=o) (by omega) G 12 (by omega) (by omega) (by omega) Y T
  obtain⟨B2,k2,L,b22,hk2,hB2⟩:=HG (R:=R) (N:=N) (m:=H) (t:=false) (o:=o) (by omega) G 12 (by omega) (by omega) (by omega) k1 hk1
  obtain⟨B3,k3,M,b32,hk3,hB3⟩:=HG (R:=R) (N:=N) (m:=H) (t:=false) (o:=o) (by omega) G 40 (by omega) (by omega) (by omega) k2 hk2
  obtain⟨c,g1,g2⟩:=A3n (R:=R) (o:=o) hN G (ts:=[⟨[116,48],y52,.of B1 false false,.of B2 false false,.of B3 false false⟩]) ⟨b.h,b.rl,b.rr,b.bl,b.bg,b.ll,b.lg,b.ul,b.ug,b.sl,b.sg,by simp,by
   intro x hx;simp at hx;subst hx
   exact⟨rfl,⟨y520,y521⟩,C,b12,L,b22,M,b32⟩⟩ k3 hk3
  refine⟨c,g1,fun K=>?_⟩
  unfold GT KY
  rw[F,V,ct,U,hB1,hB2,hB3,Pc C.symm,Pc L.symm,Pc M.symm,←g2 K,←C]
  simp only[C]
  have e:List.flatMap TieD.av [⟨[116,48],y52,.of B1 false false,.of B2 false false,.of B3 false false⟩]=[(.str ([116,48]:List UInt8)),(.int .i64 y52),(.imm (B1.flatMap GC) H 1 false false),(.imm (B2.flatMap GC) H 1 false false),(.imm (B3.flatMap GC) H 1 false false)]:=by
   simp[TieD.av,Sl.av,C,L,M]
  rw[e];rfl
 ·have V:(y50==2)=false:=by simpa using h2
  obtain⟨c,g1,g2⟩:=A3n (R:=R) (o:=o) hN G b S D
  refine⟨c,g1,fun K=>?_⟩
  unfold GT KY
  rw[F,V,cf,←g2 K];rfl
theorem A3p {N:Nat} {l:List Int} {o:Bool} (hN:4096≤N) (C:l.length≤9223372036854775807) {H:Nat} {D:List Int} {bs:List BusD} {ls:List LineD} (h:1≤H∧H≤3) (rl:D.length=H) (rr:∀ x ∈ D,0≤x∧x<5) (bl:1≤bs.length∧bs.length≤4) (bg:∀ i (h:i<bs.length),BusG i H bs[i]) (ll:ls.length≤7) (lg:∀ i (h:i<ls.length),LineH bs.length i H ls[i]) :
  ∀ (n fuel k:Nat) (us:List UnitD),n<fuel→k≤l.length→us.length+n≤3→1≤us.length+n→(∀ i (h:i<us.length),UnitG i bs.length H us[i]) →
  ∃ c,rT c∧∀ K:LA→O R,O4 N K (bs.length:Int) (Av l) l.length o (H:Int) D.length bs.length (Av D) (bs.flatMap BusD.av) fuel (n:Int) (k:Int) ls.length us.length (ls.flatMap LineD.av) (us.flatMap UnitD.av)=K c.av
 | 0,fuel+1,k,us,_,hk,hn,hn1,ug=>by
  obtain⟨y34,I,y340,y341,F,G⟩:=nx (R:=R) (N:=N) (t:=false) (o:=o) C 3 (by omega) (by omega) k hk
  by_cases h2:y34=2
  ·have e2:(y34==2)=true:=by simpa using h2
   obtain⟨y36,k36,y360,y361,L,M⟩:=nx (R:=R) (N:=N) (t:=false) (o:=o) C (bs.length:Int) (by omega) (by omega) I F
   obtain⟨y38,k38,y380,y381,S,T⟩:=nx (R:=R) (N:=N) (t:=false) (o:=o) C 20 (by omega) (by omega) k36 L
   obtain⟨y40,k40,y400,y401,U,V⟩:=nx (R:=R) (N:=N) (t:=false) (o:=o) C 8 (by omega) (by omega) k38 S
   obtain⟨y42,k42,y420,y421,Y,hy42⟩:=nx (R:=R) (N:=N) (t:=false) (o:=o) C 8 (by omega) (by omega) k40 U
   obtain⟨y44,k44,y440,y441,hk44,hy44⟩:=nx (R:=R) (N:=N) (t:=false) (o:=o) C 4 (by omega) (by omega) k42 Y
   obtain⟨y46,k46,y460,y461,hk46,hy46⟩:=nx (R:=R) (N:=N) (t:=false) (o:=o) C (y38+1) (by omega) (by omega) k44 hk44
   obtain⟨y48,k48,y480,y481,hk48,hy48⟩:=nx (R:=R) (N:=N) (t:=false) (o:=o) C (y38+1) (by omega) (by omega) k46 hk46
   obtain⟨c,g1,g2⟩:=A3o (R:=R) (o:=o) hN C (us:=us) (ss:=[⟨[115,48],y36,y38,y46,y48,y40,y42,⟨1+y44,4⟩⟩]) ⟨h,rl,rr,bl,bg,ll,lg,⟨by omega,by omega⟩,ug,by simp,by
    intro x hx;simp at hx;subst hx
    exact⟨rfl,⟨y360,y361⟩,⟨y380,y381⟩,⟨y460,by simp only;omega⟩,⟨y480,by simp only;omega⟩,⟨y400,y401⟩,⟨y420,y421⟩,by simp only;omega,by simp only;omega,rfl⟩,by simp,by simp⟩ k48 hk48
   refine⟨c,g1,fun K=>?_⟩
   rw[O4];unfold Y8
   rw[show decide (((0:Nat):Int)>0)=false from rfl,cf,G,e2,ct,M,T,V,hy42,hy44,Qh (a:=y38+1) (by omega),hy46,hy48,Qh (a:=1+y44) (by omega),←g2 K]
   rfl
  ·have e2:(y34==2)=false:=by simpa using h2
   obtain⟨c,g1,g2⟩:=A3o (R:=R) (o:=o) hN C (us:=us) (ss:=[]) ⟨h,rl,rr,bl,bg,ll,lg,⟨by omega,by omega⟩,ug,by simp,by simp,by simp,by simp⟩ I F
   refine⟨c,g1,fun K=>?_⟩
   rw[O4];unfold Y8
   rw[show decide (((0:Nat):Int)>0)=false from rfl,cf,G,e2,cf,←g2 K]
   rfl
 | n+1,fuel+1,k,us,hf,hk,hn,hn1,ug=>by
  obtain⟨u,k1,gu,hk1,hu⟩:=A6y (R:=R) (N:=N) (t:=false) (o:=o) (by omega) C (i:=us.length) (by omega) (nb:=(bs.length:Int)) (H:=(H:Int)) (by omega) (by omega) k hk
  obtain⟨c,g1,g2⟩:=A3p (o:=o) hN C h rl rr bl bg ll lg n fuel k1 (us++[u]) (by omega) hk1 (by simp;omega) (by simp;omega) (fT (P:=fun i u=>UnitG i bs.length H u) ug gu)
  refine⟨c,g1,fun K=>?_⟩
  rw[O4];unfold Y8
  have wn:IntKind.wrap .i64 (((n+1:Nat):Int) - 1)=(n:Int):=Ah8 (by omega)
  have c2:(Nat.ble (us.length+1) 140737488355328&&Nat.ble ((us.length+1)*216) 140737488355328)=true:=by rw[E5,E5];simp;omega
  have c3:List.take (us.length*22) (us.flatMap UnitD.av)++u.av=(us++[u]).flatMap UnitD.av:=by rw[Cd Qf _ rfl];simp
  rw[show decide (((n+1:Nat):Int)>0)=true from decide_eq_true (by omega),ct,hu,show((Nat.beq (List.length u.av) 22)&&(Nat.ble 22 22))=true from rfl,ct,c2,ct,wn,←g2 K,←c3,List.length_append]
  rfl
theorem Ba5 {N:Nat} {l:List Int} {o:Bool} (hN:4096≤N) (L:l.length≤9223372036854775807) {H:Nat} {C:List Int} {bs:List BusD} (h:1≤H∧H≤3) (rl:C.length=H) (rr:∀ x ∈ C,0≤x∧x<5) (bl:1≤bs.length∧bs.length≤4) (bg:∀ i (h:i<bs.length),BusG i H bs[i]) :
  ∀ (n fuel k:Nat) (ls:List LineD),n<fuel→k≤l.length→ls.length+n≤7→(∀ i (h:i<ls.length),LineH bs.length i H ls[i]) →
  ∃ c,rT c∧∀ K:LA→O R,O5 N K (bs.length:Int) (Av l) l.length o (H:Int) C.length bs.length (Av C) (bs.flatMap BusD.av) fuel (n:Int) (k:Int) ls.length (ls.flatMap LineD.av)=K c.av:=by
 have fin:∀ (k:Nat) (ls:List LineD),k≤l.length→ls.length≤7→(∀ i (h:i<ls.length),LineH bs.length i H ls[i])→∃ c,rT c∧∀ K:LA→O R,(Af N (3:Int) (Av l) l.length false o (k:Int) (fun y22 y23=>(O4 N K (bs.length:Int) (Av l) l.length o (H:Int) C.length bs.length (Av C) (bs.flatMap BusD.av) N (IntKind.wrap .i64 ((1:Int)+y22)) y23 ls.length 0 (ls.flatMap LineD.av) [])))=K c.av:=by
  intro k ls I ll lg
  obtain⟨y,V,y0,y1,D,hy⟩:=nx (R:=R) (N:=N) (t:=false) (o:=o) L 3 (by omega) (by omega) k I
  obtain⟨n,hn⟩:∃ n:Nat,1+y=(n:Int):=⟨(1+y).toNat,by omega⟩
  obtain⟨c,F,G⟩:=A3p (R:=R) (o:=o) hN L h rl rr bl bg ll lg n N V [] (by omega) D (by simp;omega) (by simp;omega) (by simp)
  refine⟨c,F,fun K=>?_⟩
  rw[hy,Qh (a:=1+y) (by omega),hn]
  simpa using G K
 intro n
 induction n with
 | zero =>
  intro fuel k ls hf I hn lg
  obtain⟨c,F,G⟩:=fin k ls I (by omega) lg
  refine⟨c,F,fun K=>?_⟩
  obtain⟨fuel,rfl⟩:∃ f,fuel=f+1:=⟨fuel - 1,by omega⟩
  rw[O5];unfold Y9
  rw[show decide (((0:Nat):Int)>0)=false from rfl,←G K]
  rfl
 | succ n ih =>
  intro fuel k ls hf I hn lg
  obtain⟨fuel,rfl⟩:∃ f,fuel=f+1:=⟨fuel - 1,by omega⟩
  by_cases hb1:bs.length=1
  ·obtain⟨c,F,G⟩:=fin k ls I (by omega) lg
   refine⟨c,F,fun K=>?_⟩
   rw[O5];unfold Y9
   rw[show decide (((n+1:Nat):Int)>0)=true from decide_eq_true (by omega),show decide ((bs.length:Int)>1)=false from decide_eq_false (by omega),←G K]
   rfl
  ·obtain⟨y26,Y,y260,y261,M,S⟩:=nx (R:=R) (N:=N) (t:=false) (o:=o) L (bs.length:Int) (by omega) (by omega) k I
   obtain⟨y28,k28,y280,y281,T,U⟩:=nx (R:=R) (N:=N) (t:=false) (o:=o) L ((bs.length:Int) - 1) (by omega) (by omega) Y M
   have tm:∃ to:Int,Int.tmod (y26+1+y28) (bs.length:Int)=to∧0≤to∧to<(bs.length:Int)∧y26≠to:=by
    refine⟨_,rfl,Int.tmod_nonneg _ (by omega),Int.tmod_lt_of_pos _ (by omega),?_⟩
    by_cases hlt:y26+1+y28<(bs.length:Int)
    ·rw[Int.tmod_eq_of_lt (by omega) hlt];omega
    ·have:Int.tmod (y26+1+y28) (bs.length:Int)=y26+1+y28 - (bs.length:Int):=by
      have e:y26+1+y28=(y26+1+y28 - (bs.length:Int))+1*(bs.length:Int):=by omega
      rw[Int.tmod_eq_emod_of_nonneg (by omega)]
      conv=>lhs;rw[e]
      rw[Int.add_mul_emod_self_right,Int.emod_eq_of_lt (by omega) (by omega)]
     rw[this];omega
   obtain⟨to,ht,t0,t1,tne⟩:=tm
   obtain⟨x,V,gx,D,hx⟩:=Aov (R:=R) (N:=N) (t:=false) (o:=o) L (i:=ls.length) (by omega) y26 to (H:=(H:Int)) (by omega) k28 T
   obtain⟨c,F,G⟩:=ih fuel V (ls++[x]) (by omega) D (by simp;omega) (fT (P:=fun i x=>LineH bs.length i H x) lg ⟨by rw[gx.fr,gx.to];exact gx,by rw[gx.fr];exact⟨y260,y261⟩,by rw[gx.to];exact⟨t0,t1⟩,by rw[gx.fr,gx.to];exact tne⟩)
   refine⟨c,F,fun K=>?_⟩
   rw[O5];unfold Y9 UQ
   have wn:IntKind.wrap .i64 (((n+1:Nat):Int) - 1)=(n:Int):=Ah8 (by omega)
   have c2:(Nat.ble (ls.length+1) 140737488355328&&Nat.ble ((ls.length+1)*120) 140737488355328)=true:=by rw[E5,E5];simp;omega
   have c3:List.take (ls.length*12) (ls.flatMap LineD.av)++x.av=(ls++[x]).flatMap LineD.av:=by rw[Cd Hj _ rfl];simp
   rw[show decide (((n+1:Nat):Int)>0)=true from decide_eq_true (by omega),show decide ((bs.length:Int)>1)=true from decide_eq_true (by omega)]
   simp only[beq_self_eq_true,cond_true]
   rw[S,Qh (a:=(bs.length:Int) - 1) (by omega),U,show((bs.length:Int)==0)=false from beq_eq_false_iff_ne.2 (by omega),cf,Qh (a:=y26+1) (by omega),Qh (a:=y26+1+y28) (by omega),ht,hx,show((Nat.beq (List.length x.av) 12)&&(Nat.ble 12 12))=true from rfl,ct,c2,ct,wn,←G K,←c3,List.length_append]
   rfl
theorem A3q {N:Nat} {l:List Int} {o:Bool} (hN:4096≤N) (F:l.length≤9223372036854775807) {H:Nat} {C:List Int} {bs:List BusD} (h:1≤H∧H≤3) (rl:C.length=H) (rr:∀ x ∈ C,0≤x∧x<5) (bl:1≤bs.length∧bs.length≤4) (bg:∀ i (h:i<bs.length),BusG i H bs[i]) :
  ∀ (m j fuel k:Nat) (ls:List LineD),j+1+m=bs.length→m<fuel→k≤l.length→ls.length=j→(∀ i (h:i<ls.length),LineH bs.length i H ls[i]) →
  ∃ c,rT c∧∀ K:LA→O R,W2 N K (Av l) l.length o (H:Int) C.length bs.length (Av C) (bs.flatMap BusD.av) fuel (bs.length:Int) ((j+1:Nat):Int) (k:Int) ls.length (ls.flatMap LineD.av)=K c.av
 | 0,j,fuel+1,k,ls,V,_,I,G,lg=>by
  obtain⟨y,L,y0,y1,D,M⟩:=nx (R:=R) (N:=N) (t:=false) (o:=o) F 5 (by omega) (by omega) k I
  obtain⟨n,hn⟩:∃ n:Nat,y=(n:Int):=⟨y.toNat,by omega⟩
  subst hn
  obtain⟨c,S,T⟩:=Ba5 (R:=R) (o:=o) hN F h rl rr bl bg n N L ls (by omega) D (by omega) lg
  refine⟨c,S,fun K=>?_⟩
  rw[W2];unfold KZ
  rw[Ku (by omega),cf,M];exact T K
 | m+1,j,fuel+1,k,ls,V,hf,I,G,lg=>by
  obtain⟨y,L,y0,y1,D,M⟩:=nx (R:=R) (N:=N) (t:=false) (o:=o) F ((j+1:Nat):Int) (by omega) (by omega) k I
  obtain⟨x,k2,gx,U,Y⟩:=Aov (R:=R) (N:=N) (t:=false) (o:=o) F (i:=ls.length) (by omega) y ((j+1:Nat):Int) (H:=(H:Int)) (by omega) L D
  obtain⟨c,S,T⟩:=A3q (o:=o) hN F h rl rr bl bg m (j+1) fuel k2 (ls++[x]) (by omega) (by omega) U (by simp[G]) (fT (P:=fun i x=>LineH bs.length i H x) lg ⟨by rw[gx.fr,gx.to];exact gx,by rw[gx.fr];omega,by rw[gx.to];omega,by rw[gx.fr,gx.to];omega⟩)
  refine⟨c,S,fun K=>?_⟩
  rw[W2];unfold KZ
  have c2:(Nat.ble (ls.length+1) 140737488355328&&Nat.ble ((ls.length+1)*120) 140737488355328)=true:=by rw[E5,E5];simp;omega
  have c3:List.take (ls.length*12) (ls.flatMap LineD.av)++x.av=(ls++[x]).flatMap LineD.av:=by rw[Cd Hj _ rfl];simp
  rw[Jh (by omega),ct,M,Y,show((Nat.beq (List.length x.av) 12)&&(Nat.ble 12 12))=true from rfl,ct,c2,ct,Fd (by omega),←T K,←c3,List.length_append]
  rfl
theorem A3r {N:Nat} {l:List Int} {o:Bool} (hN:4096≤N) (L:l.length≤9223372036854775807) {H:Nat} {C:List Int} (h:1≤H∧H≤3) (rl:C.length=H) (rr:∀ x ∈ C,0≤x∧x<5) :
  ∀ (n fuel k:Nat) (bs:List BusD),n<fuel→k≤l.length→bs.length+n≤4→1≤bs.length+n→(∀ i (h:i<bs.length),BusG i H bs[i]) →
  ∃ c,rT c∧∀ K:LA→O R,Mh N K (Av l) l.length o C.length (Av C) fuel (n:Int) (k:Int) (H:Int) bs.length (bs.flatMap BusD.av)=K c.av
 | 0,fuel+1,k,bs,_,V,hn,Y,bg=>by
  obtain⟨c,G,I⟩:=A3q (R:=R) (o:=o) hN L h rl rr ⟨by omega,by omega⟩ bg (bs.length - 1) 0 N k [] (by omega) (by omega) V rfl (by simp)
  refine⟨c,G,fun K=>?_⟩
  rw[Mh];unfold Za
  rw[show decide (((0:Nat):Int)>0)=false from rfl,cf,←I K]
  rfl
 | n+1,fuel+1,k,bs,hf,V,hn,Y,bg=>by
  obtain⟨B,k1,U,b2,hk1,hB⟩:=HG (R:=R) (N:=N) (m:=H) (t:=false) (o:=o) (by omega) L 14 (by omega) (by omega) (by omega) k V
  obtain⟨y12,M,y120,y121,D,F⟩:=nx (R:=R) (N:=N) (t:=false) (o:=o) L 2 (by omega) (by omega) k1 hk1
  have wn:IntKind.wrap .i64 (((n+1:Nat):Int) - 1)=(n:Int):=Ah8 (by omega)
  have c2:(Nat.ble (bs.length+1) 140737488355328&&Nat.ble ((bs.length+1)*48) 140737488355328)=true:=by rw[E5,E5];simp;omega
  have c3:∀ s:Int,List.take (bs.length*3) (bs.flatMap BusD.av)++[(.str [98,Beu.getD bs.length 0]),(.imm (B.flatMap GC) H 1 false false),(.int .i64 s)]=(bs++[(⟨[98,Beu.getD bs.length 0],.of B false false,s⟩:BusD)]).flatMap BusD.av:=fun s=>by
   rw[Cd QY _ rfl];simp[BusD.av,Sl.av,U]
  have go:∀ (s:Int) (kk:Nat),0≤s→s<300→kk≤l.length→∃ c,rT c∧∀ K:LA→O R,Mh N K (Av l) l.length o C.length (Av C) fuel (n:Int) (kk:Int) (H:Int) (bs.length+1) (List.take (bs.length*3) (bs.flatMap BusD.av)++[(.str [98,Beu.getD bs.length 0]),(.imm (B.flatMap GC) H 1 false false),(.int .i64 s)])=K c.av:=by
   intro s kk s0 s1 hkk
   have gb:BusG bs.length H (⟨[98,Beu.getD bs.length 0],.of B false false,s⟩:BusD):=⟨rfl,U,b2,s0,s1⟩
   obtain⟨c,G,I⟩:=A3r (o:=o) hN L h rl rr n fuel kk (bs++[(⟨[98,Beu.getD bs.length 0],.of B false false,s⟩:BusD)]) (by omega) hkk (by simp;omega) (by simp;omega) (fT (P:=fun i x=>BusG i H x) bg gb)
   refine⟨c,G,fun K=>?_⟩
   rw[c3,←I K,List.length_append]
   rfl
  by_cases h1:y12=1
  ·have e1:(y12==1)=true:=by simpa using h1
   obtain⟨y14,k14,y140,y141,S,T⟩:=nx (R:=R) (N:=N) (t:=false) (o:=o) L 200 (by omega) (by omega) M D
   obtain⟨c,G,I⟩:=go (100+y14) k14 (by omega) (by omega) S
   refine⟨c,G,fun K=>?_⟩
   rw[Mh];unfold Za
   rw[show decide (((n+1:Nat):Int)>0)=true from decide_eq_true (by omega),ct,Tv (by omega),hB,F,e1,ct,T,c2,ct,wn,Qh (a:=100+y14) (by omega),Pc U.symm,I]
  ·have e1:(y12==1)=false:=by simpa using h1
   obtain⟨c,G,I⟩:=go 0 M (by omega) (by omega) D
   refine⟨c,G,fun K=>?_⟩
   rw[Mh];unfold Za
   rw[show decide (((n+1:Nat):Int)>0)=true from decide_eq_true (by omega),ct,Tv (by omega),hB,F,e1,cf,c2,ct,wn,Pc U.symm,I]
theorem As4 {N:Nat} {l:List Int} {n:Nat} {t o:Bool} (hn:n=l.length) (hN:4096≤N) (k:l.length≤9223372036854775807):∃ c,rT c∧∀ K:LA→O R,gM N (Av l) n t o K=K c.av:=by
 subst hn
 obtain⟨y1,M,y10,y11,C,D⟩:=nx (R:=R) (N:=N) (t:=false) (o:=o) k 3 (by omega) (by omega) 0 (by omega)
 obtain⟨H,hH⟩:∃ H:Nat,1+y1=(H:Int):=⟨(1+y1).toNat,by omega⟩
 obtain⟨B,k2,L,S,F,hB⟩:=HG (R:=R) (N:=N) (m:=H) (t:=false) (o:=o) (by omega) k 5 (by omega) (by omega) (by omega) M C
 obtain⟨y6,T,y60,y61,G,I⟩:=nx (R:=R) (N:=N) (t:=false) (o:=o) k 4 (by omega) (by omega) k2 F
 obtain⟨m,U⟩:∃ m:Nat,1+y6=(m:Int):=⟨(1+y6).toNat,by omega⟩
 obtain⟨c,V,Y⟩:=A3r (R:=R) (o:=o) hN k (H:=H) (by omega) L S m N T [] (by omega) G (by simp;omega) (by simp;omega) (by simp)
 refine⟨c,V,fun K=>?_⟩
 rw[xQ];unfold qX
 rw[Ago];unfold Arh
 have z:Af N 3 (Av l) l.length false o 0=Af (R:=R) N 3 (Av l) l.length false o ((0:Nat):Int):=rfl
 rw[z,D,Qh (a:=1+y1) (by omega),hH,hB,I,Qh (a:=1+y6) (by omega),U,←Y K,L]
 rfl
end
end Gx.Cf

namespace Gx
open Go Go.Proofs
section
variable {R:Type}
def Ba6 (s:Cf.SegD):SegD:=⟨s.width,s.price⟩
def fU:Cf.Sl Cf.SegD→Sl SegD
 | .nil=>.nil
 | .of l t o=>.of (l.map Ba6) t o
def uG:Cf.Sl Int→Sl Int
 | .nil=>.nil
 | .of l t o=>.of l t o
def A65 (u:Cf.UnitD):UnitD:=⟨u.name,u.bus,u.min,u.max,fU u.segs,u.noLoad,u.rampUp,u.rampDown,u.startRamp,u.stopRamp,u.upTime,u.downTime,u.startTime,u.hotCost,u.coldCost,u.hotHours,u.reserve,u.reservePrice,uG u.away,u.state,u.hours,u.output⟩
theorem Ax3:∀ l:List Cf.SegD,(l.map Ba6).flatMap SegD.av=l.flatMap Cf.SegD.av
 | []=>rfl
 | a::r=>by rw[List.map_cons,List.flatMap_cons,List.flatMap_cons,Ax3 r];rfl
theorem A60 (s:Cf.Sl Cf.SegD):(fU s).av 2 SegD.av=s.av 2 Cf.SegD.av:=by
 cases s with
 | nil=>rfl
 | of l t o=>simp only[fU,Sl.av,Cf.Sl.av,Ax3,List.length_map]
theorem A61 (s:Cf.Sl Int):(uG s).av 1 GC=s.av 1 Cf.GC:=by cases s<;>rfl
theorem Bc8 (u:Cf.UnitD):(A65 u).av=u.av:=by
 unfold UnitD.av Cf.UnitD.av
 rw[show(A65 u).segs=fU u.segs from rfl,show(A65 u).away=uG u.away from rfl,A60,A61];rfl
theorem Aim (s:Cf.Sl Cf.SegD):(fU s).l=s.l.map Ba6:=by cases s<;>rfl
theorem Ax4 (s:Cf.Sl Int):(uG s).l=s.l:=by cases s<;>rfl
theorem rU (a b n:Int):Cf.Fe a b n=Fc a b n:=by
 rw[Bool.eq_iff_iff];simp[Cf.Fe,Fc]<;>omega
theorem Ao0:∀ (l:List Cf.SegD) (p:Int),l.all Cf.Gi=true→Cf.fN l=true→(∀ s ∈ l.head?,p≤s.price)→Gi p (l.map Ba6)=true
 | [],_,_,_,_=>rfl
 | [a],p,k,_,C=>by
  simp[Cf.Gi,rU] at k
  have:=C a (by simp)
  simp[Gi,Ba6,k,this]
 | a::b::r,p,k,D,C=>by
  have G:=C a (by simp)
  simp only[List.all_cons,Bool.and_eq_true] at k
  simp only[Cf.fN,Bool.and_eq_true] at D
  have I:=Ao0 (b::r) a.price (by simp only[List.all_cons,Bool.and_eq_true];exact k.2) D.2 (by intro s hs;simp at hs;subst hs;have:=D.1;simp at this;exact this)
  have F:=k.1
  simp[Cf.Gi,rU] at F
  rw[List.map_cons,Gi,show(Ba6 a).price=a.price from rfl,I]
  simp[Ba6,F,G]
theorem Ao1:∀ (l:List Cf.SegD) (a:Int),l.all Cf.Gi=true→l.length≤100→-1000000000000≤a - 1048576*(100 - (l.length:Int))→(0≤a∧a≤1048576*(100 - (l.length:Int)))→Cf.VC a l=a+ZQ (l.map Ba6)
 | [],a,_,_,_,_=>by simp[Cf.VC,ZQ]
 | s::r,a,k,C,D,F=>by
  simp only[List.all_cons,Bool.and_eq_true] at k
  have G:=k.1
  simp[Cf.Gi,rU,Fc] at G
  rw[List.length_cons] at C D F
  rw[Cf.VC,i64 (by omega),Ao1 r (a+s.width) k.2 (by omega) (by omega) (by omega),List.map_cons,ZQ]
  simp[Ba6];omega
theorem Ain {i:Nat} {nb H c:Int} {u:Cf.UnitD} (g:Cf.UnitG i nb H u) (hH:1≤H∧H≤c) (hc:c≤24):D3 (A65 u) c=true:=by
 have e:=g
 obtain⟨_,_,h1,h2,h3,h4,h5,h6,h7,h8,h9,C,D,F,G,I,L,M,S,T,U,h20,h21,V,_,Y,h25,k⟩:=e
 simp only[rU] at h1 h2 h7 h8 h9 C D F G I L M S T U V Y k
 have hw:=Ao1 u.segs.l 0 h4 (by omega) (by omega) (by omega)
 have hm1:=h1;have hm2:=h2
 simp only[Fc,Bool.and_eq_true,decide_eq_true_eq] at hm1 hm2
 have hsum:ZQ (A65 u).segs.l=u.max - u.min:=by
  have:Cf.VC 0 u.segs.l=IntKind.wrap .i64 (u.max - u.min):=by simpa using h6
  rw[hw,i64 (by omega)] at this
  show ZQ (fU u.segs).l=_
  rw[Aim];omega
 have hseg:Gi (-1048576) (A65 u).segs.l=true:=by
  show Gi _ (fU u.segs).l=true
  rw[Aim]
  refine Ao0 _ _ h4 h5 fun s hs=>?_
  have hs':s ∈ u.segs.l:=List.mem_of_mem_head? hs
  have:=List.all_eq_true.1 h4 s hs'
  simp[Cf.Gi,rU,Fc] at this;omega
 have hlen:(A65 u).segs.l.length≤8:=by
  show(fU u.segs).l.length≤8
  rw[Aim,List.length_map];omega
 have haw:Z1 (c - 1) (-1) (A65 u).away.l=true:=by
  show Z1 _ _ (uG u.away).l=true
  rw[Ax4]
  cases hl:u.away.l with
  | nil=>rfl
  | cons x r =>
   have hr:r=[]:=by
    have:=h20;rw[hl] at this;simp at this;exact this
   subst hr
   have:=h21 x (by rw[hl];simp)
   simp[Z1,Fc];omega
 have hst:C2 (A65 u)=true:=by
  unfold C2
  show(Fc 0 24 u.upTime&&(Fc 0 24 u.downTime&&(Fc 0 24 u.startTime&&(Fc 0 24 u.hotHours&&((u.state==0||(u.state==1||u.state==2))&&(Fc 1 48 u.hours&&(!(u.state==1)||decide (u.hours≤u.startTime))))))))=true
  have hs3:(u.state==0||(u.state==1||u.state==2))=true:=by
   simp only[Fc,Bool.and_eq_true,decide_eq_true_eq] at V
   simp;omega
  rw[F,G,I,S,Y,hs3]
  exact h25
 have hsB:js (A65 u)=true:=by
  unfold js;rw[hseg,hsum];simp[hlen];rfl
 have hoB:A0j (A65 u)=true:=by
  unfold A0j
  show cond (u.state==2) (Fc u.min u.max u.output) (u.output==0)=true
  cases hb:(u.state==2) with
  | true=>rw[hb] at k;exact k
  | false=>rw[hb] at k;simp[Fc] at k;simp;omega
 have hmx:Fc 0 1048576 u.max=true:=by simp[Fc];omega
 have hle:decide (u.min≤u.max)=true:=by simp;omega
 have hcc:Fc 1 24 c=true:=by simp[Fc];omega
 unfold D3
 rw[hst,haw,hsB,hoB]
 show(Fc 1 24 c&&(true&&(Fc 0 1048576 u.min&&(Fc 0 1048576 u.max&&(Fc 0 1048576 u.rampUp&&(Fc 0 1048576 u.rampDown&&(Fc 0 1048576 u.reserve&&(decide (u.min≤u.max)&&(Fc u.min u.max u.startRamp&&(Fc u.min u.max u.stopRamp&&(Fc 0 1048576 u.noLoad&&(Fc 0 1048576 u.hotCost&&(Fc 0 1048576 u.coldCost&&(Fc 0 1048576 u.reservePrice&&(true&&(true&&true))))))))))))))))=true
 rw[hcc,h1,hmx,h8,h9,T,hle,C,D,h7,L,M,U];rfl
theorem A10 {N:Nat} {X:O R} {K:LA→Int→O R} {l:List Int} {n:Nat} {t o:Bool} (hn:n=l.length) (hN:4096≤N) (D:l.length≤9223372036854775807)
  (h:∀ (u:UnitD) (H:Int),1≤H→H≤3→D3 u H=true→D3 u 24=true→u.away.l.length≤1→K u.av H=X):qY N (Av l) n t o K=X:=by
 rw[xS];unfold Ahl
 obtain⟨c,G,e⟩:=Cf.As4 (R:=R) (N:=N) (l:=l) (n:=n) (t:=false) (o:=o) hn hN D
 rw[show Av l=Cf.Av l from rfl,e]
 obtain⟨H,C,bs,ls,us,ss,ts,os,hB,_,_,rfl⟩:=G
 obtain⟨u0,k,rfl⟩:∃ u0 k,us=u0::k:=by
  cases us with
  | nil=>have:=hB.ul;simp at this
  | cons a r=>exact⟨a,r,rfl⟩
 have g:=hB.ug 0 (by simp)
 simp only[List.getElem_cons_zero] at g
 have hH:=hB.h
 have:=h (A65 u0) (H:Int) (by omega) (by omega) (Ain g (by omega) (by omega)) (Ain g (by omega) (by omega)) (by show(uG u0.away).l.length≤1;rw[Ax4];exact g.aw)
 rw[Bc8] at this
 refine Eq.trans ?_ this
 rw[show List.drop 4 (Cf.Aln false H C bs ls (u0::k) ss ts os).av=(Cf.Sl.of (u0::k) false false).av 22 Cf.UnitD.av::List.drop 5 (Cf.Aln false H C bs ls (u0::k) ss ts os).av from rfl,Cf.Hv]
 rw[show(Cf.Sl.of (u0::k) false false).l=u0::k from rfl,List.flatMap_cons,show Ac (0:Int) (u0::k).length=true from Aa (i:=0) (by simp),show Nat.ble 22 (List.length (u0.av++k.flatMap Cf.UnitD.av))=true from rfl,show List.take 22 (u0.av++k.flatMap Cf.UnitD.av)=u0.av from rfl]
 rw[show ∀ F:Int→O R,An .i64 (Cf.Aln false H C bs ls (u0::k) ss ts os).av F=F (H:Int) from fun F=>Ay]
 rfl
end
end Gx

namespace Gx
open Go Go.Proofs
open IntKind (wrap)
set_option maxRecDepth 100000
noncomputable section
variable {R:Type} (N:Nat)
def MO (N:Nat) (c:Int) (b:LA) (e:Bool) (d:Int) (r0:Int→O R):O R :=
 (cond (d != 2) (r0 0) (An .i64 b fun f=>(An .i64 (b.drop 1) fun g=>(r0 (Bj (Gc c f) g)))))
def Qi:=(Ah (@MO R)).1
theorem RB:@Qi R=@MO R:=(Ah _).2
def ZL (F:KF R):Int→O R:=(fun i=>F (iv i) [])
theorem ZM (c:Int) (b:LA) (e:Bool) (d:Int) (F:KF R):Ch [] Dj N 37 [(iv c),(.pagg b e),(iv d)] [] F=(Qi N c b e d (ZL F)):=by
 rw[RB]
 kernel_rfl
def RC (a:LA) (h:Am) (k:KF R):O R :=
 match a,h with
 | [(.int .i64 c),(.pagg b e),(.int .i64 d)],[]=>(Qi N c b e d (ZL k))
 | _,_=>none
theorem ZN:Ap N 37 @RC:=by
 intro R Q a h k j;unfold RC;split;exact A0 (ZM ..) (ZM ..) trivial;exact A3
def ze:=A1 (ZN N)
def zf:=Ce (ZN N)
def F0 (k2:Int→O R) (r0:Bool→O R) (g b:Int) (d:Nat) (e f c o:LA) (p l m:Nat) (q:LA) (k4:Int→Int→Int→LA→O R) (y aa t:Int) (x:LA):O R :=
 (cond (decide (t<b)) (cond (Ac t d) (cond (Nat.ble 2 ((c.drop (0+((t.toNat)*2))).length)) (Co 1 f fun aq ar=>(cond (Ac t ar) (An .i64 (aq.drop ((t.toNat)*1)) fun au=>(Qi N aa ((c.drop (0+((t.toNat)*2))).take 2) false au (fun aj=>(Cp N aj (fun ak=>(cond (Ac t l) (cond ((Nat.beq (ak.length) 3)&&((Nat.ble ((0+((t.toNat)*3))+3) (x.length))&&(!false))) (k4 y aj (wrap .i64 (t+1)) (setCells x (0+((t.toNat)*3)) ak)) none) none)))))) none)) none) none) (cond (Nat.ble 22 (e.length)) (Zb N (e.take 22) false b [(.imm o p 1 false false),(.imm (x.take (l*3)) l 3 false true),(.imm (q.take (m*3)) m 3 false true)] true (fun av aw=>(cond ((av != b)==false) (cond (cond false true (aw != 0)) (r0 false) (k2 (wrap .i64 (y+1)))) (r0 false)))) none))
def C7 (k2:Int→O R) (r0:Bool→O R) (g b:Int) (d:Nat) (e f c o:LA) (p l m:Nat) (q:LA):Nat→Int→Int→Int→LA→O R
 | 0,_,_,_,_=>none
 | n+1,y,aa,t,x=>(F0 N k2 r0 g b d e f c o p l m q (C7 k2 r0 g b d e f c o p l m q n) y aa t x)
def F1 (k2:Int→O R) (r0:Bool→O R) (g b:Int) (d:Nat) (e f c o:LA) (p:Nat) (k3:Int→Int→Int→Nat→Nat→LA→LA→O R) (q4:Int→Int→Int→LA→O R) (v z s:Int) (l m:Nat) (w q:LA):O R :=
 (cond (decide (s≥0)) (cond (Ac s d) (cond (Nat.ble 2 ((c.drop (0+((s.toNat)*2))).length)) (Co 1 f fun ax ay=>(cond (Ac s ay) (An .i64 (ax.drop ((s.toNat)*1)) fun az=>(Qi N z ((c.drop (0+((s.toNat)*2))).take 2) false az (fun al=>(Cp N al (fun am=>(cond (Ac s l) (cond ((Nat.beq (am.length) 3)&&((Nat.ble ((0+((s.toNat)*3))+3) (w.length))&&(!false))) (k3 v al (wrap .i64 (s - 1)) l m (setCells w (0+((s.toNat)*3)) am) q) none) none)))))) none)) none) none) (cond (Ac g d) (cond (Ac v 2) (An .i64 (c.drop ((0+((g.toNat)*2))+((v.toNat)*1))) fun ba=>(q4 v ba (wrap .i64 (g+1)) w)) none) none))
def Cn (k2:Int→O R) (r0:Bool→O R) (g b:Int) (d:Nat) (e f c o:LA) (p:Nat):Nat→Int→Int→Int→Nat→Nat→LA→LA→O R
 | 0,_,_,_,_,_,_,_=>none
 | n+1,v,z,s,l,m,w,q=>(F1 N k2 r0 g b d e f c o p (Cn k2 r0 g b d e f c o p n) (fun y aa t x=>(C7 N k2 r0 g b d e f c o p l m q N y aa t x)) v z s l m w q)
def F2 (r0:Bool→O R) (g b:Int) (d:Nat) (e f c:LA) (k2:Int→O R) (q3:LA→Nat→Int→Int→Int→Nat→Nat→LA→LA→O R) (r:Int):O R :=
 (cond (decide (r<2)) (Co 1 f fun o p=>(cond ((decide (0≤b))&&((decide (b≤b))&&((decide (b≤140737488355328))&&(decide ((b*((56:Nat):Int))≤140737488355328))))) (cond ((decide (0≤b))&&((decide (b≤b))&&((decide (b≤140737488355328))&&(decide ((b*((56:Nat):Int))≤140737488355328))))) (cond (Ac g d) (cond (Ac r 2) (An .i64 (c.drop ((0+((g.toNat)*2))+((r.toNat)*1))) fun an=>(Cp N an (fun ao=>(cond (Ac g (b.toNat)) (cond ((Nat.beq (ao.length) 3)&&((Nat.ble ((0+((g.toNat)*3))+3) (List.length (List.flatten (List.replicate (b.toNat) ([(.bool false),.nsl,.nsl]:LA)))))&&(!false))) (q3 o p r an (wrap .i64 (g - 1)) (b.toNat) (b.toNat) (setCells (List.flatten (List.replicate (b.toNat) ([(.bool false),.nsl,.nsl]:LA))) (0+((g.toNat)*3)) ao) (List.flatten (List.replicate (b.toNat) ([(.bool false),.nsl,.nsl]:LA)))) none) none)))) none) none) none) none)) (r0 true))
def Bm (r0:Bool→O R) (g b:Int) (d:Nat) (e f c:LA):Nat→Int→O R
 | 0,_=>none
 | n+1,r=>(F2 N r0 g b d e f c (Bm r0 g b d e f c n) (fun o p v z s l m w q=>(Cn N (Bm r0 g b d e f c n) r0 g b d e f c o p N v z s l m w q)) r)
def F3 (r0:Bool→O R) (i b:Int) (d:Nat) (e f c:LA) (k1:Int→O R) (q2:Int→Int→O R) (u:Int):O R :=
 (cond (decide (u<b)) (Co 3 (f.drop 1) fun ap bb=>(cond (Ac u bb) (cond (Nat.ble 3 ((ap.drop ((u.toNat)*3)).length)) (cond (Ac u d) (An .i64 (c.drop (0+((u.toNat)*2))) fun bc=>(cond (Ac u d) (An .i64 (c.drop ((0+((u.toNat)*2))+1)) fun bd=>(GD N ((ap.drop ((u.toNat)*3)).take 3) false bc bd (fun be=>(cond (!be) (r0 false) (k1 (wrap .i64 (u+1))))))) none)) none) none) none)) (DG N i b (fun g=>(q2 g 0))))
def C8 (r0:Bool→O R) (i b:Int) (d:Nat) (e f c:LA):Nat→Int→O R
 | 0,_=>none
 | n+1,u=>(F3 N r0 i b d e f c (C8 r0 i b d e f c n) (fun g r=>(Bm N r0 g b d e f c N r)) u)
def Jt (N:Nat) (r0:Bool→O R) (i b:Int) (d:Nat) (e f c:LA) (q1:Int→O R):O R :=
 (q1 0)
def Gn (r0:Bool→O R) (i b:Int) (d:Nat) (e f c:LA):O R:=(Jt N r0 i b d e f c (fun u=>(C8 N r0 i b d e f c N u)))
def H7 (r0:Bool→O R) (q0:Int→Nat→LA→LA→LA→O R) (ab:LA) (ac:Nat) (ah ad:Bool) (ae:LA) (af:Nat) (ai ag:Bool) (i:Int):O R :=
 (fE N ab ac false ad ae af false ag (fun bf=>(cond (!bf) (r0 true) (qY N ab ac false ad (fun e b=>(cond ((Nat.beq 0 0)&&((Nat.beq (e.length) 22)&&(Nat.beq 22 22))) (cond (Nat.ble 22 (e.length)) (fM N (e.take 22) false b ae af false ag (fun f bg=>(cond ((Nat.beq 0 0)&&((Nat.beq (f.length) 3)&&(Nat.beq 3 3))) (cond (!bg) (Tl N (fun bh=>(r0 bh))) (cond (Nat.ble 22 (e.length)) (Co 1 f fun bi bj=>(K6 N (e.take 22) false b bi bj false false (fun d bk c=>(cond ((bk != 0)==false) (cond ((cond false true (((d:Nat):Int) != b))==false) (Tl N (fun bl=>(cond (cond false true (!bl)) (r0 false) (q0 b d e f c)))) (r0 false)) (r0 false))))) none)) none))) none) none))))))
def Gb:=(Ah (fun (N:Nat) (ab:LA) (ac:Nat) (ah ad:Bool) (ae:LA) (af:Nat) (ai ag:Bool) (i:Int) (r0:Bool→O R)=>(H7 N r0 (fun b d e f c=>(Gn N r0 i b d e f c)) ab ac ah ad ae af ai ag i))).1
theorem Ro (ab ac ah ad ae af ai ag i r0):(@Gb R N ab ac ah ad ae af ai ag i r0)=(H7 N r0 (fun b d e f c=>(Gn N r0 i b d e f c)) ab ac ah ad ae af ai ag i):=by rw[Gb,(Ah _).2]
def Tx:Hints:={ H:=(hS hL (hS hL (hS hL (hS hL (hS hL (hS hL (hJ [2,7,8,9,11] hL (hS (hS hL (hS (hP [2,7,8,9,11,13] hL) hL)) (hS hL (hS (hS hL (hS (hP [2,7,8,9,11,14] (hS hL (hS (hS (hS hL (hS hL (hS hL (hS (hS hL (hS (hP [2,7,8,9,11,14,15,16,17] hL) hL)) (hS hL (hS (hS hL (hS (hP [2,7,8,9,11,14,15,16,18] hL) hL)) hL)))))) hL) hL))) hL)) hL)))))))))) }
def Vk:D9:=[(26,Axa N),(27,A1i N),(28,Axm N),(15,Af1 N),(29,dT N),(36,Aki N),(12,oJ N),(20,T9 N),(37,ze N),(38,Awp N)]
def Ef (F:KF R):=Jw Tryz.f7 Tx (Vk N) [] N F
def A4 (F:KF R):Bool→O R:=(fun bm=>F (.bool bm) [])
def RD (g b:Int) (d:Nat) (e f c o:LA) (p l m:Nat) (q:LA) (y aa t:Int) (x:LA):St:=⟨[(2,(iv g)),(7,(op 0)),(8,(iv b)),(9,(op 1)),(11,(.own 300002 0 d)),(14,(iv y)),(15,(op 3)),(16,(iv aa)),(18,(iv t))],(hq [(bQ 0 e),(bQ 0 f),(bQ 2 c),⟨false,false,false,false,0,[(.imm o p 1 false false),(.own 300004 0 l),(.own 300005 0 m)],false⟩,(bQ 3 x),(bQ 3 q)])⟩
def RF (F:KF R) (Q2:St→O R):=Ef N F [1,1,1,1,1,1,1,1,1,0,1,0,0,1,0,0,1,1,1,1,1,0,1,0] [Q2]
def RG (g b:Int) (d:Nat) (e f c o:LA) (p:Nat) (v z s:Int) (l m:Nat) (w q:LA):St:=⟨[(2,(iv g)),(7,(op 0)),(8,(iv b)),(9,(op 1)),(11,(.own 300002 0 d)),(14,(iv v)),(15,(op 3)),(16,(iv z)),(17,(iv s))],(hq [(bQ 0 e),(bQ 0 f),(bQ 2 c),⟨false,false,false,false,0,[(.imm o p 1 false false),(.own 300004 0 l),(.own 300005 0 m)],false⟩,(bQ 3 w),(bQ 3 q)])⟩
def RH (F:KF R) (Q2:St→O R):=Ef N F [1,1,1,1,1,1,1,1,1,0,1,0,0,1,0,0,1,1,1,0,1,0] [Q2]
def Eg (g b:Int) (d:Nat) (e f c:LA) (r:Int):St:=⟨[(2,(iv g)),(7,(op 0)),(8,(iv b)),(9,(op 1)),(11,(.own 300002 0 d)),(14,(iv r))],(hq [(bQ 0 e),(bQ 0 f),(bQ 2 c)])⟩
def Ty (F:KF R):=Ef N F [1,1,1,1,1,1,1,1,1,0,1,0] []
def RI (i b:Int) (d:Nat) (e f c:LA) (u:Int):St:=⟨[(2,(iv i)),(7,(op 0)),(8,(iv b)),(9,(op 1)),(11,(.own 300002 0 d)),(13,(iv u))],(hq [(bQ 0 e),(bQ 0 f),(bQ 2 c)])⟩
def RK (F:KF R):=Ef N F [1,1,1,1,1,1,1,0,1,0] []
def RL (i b:Int) (d:Nat) (e f c:LA):St:=⟨[(2,(iv i)),(7,(op 0)),(8,(iv b)),(9,(op 1)),(11,(.own 300002 0 d))],(hq [(bQ 0 e),(bQ 0 f),(bQ 2 c)])⟩
def RM (F:KF R):=Ef N F [1,1,1,1,1,1,1] []
theorem Pd (Q2:St→O R) (F:KF R) (g b:Int) (d:Nat) (e f c o:LA) (p l m:Nat) (q:LA):∀ (n:Nat) (y aa t:Int) (x:LA),Ao (RF N F Q2) n (RD g b d e f c o p l m q y aa t x)=(C7 N (fun r=>Q2 (Eg g b d e f c r)) (A4 F) g b d e f c o p l m q n y aa t x)
 | 0,_,_,_,_=>by kernel_rfl
 | n+1,y,aa,t,x=>Eq.trans (by kernel_rfl) (Bp (F0 N (fun r=>Q2 (Eg g b d e f c r)) (A4 F) g b d e f c o p l m q · y aa t x) (funext fun y=>funext fun aa=>funext fun t=>funext fun x=>(Pd Q2 F g b d e f c o p l m q n y aa t x)):_)
theorem Pe (Q2:St→O R) (F:KF R) (g b:Int) (d:Nat) (e f c o:LA) (p:Nat):∀ (n:Nat) (v z s:Int) (l m:Nat) (w q:LA),Ao (RH N F Q2) n (RG g b d e f c o p v z s l m w q)=(Cn N (fun r=>Q2 (Eg g b d e f c r)) (A4 F) g b d e f c o p n v z s l m w q)
 | 0,_,_,_,_,_,_,_=>by kernel_rfl
 | n+1,v,z,s,l,m,w,q=>Eq.trans (by kernel_rfl) (VS (F1 N (fun r=>Q2 (Eg g b d e f c r)) (A4 F) g b d e f c o p · · v z s l m w q) (funext fun v=>funext fun z=>funext fun s=>funext fun l=>funext fun m=>funext fun w=>funext fun q=>(Pe Q2 F g b d e f c o p n v z s l m w q)) (funext fun y=>funext fun aa=>funext fun t=>funext fun x=>(Aj ..).trans (Pd N Q2 F g b d e f c o p l m q N y aa t x)):_)
theorem Pf (F:KF R) (g b:Int) (d:Nat) (e f c:LA):∀ (n:Nat) (r:Int),Ao (Ty N F) n (Eg g b d e f c r)=(Bm N (A4 F) g b d e f c n r)
 | 0,_=>by kernel_rfl
 | n+1,r=>have e0:=(funext fun r=>(Pf F g b d e f c n r))
  Eq.trans (by kernel_rfl) (VS (F2 N (A4 F) g b d e f c · · r) e0 (funext fun o=>funext fun p=>funext fun v=>funext fun z=>funext fun s=>funext fun l=>funext fun m=>funext fun w=>funext fun q=>(Aj ..).trans ((Pe N (Ao (Ty N F) n) F g b d e f c o p N v z s l m w q).trans (Bp (Cn N · (A4 F) g b d e f c o p N v z s l m w q) e0))):_)
theorem Pg (F:KF R) (i b:Int) (d:Nat) (e f c:LA):∀ (n:Nat) (u:Int),Ao (RK N F) n (RI i b d e f c u)=(C8 N (A4 F) i b d e f c n u)
 | 0,_=>by kernel_rfl
 | n+1,u=>Eq.trans (by kernel_rfl) (VS (F3 N (A4 F) i b d e f c · · u) (funext fun u=>(Pg F i b d e f c n u)) (funext fun g=>funext fun r=>(Aj ..).trans (Pf N F g b d e f c N r)):_)
theorem HH (F:KF R) (i b:Int) (d:Nat) (e f c:LA):A9 (RM N F) (RL i b d e f c)=(Gn N (A4 F) i b d e f c):=by
 exact Eq.trans (by kernel_rfl) (Bp (Jt N (A4 F) i b d e f c ·) (funext fun u=>(Aj ..).trans (Pg N F i b d e f c N u)):_)
theorem Tz (ab:LA) (ac:Nat) (ah ad:Bool) (ae:LA) (af:Nat) (ai ag:Bool) (i:Int) (F:KF R):Ch (Vk N) Tx N 7 [(.imm ab ac 1 ah ad),(.imm ae af 1 ai ag),(iv i)] [] F=(Gb N ab ac ah ad ae af ai ag i (A4 F)):=by
 rw[Ro]
 exact Eq.trans (by kernel_rfl) (Bp (H7 N (A4 F) · ab ac ah ad ae af ai ag i) (funext fun b=>funext fun d=>funext fun e=>funext fun f=>funext fun c=>(At ..).trans (HH N F i b d e f c)):_)
def Rp (a:LA) (h:Am) (k:KF R):O R :=
 match a,h with
 | [(.imm ab ac 1 ah ad),(.imm ae af 1 ai ag),(.int .i64 i)],[]=>(Gb N ab ac ah ad ae af ai ag i (A4 k))
 | _,_=>none
theorem T0:Ap N 7 @Rp:=by
 intro R Q a h k j;unfold Rp;split;exact A0 (Tz ..) (Tz ..) ⟨Axb N,A1j N,Axn N,Af2 N,dU N,Akj N,oK N,Ua N,zf N,Awq N,trivial⟩;exact A3
def RN:=A1 (T0 N)
def RO:=Ce (T0 N)
end
end Gx

namespace Gx
open Go Go.Proofs
set_option maxRecDepth 100000
section
variable {R:Type}
def Bbz (ks A B:List Int):PlanD:=Bdg ks (A.map rq) (B.map rq) false false false
theorem A9h {ks A B:List Int} {n:Nat} (k:n=ks.length) (C:A.length=n) (D:B.length=n):[AV.imm (Av ks) n 1 false false,.imm (tq A) n 3 false false,.imm (tq B) n 3 false false]=(Bbz ks A B).av:=by
 unfold Bbz;rw[←A84,List.length_map,List.length_map,C,D,k];rfl
theorem Ba7 (p:PlanD):((Nat.beq 0 0)&&((Nat.beq (List.length p.av) 3)&&(Nat.beq 3 3)))=true:=rfl
theorem Ba8 {N:Nat} {X:O R} {K:LA→Bool→O R} {u:UnitD} {raw:List Int} {h:Int} {n:Nat} {b g f:Bool} (hn:n=raw.length) (k:u.away.l.length≤1000) (hN:4096≤N) (hs:C2 u=true) (C:0≤h∧h≤1000)
  (D:K (Bbz [] [] []).av false=X) (F:∀ ks A B,ks.length≤1000→ZZ u h ks=0→GdA u ks ks.length ks.length A B→K (Bbz ks A B).av true=X):fM N u.av b h (Av raw) n g f K=X:=by
 rw[rK];unfold tn
 rw[Dr,ct,B8]
 refine A6q hn k (by omega) hs C fun ks I=>?_
 rw[ct]
 refine All hn rfl k (by omega) hN (fun _=>?_) (fun G A B g=>?_)
 ·rw[show [AV.imm [] 0 1 false false,.imm [] 0 3 false false,.imm [] 0 3 false false]=(Bbz [] [] []).av from A9h (ks:=[]) (A:=[]) (B:=[]) rfl rfl rfl,Ba7,ct,Be4,ct,Be5]
  exact D
 ·rw[A9h rfl g.1 g.2.1,Ba7,ct,Be4,ct,Be5]
  exact F ks A B (by omega) G g
theorem A11 {N:Nat} {c f:LA} {a b:Nat} {d e g i:Bool} {K:Bool→O R}:fE N c a d e f b g i K=K (decide (a≤200)&&decide (b≤200)):=by
 rw[qw];unfold ti
 have e1:decide (((a:Nat):Int)≤200)=decide (a≤200):=by rw[decide_eq_decide];omega
 have k:decide (((b:Nat):Int)≤200)=decide (b≤200):=by rw[decide_eq_decide];omega
 rw[e1,k]
 cases decide (a≤200)<;>cases decide (b≤200)<;>rfl
end
end Gx

namespace Gx
open Go Go.Proofs
set_option maxRecDepth 100000
theorem Bd3 (v:Int):(rq v).q=(v:Rat):=A8f _
theorem A9s (a b:Int):decide ((a:Rat)≤(b:Rat))=decide (a≤b):=by rw[decide_eq_decide];exact Rat.intCast_le_intCast
section
variable {u:UnitD} {ks:List Int} {n:Nat} {A B:List Int}
theorem A12 {on:Bool} {p r:Int} (k:on=true→u.min≤p∧0≤r∧r≤u.reserve∧p+r≤u.max) (C:on=false→p=0∧r=0):te u on (p:Rat) (r:Rat)=true:=by
 unfold te A0x
 cases on with
 | true =>
  obtain⟨a,b,c,d⟩:=k rfl
  rw[cond_true,←Rat.intCast_add,A9s,A9s,A9s,A9s,decide_eq_true a,decide_eq_true b,decide_eq_true c,decide_eq_true d];rfl
 | false=>obtain⟨rfl,rfl⟩:=C rfl;rfl
theorem A62 {was on:Bool} {v p r:Int} (k:on=true→was=true→p+r - v≤u.rampUp∧v - p≤u.rampDown) (C:on=true→was=false→p+r≤u.startRamp) (D:on=false→was=true→v≤u.stopRamp):Aol u was on (v:Rat) (p:Rat) (r:Rat)=true:=by
 unfold Aol
 rw[←Rat.intCast_add,←Rat.intCast_sub,←Rat.intCast_sub,A9s,A9s,A9s,A9s]
 cases on with
 | true =>
  cases was with
  | true=>obtain⟨a,b⟩:=k rfl rfl;rw[decide_eq_true a,decide_eq_true b];rfl
  | false=>have a:=C rfl rfl;rw[decide_eq_true a];rfl
 | false =>
  cases was with
  | true=>have a:=D rfl rfl;rw[decide_eq_true a];rfl
  | false=>rfl
theorem A3s {h:Int} (k:ZZ u h ks=0):D3 u h=true∧(ks.length:Int)=h∧(Fr u 0 (Ez u) ks).2=true∧(u.state=2→Bu ks 0=false→u.output≤u.stopRamp)∧Ij u ks ks.length=false:=by
 unfold ZZ at k
 cases F:D3 u h with
 | false=>rw[F] at k;simp at k
 | true =>
  rw[F] at k
  simp only[Bool.not_true,cond_false] at k
  cases C:((ks.length:Int) != h) with
  | true=>rw[C] at k;simp at k
  | false =>
   rw[C] at k
   cases G:(Fr u 0 (Ez u) ks).2 with
   | false=>rw[G] at k;simp at k
   | true =>
    rw[G] at k
    cases D:((u.state==2&&!Bu ks 0)&&decide (u.output>u.stopRamp)) with
    | true=>rw[D] at k;simp at k
    | false =>
     rw[D] at k
     cases I:Ij u ks ks.length with
     | true=>rw[I] at k;simp at k
     | false =>
      refine⟨rfl,by simpa using C,rfl,fun L M=>?_,rfl⟩
      rw[show(u.state==2)=true by simpa using L,M] at D
      simp at D;exact D
theorem zr {l:List Int} {h:Nat} (k:h<l.length):l.getD h 0=l[h]:=by rw[List.getD_eq_getElem?_getD,List.getElem?_eq_getElem k];rfl
theorem Ax5 {H:Int} {EN RE:List RatD} (M:ZZ u H ks=0) (hn:n=ks.length) (g:GdA u ks n n A B) (hE:EN.length=n) (hR:RE.length=n) (qE:∀ i (h:i<EN.length),EN[i].q=((A.getD i 0:Int):Rat)) (qR:∀ i (h:i<RE.length),RE[i].q=((B.getD i 0:Int):Rat)):∀ (m h:Nat) (s:StD),h+m=n→(Fr u h s (ks.drop h)).2=true→A80 u h s (La u ks h) (Axs u A h:Rat) (ks.drop h) (EN.drop h) (RE.drop h)=((n:Int),0)
 | 0,h,s,Y,_=>by
  rw[E9 (l:=ks) (by omega),A80,show n=h by omega]
  intro k ks e es r rs I;cases I
 | m+1,h,s,Y,F=>by
  obtain⟨hv,S,_,L,hf⟩:=A3s M
  have ok:=QU hv
  rw[←hn] at hf
  have I:h<ks.length:=by omega
  have T:h<EN.length:=by omega
  have U:h<RE.length:=by omega
  have gd:=g.2.2 h (by omega)
  have r3:=qu (ks:=ks) ok h
  have r1:=tc (ks:=ks) (n:=n) ok (n - 1 - h) h (by omega)
  have r2:=zX (ks:=ks) (n:=n) ok h
  rw[C5 I] at F ⊢
  rw[C5 T,C5 U,A80]
  rw[Fr] at F
  cases hs:GY u h s ks[h] with
  | none=>rw[hs] at F;simp at F
  | some t =>
   rw[hs] at F
   dsimp only at F ⊢
   rw[qE h T,qR h U,←Fy I]
   rw[A12 (fun D=>by have:=gd.on D;have:=r3.2.2.2.2 D;omega) (fun D=>gd.off D),cond_true]
   rw[A62 (fun D C=>gd.was D C) (fun D C=>gd.st D C) (fun D C=>by
    cases h with
    | zero=>exact L (by simpa[La] using C) D
    | succ q =>
     have G:Bu ks q=true:=C
     have g1:=(g.2.2 q (by omega)).on G
     have V:=tc (ks:=ks) (n:=n) ok (n - 1 - q) q (by omega)
     have e:Z4 u ks n q=⟨(Sw u ks q).lo,Bj (Sw u ks q).hi u.stopRamp⟩:=by unfold Z4;rw[G,D,show decide (q+1<n)=true by simp;omega];rfl
     rw[e] at V
     simp only[Ey] at V
     show A.getD q 0≤_
     omega),cond_true]
   exact Ax5 M hn g hE hR qE qR m (h+1) t (by omega) (by exact F)
theorem Bc9 {H:Int} {p:PlanD} (C:ZZ u H ks=0) (g:GdA u ks ks.length ks.length A B) (D:p.st.l=ks) (hE:p.en.l.length=ks.length) (hR:p.re.l.length=ks.length) (qE:∀ i (h:i<p.en.l.length),p.en.l[i].q=((A.getD i 0:Int):Rat)) (qR:∀ i (h:i<p.re.l.length),p.re.l[i].q=((B.getD i 0:Int):Rat)):Bdz u H p=(H,0):=by
 obtain⟨F,k,G,_,_⟩:=A3s C
 unfold Bdz A83
 rw[F,D,hE,hR,decide_eq_true k]
 have:=Ax5 (n:=ks.length) C rfl g hE hR qE qR ks.length 0 (Ez u) (by omega) (by simpa using G)
 simp only[List.drop_zero] at this
 rw[k] at this
 exact this
end
end Gx

namespace Gx
open Go Go.Proofs
set_option maxRecDepth 100000
section
variable {R:Type}
def rs (l:List RatD):LA:=l.flatMap RatD.av
theorem Bda (l:List RatD):(rs l).length=l.length*3:=by rw[rs,cD (e:=RatD.av) (n:=3) (fun _=>rfl)]
theorem Bdb {l:List RatD} {j:Nat} {x:RatD} (h:j<l.length):setCells (rs l) (0+(Int.toNat (j:Int))*3) x.av=rs (l.set j x):=by
 rw[Int.toNat_natCast,Nat.zero_add]
 exact fD (e:=RatD.av) (sz:=3) (fun _=>rfl) l j x h
end
end Gx
