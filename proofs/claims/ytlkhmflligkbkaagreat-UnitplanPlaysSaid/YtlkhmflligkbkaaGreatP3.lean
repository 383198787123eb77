/- A part of the proof: what it holds is said by each theorem. -/
import Derived.Test.YtlkhmflligkbkaaGreatP2
set_option linter.unusedVariables false
set_option linter.defProp false
set_option linter.unusedSimpArgs false
namespace Gx
open Go Go.Proofs
section
variable {R:Type}
inductive LS where
 | nil
 | of (l:List Nat) (t o:Bool)
def LS.l:LS→List Nat
 | .nil=>[]
 | .of l _ _=>l
def LS.av:LS→AV
 | .nil=>.nsl
 | .of l t o=>.imm (Af l) l.length 1 t o
theorem Baa {s:LS} {r:LA} {f:LA→Nat→O R}:B9 1 (s.av::r) f=f (Af s.l) s.l.length:=by
 cases s<;>simp[B9,LS.av,LS.l,Bdc,Af]
theorem Bk1 {b:Bool} {r:LA} {f:Bool→O R}:RW (.bool b::r) f=f b:=by simp[RW,asBool]
def Lt (neg:Bool) (s:LS):LA:=[.bool neg,s.av]
def A3 (neg:Bool) (s:LS):Int:=if neg then -(val s.l:Int) else (val s.l:Int)
theorem Dc (neg:Bool) (s:LS):(A3 neg s).natAbs=val s.l:=by unfold A3;cases neg<;>simp
theorem Wd {neg:Bool} {s:LS} {f:Bool→O R}:RW (Lt neg s) f=f neg:=Bk1
theorem R4 {neg:Bool} {s:LS} {f:LA→Nat→O R}:B9 1 (List.drop 1 (Lt neg s)) f=f (Af s.l) s.l.length:=by rw[Lt,List.drop_succ_cons,List.drop_zero,Baa]
theorem Pt {N:Nat} {c:Bool} {a:Nat} {b:LA} {K:Bool→O R}:Kz N c a b K=K (c&&decide (0<a)):=by
 rw[mf];unfold qJ
 cases c<;>simp
theorem GQ {z:Int} {c:Bool} {m:Nat} (h:z=if c then -(m:Int) else (m:Int)):(c&&decide (0<(As m).length))=decide (z<0)∧z.natAbs=m:=by
 have D:z.natAbs=m:=by rw[h];cases c<;>simp
 refine⟨?_,D⟩
 by_cases C:m=0
 ·subst C;rw[h,Ey];cases c<;>simp
 ·have:0<(As m).length:=by
   rcases Nat.eq_zero_or_pos (As m).length with k | k
   ·exact absurd (B5.1 k) C
   ·exact k
  rw[h];cases c<;>simp[this]<;>omega
theorem Atg {N:Nat} {v:Int} (G:-9223372036854775808≤v∧v≤9223372036854775807) (hN:4≤N):∃ S,Am S∧val S=v.natAbs∧∀ K:Bool→Nat→LA→O R,HT N v K=K (decide (v<0)) (As v.natAbs).length (Af S):=by
 have D:v.natAbs<18446744073709551616:=by omega
 obtain⟨S,s1,s2,C⟩:=Ml (R:=R) (N:=N) D hN
 refine⟨S,s1,s2,fun K=>?_⟩
 rw[fh];unfold fg
 by_cases h:v<0
 ·have e:IntKind.wrap .u64 ((0:Int) - IntKind.wrap .u64 v)=(v.natAbs:Int):=by rw[qC,qC];omega
  rw[decide_eq_true h,ct,e,C,Pt]
  have F:v.natAbs≠0:=by omega
  have:0<(As v.natAbs).length:=by
   rcases Nat.eq_zero_or_pos (As v.natAbs).length with k | k
   ·exact absurd (B5.1 k) F
   ·exact k
  simp[this]
 ·have e:IntKind.wrap .u64 v=(v.natAbs:Int):=by rw[qC];omega
  rw[decide_eq_false h,cf,e,C,Pt];rfl
theorem rE {N:Nat} {neg:Bool} {s:LS} {o:Bool} {K:Int→O R} (hs:Am s.l) (k:fit s.l.length N):XF N (Lt neg s) o K=K (A3 neg s).sign:=by
 rw[Aa3];unfold Akn
 rw[R4,Aod rfl hs k]
 unfold A3
 by_cases h:val s.l=0
 ·rw[h,GO,show((0:Int)==0)=true by rfl,ct];cases neg<;>rfl
 ·have:Iy (val s.l) 0=1:=by unfold Iy;rw[if_neg (by omega),if_pos (by omega)]
  rw[this,show((1:Int)==0)=false by rfl,cf,Wd]
  cases neg
  ·rw[cf];simp only[Bool.false_eq_true,if_false]
   congr 1
   rw[Int.sign_eq_one_of_pos];omega
  ·rw[ct];simp only[if_true]
   congr 1
   rw[Int.sign_eq_neg_one_of_neg];omega
theorem TT {N:Nat} {n1 n2:Bool} {s1 s2:LS} {o1 o2:Bool} (C:Am s1.l) (D:Am s2.l) (F:fit (s1.l.length+s2.l.length) N):∃ S,Am S∧val S=(A3 n1 s1*A3 n2 s2).natAbs∧∀ K:Bool→Nat→LA→O R,XK N (Lt n1 s1) o1 (Lt n2 s2) o2 K=K (decide (A3 n1 s1*A3 n2 s2<0)) (As (A3 n1 s1*A3 n2 s2).natAbs).length (Af S):=by
 obtain⟨S,a1,a2,a3⟩:=iQ (R:=R) (N:=N) (a:=s1.l) (b:=s2.l) (t:=false) (o:=o1) (t':=false) (o':=o2) rfl rfl C D F
 have G:A3 n1 s1*A3 n2 s2=if (!(n1==n2)) then -((val s1.l*val s2.l:Nat):Int) else ((val s1.l*val s2.l:Nat):Int):=by
  unfold A3;cases n1<;>cases n2<;>simp[Int.mul_neg,Int.neg_mul]
 obtain⟨c1,k⟩:=GQ G
 refine⟨S,a1,by rw[a2,k],fun K=>?_⟩
 rw[Ak3];unfold Azw
 rw[Wd,Wd,R4,R4,a3,Pt,c1,k]
theorem Axg {N:Nat} {n1 n2:Bool} {s1 s2:LS} {o1 o2:Bool} (F:Am s1.l) (G:Am s2.l) (I:fit (s1.l.length+s2.l.length+1) N):∃ S,Am S∧val S=(A3 n1 s1+A3 n2 s2).natAbs∧∀ K:Bool→Nat→LA→O R,yI N (Lt n1 s1) o1 (Lt n2 s2) o2 K=K (decide (A3 n1 s1+A3 n2 s2<0)) (As (A3 n1 s1+A3 n2 s2).natAbs).length (Af S):=by
 by_cases hn:n1=n2
 ·subst hn
  obtain⟨S,a1,a2,a3⟩:=Bhi (R:=R) (N:=N) (a:=s1.l) (b:=s2.l) (t:=false) (o:=o1) (t':=false) (o':=o2) rfl rfl F G I
  have C:A3 n1 s1+A3 n1 s2=if n1 then -((val s1.l+val s2.l:Nat):Int) else ((val s1.l+val s2.l:Nat):Int):=by
   unfold A3;cases n1<;>simp;omega
  obtain⟨c1,k⟩:=GQ C
  refine⟨S,a1,by rw[a2,k],fun K=>?_⟩
  rw[XX];unfold t_
  rw[Wd,Wd,show(n1==n1)=true by simp,ct,Wd,R4,R4,a3,Pt,c1,k]
 ·have D:(n1==n2)=false:=by simp[hn]
  by_cases L:val s2.l≤val s1.l
  ·obtain⟨S,a1,a2,a3⟩:=Aog (R:=R) (N:=N) (a:=s1.l) (b:=s2.l) (t:=false) (o:=o1) (t':=false) (o':=o2) rfl rfl F G (I.le (by omega)) L
   have C:A3 n1 s1+A3 n2 s2=if n1 then -((val s1.l - val s2.l:Nat):Int) else ((val s1.l - val s2.l:Nat):Int):=by
    unfold A3;cases n1<;>cases n2<;>simp at hn ⊢<;>omega
   obtain⟨c1,k⟩:=GQ C
   refine⟨S,a1,by rw[a2,k],fun K=>?_⟩
   rw[XX];unfold t_
   rw[Wd,Wd,D,cf,R4,R4,a3,ct,Wd,Pt,c1,k]
  ·obtain⟨S,a1,a2,a3⟩:=Aog (R:=R) (N:=N) (a:=s2.l) (b:=s1.l) (t:=false) (o:=o2) (t':=false) (o':=o1) rfl rfl G F (I.le (by omega)) (by omega)
   have C:A3 n1 s1+A3 n2 s2=if n2 then -((val s2.l - val s1.l:Nat):Int) else ((val s2.l - val s1.l:Nat):Int):=by
    unfold A3;cases n1<;>cases n2<;>simp at hn ⊢<;>omega
   obtain⟨c1,k⟩:=GQ C
   refine⟨S,a1,by rw[a2,k],fun K=>?_⟩
   rw[XX];unfold t_
   rw[Wd,Wd,D,cf,R4,R4,Bhj rfl rfl F G (I.le (by omega)) (by omega),cf,R4,R4,a3,Wd,Pt,c1,k]
theorem Bab {N:Nat} {n1:Bool} {s1:LS} {o1:Bool} {K:Bool→Nat→LA→O R} (k:Am s1.l) (C:fit s1.l.length N):tM N (Lt n1 s1) o1 K=K (decide (A3 n1 s1<0)) (As (A3 n1 s1).natAbs).length (Af (As (A3 n1 s1).natAbs)):=by
 obtain⟨c1,D⟩:=GQ (z:=A3 n1 s1) (c:=n1) (m:=val s1.l) (by unfold A3;cases n1<;>simp)
 rw[Abn];unfold Alk
 rw[Wd,R4,lE rfl k C,Pt,c1,D]
def u_ (x y:Int):Int:=if x<y then -1 else if y<x then 1 else 0
theorem Bhw (x y:Nat):u_ (x:Int) (y:Int)=Iy x y:=by unfold u_ Iy;simp
theorem Bhx (x y:Nat):u_ (-(x:Int)) (-(y:Int))=Iy y x:=by
 unfold u_ Iy
 by_cases h:y<x
 ·rw[if_pos (by omega),if_pos h]
 ·rw[if_neg (by omega),if_neg h]
  by_cases k:x<y
  ·rw[if_pos (by omega),if_pos k]
  ·rw[if_neg (by omega),if_neg k]
theorem Ath {N:Nat} {n1 n2:Bool} {s1 s2:LS} {o1 o2:Bool} {K:Int→O R} (D:Am s1.l) (F:Am s2.l) (C:fit (s1.l.length+s2.l.length) N):IE N (Lt n1 s1) o1 (Lt n2 s2) o2 K=K (u_ (A3 n1 s1) (A3 n2 s2)):=by
 rw[fw];unfold fv
 have l2:∀ n s,List.take 2 (Lt n s)=Lt n s:=fun n s=>rfl
 have l3:∀ n s,Nat.ble 2 (List.length (Lt n s))=true:=fun n s=>rfl
 rw[l2,l2,l3,l3,ct,rE D (C.le (by omega)),ct,rE F (C.le (by omega))]
 have sg:∀ z:Int,z.sign=if z<0 then -1 else if 0<z then 1 else 0:=by
  intro z
  rcases Int.lt_trichotomy z 0 with h | h | h
  ·rw[Int.sign_eq_neg_one_of_neg h,if_pos h]
  ·subst h;rfl
  ·rw[Int.sign_eq_one_of_pos h,if_neg (by omega),if_pos h]
 by_cases c1:(A3 n1 s1).sign<(A3 n2 s2).sign
 ·rw[decide_eq_true c1,ct]
  rw[sg,sg] at c1
  unfold u_;rw[if_pos]
  split at c1<;>split at c1<;>(try split at c1)<;>(try split at c1)<;>omega
 ·rw[decide_eq_false c1,cf]
  by_cases k:(A3 n1 s1).sign>(A3 n2 s2).sign
  ·rw[decide_eq_true k,ct]
   rw[sg,sg] at k
   unfold u_;rw[if_neg,if_pos]
   ·split at k<;>split at k<;>(try split at k)<;>(try split at k)<;>omega
   ·split at k<;>split at k<;>(try split at k)<;>(try split at k)<;>omega
  ·rw[decide_eq_false k,cf]
   have I:(A3 n1 s1).sign=(A3 n2 s2).sign:=by omega
   by_cases c3:(A3 n1 s1).sign<0
   ·rw[decide_eq_true c3,ct,R4,R4,U9 rfl rfl F D (C.le (by omega))]
    have p1:A3 n1 s1<0:=by rw[sg] at c3;split at c3;assumption;split at c3<;>omega
    have p2:A3 n2 s2<0:=by rw[I,sg] at c3;split at c3;assumption;split at c3<;>omega
    have e1:A3 n1 s1=-(val s1.l:Int):=by unfold A3 at p1 ⊢;cases n1<;>simp at p1 ⊢;omega
    have G:A3 n2 s2=-(val s2.l:Int):=by unfold A3 at p2 ⊢;cases n2<;>simp at p2 ⊢;omega
    rw[e1,G,Bhx]
   ·rw[decide_eq_false c3,cf,R4,R4,U9 rfl rfl D F (C.le (by omega))]
    have p1:0≤A3 n1 s1:=by
     apply Int.not_lt.1;intro h;rw[Int.sign_eq_neg_one_of_neg h] at c3;omega
    have p2:0≤A3 n2 s2:=by
     apply Int.not_lt.1;intro h;rw[I,Int.sign_eq_neg_one_of_neg h] at c3;omega
    have e1:A3 n1 s1=(val s1.l:Int):=by have:=Dc n1 s1;omega
    have G:A3 n2 s2=(val s2.l:Int):=by have:=Dc n2 s2;omega
    rw[e1,G,Bhw]
end
end Gx

namespace Gx
open Go Go.Proofs
section
variable {R:Type}
theorem Aok (z:Int) (d:Nat) (D:d≠0):(mkRat z d).num.natAbs=z.natAbs/Nat.gcd z.natAbs d∧((mkRat z d).num<0↔z<0)∧(mkRat z d).den=d/Nat.gcd z.natAbs d:=by
 have G:0<Nat.gcd z.natAbs d:=Nat.gcd_pos_of_pos_right _ (by omega)
 rw[Rat.num_mkRat,Rat.den_mkRat,if_neg D,if_neg D,Nat.gcd_comm d]
 have k:((Nat.gcd z.natAbs d:Nat):Int)∣z:=Int.dvd_natAbs.1 (Int.natCast_dvd_natCast.2 (Nat.gcd_dvd_left _ _))
 obtain⟨c,F⟩:=k
 have I:z.natAbs.gcd d=Nat.gcd z.natAbs d:=rfl
 generalize Nat.gcd z.natAbs d=g at *
 refine⟨?_,?_,rfl⟩
 ·rw[F,Int.mul_ediv_cancel_left _ (by omega),Int.natAbs_mul,Int.natAbs_natCast,Nat.mul_div_cancel_left _ G]
 ·rw[F,Int.mul_ediv_cancel_left _ (by omega)]
  constructor
  ·intro h;exact Int.mul_neg_of_pos_of_neg (by omega) h
  ·intro h;rcases Int.lt_or_le c 0 with C | C
   ·exact C
   ·have:=Int.mul_nonneg (show(0:Int)≤g by omega) C;omega
structure RatD where
 neg:Bool
 ns:LS
 ds:LS
def RatD.av (x:RatD):LA:=[.bool x.neg,x.ns.av,x.ds.av]
def RatD.ok (x:RatD):Prop:=Am x.ns.l∧Am x.ds.l
def RatD.m (x:RatD):Nat:=max x.ns.l.length x.ds.l.length
def RatD.q (x:RatD):Rat:=mkRat (A3 x.neg x.ns) (val x.ds.l)
def RatD.can (x:RatD) (q:Rat):Prop:=x.neg=decide (q.num<0)∧x.ns.l=As q.num.natAbs∧x.ds.l=As q.den
def qm (q:Rat):Nat:=max (As q.num.natAbs).length (As q.den).length
theorem RatD.can.ok {x:RatD} {q:Rat} (h:x.can q):x.ok:=⟨by rw[h.2.1];exact Ad _,by rw[h.2.2];exact Ad _⟩
theorem RatD.can.m {x:RatD} {q:Rat} (h:x.can q):x.m=qm q:=by unfold RatD.m qm;rw[h.2.1,h.2.2]
theorem RatD.can.q {x:RatD} {q:Rat} (h:x.can q):x.q=q:=by
 unfold RatD.q A3
 rw[h.1,h.2.1,h.2.2,Al,Al]
 have:(if decide (q.num<0)=true then -(q.num.natAbs:Int) else (q.num.natAbs:Int))=q.num:=by
  by_cases k:q.num<0
  ·rw[if_pos (by simpa using k)];omega
  ·rw[if_neg (by simpa using k)];omega
 rw[this,Rat.mkRat_self]
theorem Blt {x:RatD} {f:Bool→O R}:RW x.av f=f x.neg:=Bk1
theorem Bhy {x:RatD} {f:LA→Nat→O R}:B9 1 (List.drop 1 x.av) f=f (Af x.ns.l) x.ns.l.length:=by rw[RatD.av,List.drop_succ_cons,List.drop_zero,Baa]
theorem Aol {x:RatD} {f:LA→Nat→O R}:B9 1 (List.drop 2 x.av) f=f (Af x.ds.l) x.ds.l.length:=by rw[RatD.av,List.drop_succ_cons,List.drop_succ_cons,List.drop_zero,Baa]
theorem Jn (x:RatD):Nat.ble 3 (List.length x.av)=true:=rfl
theorem Ek (x:RatD):List.take 3 x.av=x.av:=rfl
theorem Bk2 (x:RatD):List.take 2 x.av=Lt x.neg x.ns:=rfl
theorem Bm3 (x:RatD):Nat.beq (List.length x.av) 3=true:=rfl
theorem o7 (n:Bool) (s:LS):((Nat.beq 0 0)&&((Nat.beq (List.length (Lt n s)) 2)&&(Nat.beq 2 2)))=true:=rfl
theorem rF (n:Bool) (s:LS):Nat.ble 2 (List.length (Lt n s))=true:=rfl
theorem Atf (n:Bool) (s:LS):List.take 2 (Lt n s)=Lt n s:=rfl
theorem Bhz:([.int .u32 1]:LA)=Af [1]:=rfl
theorem Bfr:Am [1]:=by intro x k;simp at k;omega
theorem FN:As 1=[1]:=by rw[WV (by omega)];simp[Ey]
theorem Fb {v:Nat} {S:List Nat} (k:Am S) (C:val S=v):List.take ((As v).length*1) (Af S)=Af (As v):=by rw[←C,Oa k]
theorem Bfs (neg:Bool) (l:List Nat) (t o:Bool):([.bool neg,.imm (Af l) l.length 1 t o]:LA)=Lt neg (.of l t o):=rfl
theorem Kr {z:Int} {t o:Bool}:A3 (decide (z<0)) (.of (As z.natAbs) t o)=z:=by
 unfold A3 LS.l;rw[Al]
 by_cases h:z<0
 ·rw[if_pos (by simpa using h)];omega
 ·rw[if_neg (by simpa using h)];omega
theorem Ati {N:Nat} {v:Int} (k:-9223372036854775808≤v∧v≤9223372036854775807) (hN:4≤N):∃ d:RatD,d.can (v:Rat)∧∀ K:LA→O R,Cb N v K=K d.av:=by
 obtain⟨S,s1,s2,C⟩:=Atg (R:=R) (N:=N) k hN
 refine⟨⟨decide (v<0),.of (As v.natAbs) false false,.of (As 1) false false⟩,⟨rfl,rfl,rfl⟩,fun K=>?_⟩
 rw[fk];unfold fj
 rw[C,Fb s1 s2,FN];rfl
theorem Pu {N:Nat} {x:RatD} {o:Bool} (C:x.ok) (G:fit x.m N):∃ (neg:Bool) (s:LS) (l:List Nat) (o1 o2:Bool),Am s.l∧Am l∧val l≠0∧s.l.length≤x.m∧l.length≤max x.m 1∧mkRat (A3 neg s) (val l)=x.q∧∀ K:LA→Bool→LA→Nat→Bool→O R,Nq N x.av o K=K (Lt neg s) o1 (Af l) l.length o2:=by
 have D:x.ns.l.length≤x.m:=Nat.le_max_left _ _
 have k:x.ds.l.length≤x.m:=Nat.le_max_right _ _
 by_cases F:val x.ds.l=0
 ·refine⟨false,.nil,[1],false,false,X2,Bfr,by decide,by simp[LS.l],by simp;omega,?_,fun K=>?_⟩
  ·unfold RatD.q;rw[F];simp[A3,LS.l,val]
  ·rw[XE];unfold ke
   rw[Aol,Aod rfl C.2 (G.le k),F,GO];rfl
 ·refine⟨x.neg,x.ns,x.ds.l,o,o,C.1,C.2,F,D,by omega,rfl,fun K=>?_⟩
  have:Iy (val x.ds.l) 0=1:=by unfold Iy;rw[if_neg (by omega),if_pos (by omega)]
  rw[XE];unfold ke
  rw[Aol,Aod rfl C.2 (G.le k),this,show((1:Int)==0)=false by rfl,cf,show Nat.ble 2 (List.length x.av)=true by rfl,ct,Aol,Bk2,o7,ct,rF,ct,Atf]
theorem Bm4 (z:Int) (d:Nat) (C:d≠0):(mkRat z d).num.sign=z.sign:=by
 obtain⟨F,D,_⟩:=Aok z d C
 rcases Int.lt_trichotomy z 0 with h | h | h
 ·rw[Int.sign_eq_neg_one_of_neg h,Int.sign_eq_neg_one_of_neg (D.2 h)]
 ·subst h;simp
 ·have hn:¬ (mkRat z d).num<0:=fun k=>by have:=D.1 k;omega
  have G:(mkRat z d).num≠0:=fun k=>by
   have:mkRat z d=0:=Rat.num_eq_zero.1 k
   rw[Rat.mkRat_eq_zero C] at this;omega
  rw[Int.sign_eq_one_of_pos h,Int.sign_eq_one_of_pos (by omega)]
theorem Mm {N:Nat} {x:RatD} {o:Bool} {K:Int→O R} (C:x.ok) (k:fit x.m N):Ti N x.av o K=K x.q.num.sign:=by
 obtain⟨neg,s,l,o1,o2,p1,p2,D,F,L,G,I⟩:=Pu (R:=R) (o:=o) C k
 rw[Aa5];unfold Akt
 rw[Jn,ct,Ek,I,o7,ct,rF,ct,Atf,rE p1 (k.le F),←G,Bm4 _ _ D]
theorem Kf {N:Nat} {x:RatD} {o:Bool} (C:x.ok) (D:fit x.m N):(∃ (n:Int) (d:Nat),-2147483648<n∧n<2147483648∧0<d∧d<2147483648∧mkRat n d=x.q∧∀ K:Int→Int→Bool→O R,Hb N x.av o K=K n (d:Int) true)∨(∀ K:Int→Int→Bool→O R,Hb N x.av o K=K 0 0 false):=by
 have F:x.ns.l.length≤x.m:=Nat.le_max_left _ _
 have k:x.ds.l.length≤x.m:=Nat.le_max_right _ _
 by_cases S:val x.ns.l<2147483648
 ·by_cases M:val x.ds.l<2147483648
  ·left
   have e:∀ K:Int→Int→Bool→O R,Hb N x.av o K=Gl N K (val x.ns.l:Int) (val x.ds.l:Int) o x.av false:=by
    intro K
    rw[FA];unfold GJ
    rw[Bhy,Ps rfl C.1 (D.le F),if_pos (by omega),Aol,Ps rfl C.2 (D.le k),if_pos (by omega)]
    rw[show((!true)==false)=true by rfl,ct,show((cond false true (!true))==false)=true by rfl,ct,show decide (((val x.ns.l:Nat):Int)≥2147483648)=false by rw[decide_eq_false_iff_not];omega,show((cond false true false)==false)=true by rfl,ct,show decide (((val x.ds.l:Nat):Int)≥2147483648)=false by rw[decide_eq_false_iff_not];omega]
    rfl
   by_cases I:val x.ds.l=0
   ·refine⟨0,1,by omega,by omega,by omega,by omega,by unfold RatD.q;rw[I];simp,fun K=>?_⟩
    rw[e];unfold Gl
    rw[cf,Bn6 I,ct];rfl
   ·have hn:=Dc x.neg x.ns
    refine⟨A3 x.neg x.ns,val x.ds.l,by omega,by omega,by omega,M,rfl,fun K=>?_⟩
    rw[e];unfold Gl
    rw[cf,Ate I,cf,Blt,i64 (a:=((val x.ns.l:Nat):Int)) (by omega),i64 (a:=((val x.ds.l:Nat):Int)) (by omega)]
    unfold A3
    cases x.neg
    ·rfl
    ·rw[ct,i64 (by omega),Int.zero_sub];rfl
  ·right
   intro K
   rw[FA];unfold GJ
   rw[Bhy,Ps rfl C.1 (D.le F),if_pos (by omega),Aol,Ps rfl C.2 (D.le k),show((!true)==false)=true by rfl]
   by_cases G:val x.ds.l<18446744073709551616
   ·rw[if_pos G,ct,show((cond false true (!true))==false)=true by rfl,ct,show decide (((val x.ns.l:Nat):Int)≥2147483648)=false by rw[decide_eq_false_iff_not];omega,show((cond false true false)==false)=true by rfl,ct,show decide (((val x.ds.l:Nat):Int)≥2147483648)=true by rw[decide_eq_true_eq];omega]
    unfold Gl;rfl
   ·rw[if_neg G,ct,show((cond false true (!false))==false)=false by rfl,cf]
    unfold Gl;rfl
 ·right
  intro K
  rw[FA];unfold GJ
  rw[Bhy,Ps rfl C.1 (D.le F)]
  by_cases G:val x.ns.l<18446744073709551616
  ·rw[if_pos G,Aol,Ps rfl C.2 (D.le k),show((!true)==false)=true by rfl,show decide (((val x.ns.l:Nat):Int)≥2147483648)=true by rw[decide_eq_true_eq];omega]
   by_cases L:val x.ds.l<18446744073709551616
   ·rw[if_pos L,ct,show((cond false true (!true))==false)=true by rfl,ct]
    unfold Gl;rfl
   ·rw[if_neg L,ct,show((cond false true (!false))==false)=false by rfl,cf]
    unfold Gl;rfl
  ·rw[if_neg G,Aol,Ps rfl C.2 (D.le k),show((!false)==false)=false by rfl]
   split<;>(rw[cf];unfold Gl;rfl)
theorem Axh {N:Nat} {a b c:Nat} {s:Int} (hN:4≤N) (S:a<18446744073709551616) (hb:b<9223372036854775808) (T:0<c) (U:c∣a):∀ (k fuel x y:Nat),k<fuel→x*y<2 ^ k→y≤x→Nat.gcd x y=c→∃ d:RatD,d.neg=decide (s<0)∧d.ns.l=As (a/c)∧d.ds.l=As (b/c)∧∀ K:LA→O R,Dx N K s (b:Int) (a:Int) fuel (x:Int) (y:Int)=K d.av:=by
 have base:∀ (fuel:Nat),∃ d:RatD,d.neg=decide (s<0)∧d.ns.l=As (a/c)∧d.ds.l=As (b/c)∧∀ K:LA→O R,Dx N K s (b:Int) (a:Int) (fuel+1) (c:Int) ((0:Nat):Int)=K d.av:=by
  intro fuel
  have L:a/c<18446744073709551616:=Nat.lt_of_le_of_lt (Nat.div_le_self _ _) S
  have M:b/c<18446744073709551616:=Nat.lt_of_le_of_lt (Nat.div_le_self _ _) (by omega)
  obtain⟨S1,s1,s2,V⟩:=Ml (R:=R) (N:=N) L hN
  obtain⟨S2,t1,t2,t3⟩:=Ml (R:=R) (N:=N) M hN
  refine⟨⟨decide (s<0),.of (As (a/c)) false false,.of (As (b/c)) false false⟩,rfl,rfl,rfl,fun K=>?_⟩
  rw[Dx];unfold Nt
  rw[show(((0:Nat):Int) != 0)=false by rfl,cf,Ate (by omega),cf,o0,J5 L,V,cf,J5 (show b<18446744073709551616 by omega),o0,J5 M,t3,Fb s1 s2,Fb t1 t2];rfl
 intro k
 induction k with
 | zero =>
  intro fuel x y Y C G D
  obtain⟨fuel,rfl⟩:∃ F,fuel=F+1:=⟨fuel - 1,by omega⟩
  have hy:y=0:=by
   rcases Nat.eq_zero_or_pos y with h | h
   ·exact h
   ·have h3:=Nat.mul_le_mul_left x (show 1≤y by omega)
    rw[Nat.pow_zero] at C;omega
  subst hy
  rw[Nat.gcd_zero_right] at D;subst D
  exact base fuel
 | succ k ih =>
  intro fuel x y Y C G D
  obtain⟨fuel,rfl⟩:∃ F,fuel=F+1:=⟨fuel - 1,by omega⟩
  rcases Nat.eq_zero_or_pos y with h | h
  ·subst h;rw[Nat.gcd_zero_right] at D;subst D;exact base fuel
  ·have hh:=iU (show 1≤y by omega) G
   have hm:=Nat.mod_lt x h
   have I:Nat.gcd y (x%y)=Nat.gcd x y:=by rw[Nat.gcd_comm,←Nat.gcd_rec,Nat.gcd_comm]
   obtain⟨d,d1,d2,d3,d4⟩:=ih fuel y (x%y) (by omega) (by rw[Nat.pow_succ] at C;omega) (by omega) (by rw[I,D])
   refine⟨d,d1,d2,d3,fun K=>?_⟩
   rw[Dx];unfold Nt
   rw[show((y:Int) != 0)=true by rw[bne_iff_ne];omega,ct,Ate (by omega),cf,iR]
   exact d4 K
theorem QP {N:Nat} {s:Int} {b:Nat} (hs:-9223372036854775808≤s∧s≤9223372036854775807) (G:0<b) (U:b<9223372036854775808) (hN:1000≤N):∃ d:RatD,d.can (mkRat s b)∧∀ K:LA→O R,Jj N s (b:Int) K=K d.av:=by
 obtain⟨m1,m2,m3⟩:=Aok s b (by omega)
 have k:∀ d:RatD,d.neg=decide (s<0)→d.ns.l=As (s.natAbs/Nat.gcd s.natAbs b)→d.ds.l=As (b/Nat.gcd s.natAbs b)→d.can (mkRat s b):=by
  intro d V Y h3
  exact⟨by rw[V];congr 1;exact propext m2.symm,by rw[Y,m1],by rw[h3,m3]⟩
 have D:s.natAbs<18446744073709551616:=by omega
 have start:∀ K:LA→O R,Jj N s (b:Int) K=Dx N K s (b:Int) (s.natAbs:Int) N (b:Int) (s.natAbs:Int):=by
  intro K
  rw[bC];unfold FB Vy CH
  dsimp only
  by_cases h:s<0
  ·have e:IntKind.wrap .u64 ((0:Int) - IntKind.wrap .u64 s)=(s.natAbs:Int):=by rw[qC,qC];omega
   rw[decide_eq_true h,ct,e,J5 (by omega)]
  ·have e:IntKind.wrap .u64 s=(s.natAbs:Int):=by rw[qC];omega
   rw[decide_eq_false h,cf,e,J5 (by omega)]
 have C:0<Nat.gcd s.natAbs b:=Nat.gcd_pos_of_pos_right _ G
 by_cases I:s.natAbs≤b
 ·obtain⟨d,L,M,S,T⟩:=Axh (R:=R) (N:=N) (a:=s.natAbs) (b:=b) (c:=Nat.gcd s.natAbs b) (s:=s) (by omega) D U C (Nat.gcd_dvd_left _ _) 128 N b s.natAbs (by omega) (by
   have:=Nat.mul_lt_mul'' (show b<18446744073709551616 by omega) D;exact this) I (Nat.gcd_comm _ _)
  exact⟨d,k d L M S,fun K=>by rw[start,T]⟩
 ·obtain⟨F,hF⟩:∃ F,N=F+1:=⟨N - 1,by omega⟩
  obtain⟨d,L,M,S,T⟩:=Axh (R:=R) (N:=N) (a:=s.natAbs) (b:=b) (c:=Nat.gcd s.natAbs b) (s:=s) (by omega) D U C (Nat.gcd_dvd_left _ _) 128 F s.natAbs (b%s.natAbs) (by omega) (by
   rw[Nat.mod_eq_of_lt (by omega)]
   have:=Nat.mul_lt_mul'' D (show b<18446744073709551616 by omega);exact this) (by rw[Nat.mod_eq_of_lt (by omega)];omega) (by rw[Nat.mod_eq_of_lt (by omega)])
  refine⟨d,k d L M S,fun K=>?_⟩
  rw[start,←T K]
  conv=>lhs;rw[show(Dx N K s (b:Int) (s.natAbs:Int) N)=Dx N K s (b:Int) (s.natAbs:Int) (F+1) by rw[←hF]]
  rw[Dx];unfold Nt
  rw[show(((s.natAbs:Nat):Int) != 0)=true by rw[bne_iff_ne];omega,ct,Ate (by omega),cf,iR]
end
end Gx

namespace Gx
open Go Go.Proofs
section
variable {R:Type}
theorem Bjk {S:List Nat} {g:Nat} (D:Am S) (F:val S=g) (C:(As g).length=1) {f:Int→O R}:Ao .u32 (Af S) f=f (g:Int):=by
 have G:=(B0 D).2
 rw[F,C] at G
 have k:=A4y D
 rw[F,C] at k
 obtain⟨a,I⟩:∃ a,As g=[a]:=by
  match h:As g,C with
  | [a],_=>exact⟨a,rfl⟩
 have L:a=g:=by have:=Al g;rw[I] at this;simpa[val] using this
 rw[I,L] at k
 match S,G,k with
 | x::r,_,k =>
  simp at k;subst k
  rw[GE,A1]
theorem OE {N:Nat} {neg:Bool} {s:LS} {l:List Nat} {n:Nat} {o t o':Bool} (hn:n=l.length) (hs:Am s.l) (V:Am l) (F:val l≠0) (C:fit (2*(s.l.length+l.length)+8) N) :
  ∃ d:RatD,d.can (mkRat (A3 neg s) (val l))∧∀ K:LA→O R,Q5 N (Lt neg s) o (Af l) n t o' K=K d.av:=by
 obtain⟨m1,m2,m3⟩:=Aok (A3 neg s) (val l) F
 have I:=Dc neg s
 have ls:=(B0 hs).2
 have ll:=(B0 V).2
 generalize hz:A3 neg s=z at *
 have start:∀ K:LA→O R,Q5 N (Lt neg s) o (Af l) n t o' K=cond ((((As z.natAbs).length:Nat):Int)==(0:Int)) (K [(.bool false),.nsl,(.imm [(.int .u32 1)] 1 1 false false)]) (gY N (Af (As z.natAbs)) (As z.natAbs).length false true (Af (As (val l))) (As (val l)).length false true (fun f g=>(cond ((((f:Nat):Int) != (1:Int))==false) (cond (Ac (0:Int) f) (Ao .u32 g fun y=>(cond (cond false true (y != (1:Int))) (F0 N (Af (As z.natAbs)) (As z.natAbs).length false true (List.take (f*1) g) f false true (fun p ae af z2 ag=>(F0 N (Af (As (val l))) (As (val l)).length false true (List.take (f*1) g) f false true (fun q ah ai aa aj=>(K [(.bool (decide (z<0))),(.imm (List.take (p*1) z2) p 1 false false),(.imm (List.take (q*1) aa) q 1 false false)]))))) (K [(.bool (decide (z<0))),(.imm (Af (As z.natAbs)) (As z.natAbs).length 1 false false),(.imm (Af (As (val l))) (As (val l)).length 1 false false)]))) none) (F0 N (Af (As z.natAbs)) (As z.natAbs).length false true (List.take (f*1) g) f false true (fun r ak al ab am=>(F0 N (Af (As (val l))) (As (val l)).length false true (List.take (f*1) g) f false true (fun s an ao ac ap=>(K [(.bool (decide (z<0))),(.imm (List.take (r*1) ab) r 1 false false),(.imm (List.take (s*1) ac) s 1 false false)])))))))):=by
  intro K
  rw[ni];unfold qo
  have tk:∀ v:Nat,List.take ((As v).length*1) (Af (As v))=Af (As v):=fun v=>Fb (Ad _) (Al v)
  rw[Wd,R4,show Nat.beq (List.length (Lt neg s)) 2=true by rfl,ct,Bfs,Bab (s1:=.of s.l false o) hs (C.le (by simp[LS.l];omega)),show A3 neg (.of s.l false o)=z by rw[←hz];rfl,lE hn V (C.le (by omega)),tk,tk]
 by_cases Y:z=0
 ·refine⟨⟨false,.nil,.of [1] false false⟩,?_,fun K=>?_⟩
  ·rw[Y];simp only[Rat.zero_mkRat]
   exact⟨rfl,rfl,FN.symm⟩
  ·rw[start,Y];rfl
 ·have L:z.natAbs≠0:=by omega
  have D:(As z.natAbs).length≠0:=fun h=>L (B5.1 h)
  have hg0:0<Nat.gcd z.natAbs (val l):=Nat.gcd_pos_of_pos_right _ (by omega)
  have lz:(As z.natAbs).length≤s.l.length:=by rw[I];exact ls
  obtain⟨G,g1,M,g3⟩:=Bht (R:=R) (N:=N) (a:=As z.natAbs) (b:=As (val l)) (t:=false) (o:=true) (t':=false) (o':=true) rfl rfl (Ad _) (Ad _) (C.le (by omega))
  rw[Al,Al] at M g3
  have lg:(As (Nat.gcd z.natAbs (val l))).length≤l.length:=Nat.le_trans (Cj (Nat.gcd_le_right _ (by omega))) ll
  obtain⟨Q1,R1,a1,a2,a3,a4,a5⟩:=iT (R:=R) (N:=N) (a:=As z.natAbs) (b:=As (Nat.gcd z.natAbs (val l))) (t:=false) (o:=true) (t':=false) (o':=true) rfl rfl (Ad _) (Ad _) (by rw[Al];omega) (C.le (by omega))
  obtain⟨Q2,R2,b1,S,b3,b4,T⟩:=iT (R:=R) (N:=N) (a:=As (val l)) (b:=As (Nat.gcd z.natAbs (val l))) (t:=false) (o:=true) (t':=false) (o':=true) rfl rfl (Ad _) (Ad _) (by rw[Al];omega) (C.le (by omega))
  rw[Al,Al] at a2 a5 S T
  have U:decide (z<0)=decide ((mkRat z (val l)).num<0):=by congr 1;exact propext m2.symm
  refine⟨⟨decide (z<0),.of (As (z.natAbs/Nat.gcd z.natAbs (val l))) false false,.of (As (val l/Nat.gcd z.natAbs (val l))) false false⟩,⟨U,by rw[m1];rfl,by rw[m3];rfl⟩,fun K=>?_⟩
  rw[start,Ate D,cf,g3,Fb g1 M]
  by_cases k:(As (Nat.gcd z.natAbs (val l))).length=1
  ·rw[show((((((As (Nat.gcd z.natAbs (val l))).length:Nat):Int) != (1:Int))==false))=true by rw[k];rfl,ct,show Ac 0 (As (Nat.gcd z.natAbs (val l))).length=true by rw[k];rfl,ct,Bjk g1 M k]
   by_cases he:Nat.gcd z.natAbs (val l)=1
   ·rw[he,show(cond false true (((1:Nat):Int) != 1))=false by rfl,cf,Nat.div_one,Nat.div_one];rfl
   ·rw[show(cond false true (((Nat.gcd z.natAbs (val l):Nat):Int) != 1))=true by (show(((Nat.gcd z.natAbs (val l):Nat):Int) != 1)=true;rw[bne_iff_ne];omega),ct,a5,T,Fb a1 a2,Fb b1 S];rfl
  ·rw[show((((((As (Nat.gcd z.natAbs (val l))).length:Nat):Int) != (1:Int))==false))=false by (rw[show((((As (Nat.gcd z.natAbs (val l))).length:Nat):Int) != (1:Int))=true by rw[bne_iff_ne];omega];rfl),cf,a5,T,Fb a1 a2,Fb b1 S];rfl
theorem YX {N:Nat} {x:RatD} {o:Bool} (D:x.ok) (k:fit (4*x.m+10) N):∃ d:RatD,d.can x.q∧∀ K:LA→O R,NL N x.av o K=K d.av:=by
 have M:=k.1
 rcases Kf (R:=R) (N:=N) (o:=o) D (k.le (by omega)) with⟨n,d,n1,n2,F,S,e,hK⟩ | hK
 ·obtain⟨c,c1,C⟩:=QP (R:=R) (N:=N) (s:=n) (b:=d) (by omega) F (by omega) (by omega)
  rw[e] at c1
  refine⟨c,c1,fun K=>?_⟩
  rw[gZ];unfold t7
  rw[Jn,ct,Ek,hK,ct,C];rfl
 ·obtain⟨neg,s,l,o1,o2,p1,p2,G,T,U,I,L⟩:=Pu (R:=R) (N:=N) (o:=o) D (k.le (by omega))
  obtain⟨c,c1,C⟩:=OE (R:=R) (N:=N) (neg:=neg) (s:=s) (l:=l) (n:=l.length) (o:=o1) (t:=false) (o':=o2) rfl p1 p2 G (k.le (by omega))
  rw[I] at c1
  refine⟨c,c1,fun K=>?_⟩
  rw[gZ];unfold t7
  rw[Jn,ct,Ek,hK,cf,ct,L,C];rfl
def JO (x y:Rat):Int:=if x<y then -1 else if y<x then 1 else 0
theorem Bcn {d:Nat} (h:0<d):(0:Rat)<(d:Rat):=Rat.natCast_pos.2 h
theorem Bco {a c:Int} {b d:Nat} (k:0<b) (C:0<d):mkRat a b<mkRat c d↔a*d<c*b:=by
 rw[Rat.mkRat_eq_div,Rat.mkRat_eq_div,Rat.div_lt_iff (Bcn k)]
 have e:(c:Rat)/(d:Rat)*(b:Rat)=(c*b:Rat)/(d:Rat):=by rw[Rat.div_def,Rat.div_def,Rat.mul_assoc,Rat.mul_assoc,Rat.mul_comm (d:Rat)⁻¹]
 rw[e,Rat.lt_div_iff (Bcn C)]
 have e1:(a:Rat)*(d:Rat)=((a*d:Int):Rat):=by rw[Rat.intCast_mul];rfl
 have D:(c:Rat)*(b:Rat)=((c*b:Int):Rat):=by rw[Rat.intCast_mul];rfl
 rw[e1,D,Rat.intCast_lt_intCast]
theorem Bcp {a c:Int} {b d:Nat} (k:0<b) (C:0<d):JO (mkRat a b) (mkRat c d)=u_ (a*d) (c*b):=by
 unfold JO u_
 by_cases h:a*d<c*b
 ·rw[if_pos h,if_pos ((Bco k C).2 h)]
 ·rw[if_neg h,if_neg (fun F=>h ((Bco k C).1 F))]
  by_cases D:c*b<a*d
  ·rw[if_pos D,if_pos ((Bco C k).2 D)]
  ·rw[if_neg D,if_neg (fun F=>D ((Bco C k).1 F))]
theorem A5s {N:Nat} {a b:Int} {K:Int→O R}:Nr N a b K=K (u_ a b):=by
 rw[CX];unfold X7
 simp only[MR];unfold HX
 rw[show(a != a)=false by simp,show(b != b)=false by simp]
 dsimp only
 rw[cf,cf]
 unfold u_
 by_cases h:a<b
 ·rw[decide_eq_true h,ct,if_pos h]
 ·rw[decide_eq_false h,cf,if_neg h]
  by_cases k:b<a
  ·rw[decide_eq_true (show a>b from k),ct,if_pos k]
  ·rw[decide_eq_false (show ¬ a>b from k),cf,if_neg k]
theorem Atj {N:Nat} {a b:Int} {K:Int→O R}:Ji N a b K=K (u_ a b):=by
 rw[Xc];unfold T7
 simp only[CZ];unfold X8
 rw[show(a != a)=false by simp,show(b != b)=false by simp]
 dsimp only
 rw[cf,cf]
 unfold u_
 by_cases h:a<b
 ·rw[decide_eq_true h,ct,if_pos h]
 ·rw[decide_eq_false h,cf,if_neg h]
  by_cases k:b<a
  ·rw[decide_eq_true (show a>b from k),ct,if_pos k]
  ·rw[decide_eq_false (show ¬ a>b from k),cf,if_neg k]
theorem Bh0 {p q:Rat} (h:p.num.sign<q.num.sign):p<q:=by
 rw[Rat.lt_iff]
 have D:=p.den_pos;have hq:=q.den_pos
 rcases Int.lt_trichotomy p.num 0 with k | k | k
 ·rcases Int.lt_or_le q.num 0 with C | C
  ·rw[Int.sign_eq_neg_one_of_neg k,Int.sign_eq_neg_one_of_neg C] at h;omega
  ·have x1:p.num*q.den<0:=Int.mul_neg_of_neg_of_pos k (by omega)
   have x2:0≤q.num*p.den:=Int.mul_nonneg C (by omega)
   omega
 ·rw[k] at h ⊢
  have:0<q.num:=by simpa using h
  have x2:0<q.num*p.den:=Int.mul_pos this (by omega)
  rw[Int.zero_mul];exact x2
 ·rw[Int.sign_eq_one_of_pos k] at h
  have:=Int.sign_trichotomy q.num
  omega
theorem YY {a b:Int} (C:-2147483648<a∧a<2147483648) (D:-2147483648<b∧b<2147483648):-4611686018427387904<a*b∧a*b<4611686018427387904:=by
 have k:a.natAbs*b.natAbs≤2147483647*2147483647:=Nat.mul_le_mul (by omega) (by omega)
 rw[←Int.natAbs_mul] at k
 omega
theorem QQ {N:Nat} {x y:RatD} {o o':Bool} {K:Int→O R} (M:x.ok) (G:y.ok) (k:fit (4*(x.m+y.m)+10) N):Fx N x.av o y.av o' K=K (JO x.q y.q):=by
 have h1:=k.1
 rw[fy];unfold MY
 rw[Jn,ct,Ek,Mm M (k.le (by omega)),Jn,ct,Ek,Mm G (k.le (by omega))]
 by_cases hs:x.q.num.sign=y.q.num.sign
 ·rw[show(x.q.num.sign != y.q.num.sign)=false by simp[hs],cf,ct]
  have gen:Sj N K o x.av o' y.av=K (JO x.q y.q):=by
   obtain⟨n1,s1,l1,a1,I,p1,p2,p3,p4,p5,p6,p7⟩:=Pu (R:=R) (N:=N) (o:=o) M (k.le (by omega))
   obtain⟨n2,s2,l2,a2,L,T,U,q3,q4,q5,q6,q7⟩:=Pu (R:=R) (N:=N) (o:=o') G (k.le (by omega))
   obtain⟨S1,t1,t2,t3⟩:=TT (R:=R) (N:=N) (n1:=n1) (n2:=false) (s1:=s1) (s2:=.of l2 false L) (o1:=a1) (o2:=(L||false)) p1 U (k.le (show s1.l.length+l2.length≤_ by omega))
   obtain⟨S2,u1,u2,u3⟩:=TT (R:=R) (N:=N) (n1:=n2) (n2:=false) (s1:=s2) (s2:=.of l1 false I) (o1:=a2) (o2:=(I||false)) T p2 (k.le (show s2.l.length+l1.length≤_ by omega))
   have v1:A3 false (.of l2 false L)=(val l2:Int):=rfl
   have v2:A3 false (.of l1 false I)=(val l1:Int):=rfl
   rw[v1] at t2 t3;rw[v2] at u2 u3
   have l1':(As (A3 n1 s1*(val l2:Int)).natAbs).length≤x.m+max y.m 1:=Nat.le_trans (Dv (by
    rw[Int.natAbs_mul,Dc,Int.natAbs_natCast,Nat.pow_add]
    exact Nat.mul_lt_mul'' (Nat.lt_of_lt_of_le (Bq p1) (Nat.pow_le_pow_right (by omega) p4)) (Nat.lt_of_lt_of_le (Bq U) (Nat.pow_le_pow_right (by omega) q5)))) (Nat.le_refl _)
   have l2':(As (A3 n2 s2*(val l1:Int)).natAbs).length≤y.m+max x.m 1:=Nat.le_trans (Dv (by
    rw[Int.natAbs_mul,Dc,Int.natAbs_natCast,Nat.pow_add]
    exact Nat.mul_lt_mul'' (Nat.lt_of_lt_of_le (Bq T) (Nat.pow_le_pow_right (by omega) q4)) (Nat.lt_of_lt_of_le (Bq p2) (Nat.pow_le_pow_right (by omega) p5)))) (Nat.le_refl _)
   unfold Sj
   rw[Jn,ct,Ek,p7,o7,ct,Jn,ct,Ek,q7,o7,ct,rF,ct,Atf,Bfs,t3,rF,ct,Atf,Bfs,u3,Fb t1 t2,Fb u1 u2,Bfs,Bfs,Ath (s1:=.of (As (A3 n1 s1*(val l2:Int)).natAbs) false true) (s2:=.of (As (A3 n2 s2*(val l1:Int)).natAbs) false true) (Ad _) (Ad _) (k.le (show(As (A3 n1 s1*(val l2:Int)).natAbs).length+(As (A3 n2 s2*(val l1:Int)).natAbs).length≤_ by omega)),Kr,Kr,←p6,←q6,Bcp (by omega) (by omega)]
  rcases Kf (R:=R) (N:=N) (o:=o) M (k.le (by omega)) with⟨n,d,n1,n2,d1,d2,e,hK⟩ | hK
  ·rcases Kf (R:=R) (N:=N) (o:=o') G (k.le (by omega)) with⟨V,d',C,D,F,S,e',hK'⟩ | hK'
   ·have I:=YY (a:=n) (b:=(d':Int)) ⟨n1,n2⟩ (by omega)
    have L:=YY (a:=V) (b:=(d:Int)) ⟨C,D⟩ (by omega)
    rw[hK,ct,hK',show((true:Bool)==true)=true by rfl,ct,A25,ct,Atj,i64 (by omega),i64 (by omega),←e,←e',Bcp d1 F]
   ·rw[hK,ct,hK',show((true:Bool)==true)=true by rfl,ct,A25,cf,gen]
  ·rcases Kf (R:=R) (N:=N) (o:=o') G (k.le (by omega)) with⟨V,d',C,D,F,S,e',hK'⟩ | hK'
   ·rw[hK,ct,hK',show((false:Bool)==true)=false by rfl,cf,gen]
   ·rw[hK,ct,hK',show((false:Bool)==true)=false by rfl,cf,gen]
 ·rw[show(x.q.num.sign != y.q.num.sign)=true by simp[hs],ct,A5s]
  congr 1
  unfold u_ JO
  by_cases h:x.q.num.sign<y.q.num.sign
  ·rw[if_pos h,if_pos (Bh0 h)]
  ·have Y:y.q.num.sign<x.q.num.sign:=by omega
   have:=Bh0 Y
   rw[if_neg h,if_pos Y,if_neg (fun hh=>absurd (Rat.le_of_lt this) (Rat.not_le.2 hh)),if_pos this]
end
end Gx

namespace Gx
open Go Go.Proofs
section
variable {R:Type}
theorem A5t {q:Rat} (h:q.num.sign=0):q=0:=Rat.num_eq_zero.1 (Int.sign_eq_zero_iff_zero.1 h)
theorem Li {a b:Int} {k l:Nat} (C:a.natAbs<4294967296 ^ k) (D:b.natAbs<4294967296 ^ l):(a*b).natAbs<4294967296 ^ (k+l):=by
 rw[Int.natAbs_mul,Nat.pow_add];exact Nat.mul_lt_mul'' C D
theorem ua {a b:Int} {k:Nat} (C:a.natAbs<4294967296 ^ k) (D:b.natAbs<4294967296 ^ k):(a+b).natAbs<4294967296 ^ (k+1):=by
 rw[Nat.pow_succ];omega
theorem Ij {k l:Nat} (h:k≤l):4294967296 ^ k≤4294967296 ^ l:=Nat.pow_le_pow_right (by omega) h
theorem Bh1 {v k:Nat} (h:(As v).length≤k):v<4294967296 ^ k:=by
 have:=Bq (Ad v);rw[Al] at this
 exact Nat.lt_of_lt_of_le this (Ij h)
theorem A5u (p r:Int) (d:Nat) (k:d≠0):mkRat (p+r) d=mkRat p d+mkRat r d:=by
 rw[Rat.mkRat_add_mkRat _ _ k k,←Int.add_mul]
 exact(Rat.mkRat_mul_right k).symm
theorem Bjl {N:Nat} {x y:RatD} {o o':Bool} (hx:x.ok) (hy:y.ok) (C:fit (8*(x.m+y.m)+40) N):∃ d:RatD,d.can (x.q+y.q)∧∀ K:LA→O R,TJ N K o x.av o' y.av=K d.av:=by
 obtain⟨n1,s1,l1,a1,D,p1,p2,G,p4,p5,T,U⟩:=Pu (R:=R) (N:=N) (o:=o) hx (C.le (by omega))
 obtain⟨n2,s2,l2,a2,I,L,F,V,q4,q5,Y,q7⟩:=Pu (R:=R) (N:=N) (o:=o') hy (C.le (by omega))
 have zl1:(A3 n1 s1).natAbs<4294967296 ^ x.m:=by rw[Dc];exact Nat.lt_of_lt_of_le (Bq p1) (Ij p4)
 have zl2:(A3 n2 s2).natAbs<4294967296 ^ y.m:=by rw[Dc];exact Nat.lt_of_lt_of_le (Bq L) (Ij q4)
 have dl1:((val l1:Nat):Int).natAbs<4294967296 ^ (x.m+1):=by rw[Int.natAbs_natCast];exact Nat.lt_of_lt_of_le (Bq p2) (Ij (by omega))
 have dl2:((val l2:Nat):Int).natAbs<4294967296 ^ (y.m+1):=by rw[Int.natAbs_natCast];exact Nat.lt_of_lt_of_le (Bq F) (Ij (by omega))
 by_cases he:val l1=val l2
 ·obtain⟨S,t1,t2,t3⟩:=Axg (R:=R) (N:=N) (n1:=n1) (n2:=n2) (s1:=s1) (s2:=s2) (o1:=a1) (o2:=a2) p1 L (C.le (by omega))
  have lz:(As (A3 n1 s1+A3 n2 s2).natAbs).length≤x.m+y.m+1:=Dv (ua (k:=x.m+y.m) (Nat.lt_of_lt_of_le zl1 (Ij (by omega))) (Nat.lt_of_lt_of_le zl2 (Ij (by omega))))
  obtain⟨c,c1,M⟩:=OE (R:=R) (N:=N) (neg:=decide (A3 n1 s1+A3 n2 s2<0)) (s:=.of (As (A3 n1 s1+A3 n2 s2).natAbs) false true) (l:=l1) (n:=l1.length) (o:=true) (t:=false) (o':=D) rfl (Ad _) p2 G (C.le (show 2*((As (A3 n1 s1+A3 n2 s2).natAbs).length+l1.length)+8≤_ by omega))
  rw[Kr,A5u _ _ _ G,T] at c1
  rw[show mkRat (A3 n2 s2) (val l1)=y.q by rw[he,Y]] at c1
  refine⟨c,c1,fun K=>?_⟩
  unfold TJ
  rw[Jn,ct,Ek,U,o7,ct,Jn,ct,Ek,q7,o7,ct,U9 rfl rfl p2 F (C.le (by omega)),he,GO,show((0:Int)==0)=true by rfl,ct,rF,ct,rF,ct,Atf,Atf,t3,Fb t1 t2,Bfs,M];rfl
 ·obtain⟨S1,t1,t2,t3⟩:=TT (R:=R) (N:=N) (n1:=n1) (n2:=false) (s1:=s1) (s2:=.of l2 false I) (o1:=a1) (o2:=(I||false)) p1 F (C.le (show s1.l.length+l2.length≤_ by omega))
  obtain⟨S2,u1,u2,u3⟩:=TT (R:=R) (N:=N) (n1:=n2) (n2:=false) (s1:=s2) (s2:=.of l1 false D) (o1:=a2) (o2:=(D||false)) L p2 (C.le (show s2.l.length+l1.length≤_ by omega))
  rw[show A3 false (.of l2 false I)=(val l2:Int) by rfl] at t2 t3
  rw[show A3 false (.of l1 false D)=(val l1:Int) by rfl] at u2 u3
  have z1:=Li zl1 dl2
  have z2:=Li zl2 dl1
  have L1:=Dv z1
  have L2:=Dv z2
  obtain⟨S3,w1,w2,w3⟩:=Axg (R:=R) (N:=N) (n1:=decide (A3 n1 s1*(val l2:Int)<0)) (n2:=decide (A3 n2 s2*(val l1:Int)<0)) (s1:=.of (As (A3 n1 s1*(val l2:Int)).natAbs) false true) (s2:=.of (As (A3 n2 s2*(val l1:Int)).natAbs) false true) (o1:=true) (o2:=true) (Ad _) (Ad _) (C.le (show(As (A3 n1 s1*(val l2:Int)).natAbs).length+(As (A3 n2 s2*(val l1:Int)).natAbs).length+1≤_ by omega))
  rw[Kr,Kr] at w2 w3
  obtain⟨S4,v1,v2,v3⟩:=iQ (R:=R) (N:=N) (a:=l1) (b:=l2) (t:=false) (o:=D) (t':=false) (o':=I) rfl rfl p2 F (C.le (by omega))
  have z3:=ua (k:=x.m+y.m+1) (Nat.lt_of_lt_of_le z1 (Ij (by omega))) (Nat.lt_of_lt_of_le z2 (Ij (by omega)))
  have L3:=Dv z3
  have z4:val l1*val l2<4294967296 ^ (x.m+1+(y.m+1)):=by
   have:=Li dl1 dl2;rw[Int.natAbs_mul,Int.natAbs_natCast,Int.natAbs_natCast] at this;exact this
  have L4:=Dv z4
  obtain⟨c,c1,M⟩:=OE (R:=R) (N:=N) (neg:=decide (A3 n1 s1*(val l2:Int)+A3 n2 s2*(val l1:Int)<0)) (s:=.of (As (A3 n1 s1*(val l2:Int)+A3 n2 s2*(val l1:Int)).natAbs) false true) (l:=As (val l1*val l2)) (n:=(As (val l1*val l2)).length) (o:=true) (t:=false) (o':=true) rfl (Ad _) (Ad _) (by rw[Al];exact Nat.mul_ne_zero G V) (C.le (show 2*((As (A3 n1 s1*(val l2:Int)+A3 n2 s2*(val l1:Int)).natAbs).length+(As (val l1*val l2)).length)+8≤_ by omega))
  rw[Kr,Al,←Rat.mkRat_add_mkRat _ _ G V,T,Y] at c1
  refine⟨c,c1,fun K=>?_⟩
  unfold TJ
  have hc:(Iy (val l1) (val l2)==0)=false:=by
   rw[beq_eq_false_iff_ne];unfold Iy;split
   ·omega
   ·rw[if_pos (by omega)];omega
  rw[Jn,ct,Ek,U,o7,ct,Jn,ct,Ek,q7,o7,ct,U9 rfl rfl p2 F (C.le (by omega)),hc,cf,rF,ct,Atf,Bfs,t3,rF,ct,Atf,Bfs,u3,Fb t1 t2,Fb u1 u2,Bfs,Bfs,w3,v3,Fb w1 w2,Fb v1 v2,Bfs,M];rfl
theorem yX {N:Nat} {x y:RatD} {o o':Bool} (D:x.ok) (F:y.ok) (k:fit (8*(x.m+y.m)+40) N):∃ d:RatD,d.can (x.q+y.q)∧∀ K:LA→O R,Ok N x.av o y.av o' K=K d.av:=by
 have h1:=k.1
 by_cases T:x.q.num.sign=0
 ·obtain⟨c,c1,C⟩:=YX (R:=R) (N:=N) (o:=o') F (k.le (by omega))
  refine⟨c,by rw[A5t T,Rat.zero_add];exact c1,fun K=>?_⟩
  rw[XZ];unfold ku
  rw[Jn,ct,Ek,Mm D (k.le (by omega)),T,show((0:Int)==0)=true by rfl,ct,Jn,ct,Ek,C];rfl
 ·have G:(x.q.num.sign==0)=false:=by rw[beq_eq_false_iff_ne];exact T
  by_cases U:y.q.num.sign=0
  ·obtain⟨c,c1,C⟩:=YX (R:=R) (N:=N) (o:=o) D (k.le (by omega))
   refine⟨c,by rw[A5t U,Rat.add_zero];exact c1,fun K=>?_⟩
   rw[XZ];unfold ku
   rw[Jn,ct,Ek,Mm D (k.le (by omega)),G,cf,Jn,ct,Ek,Mm F (k.le (by omega)),U,show((0:Int)==0)=true by rfl,ct,ct,C];rfl
  ·have V:(y.q.num.sign==0)=false:=by rw[beq_eq_false_iff_ne];exact U
   have start:∀ K:LA→O R,Ok N x.av o y.av o' K=Hb N x.av o (fun g e aw=>Hb N y.av o' (fun i f ax=>(cond (aw==true) (Uz N K g e i f o x.av o' y.av (cond true ax false)) (Uz N K g e i f o x.av o' y.av false)))):=by
    intro K
    rw[XZ];unfold ku
    rw[Jn,ct,Ek,Mm D (k.le (by omega)),G,cf,Jn,ct,Ek,Mm F (k.le (by omega)),V,cf,ct];rfl
   have gen:∃ d:RatD,d.can (x.q+y.q)∧∀ (K:LA→O R) (g e i f:Int),Uz N K g e i f o x.av o' y.av false=K d.av:=by
    obtain⟨c,c1,C⟩:=Bjl (R:=R) (N:=N) (o:=o) (o':=o') D F k
    exact⟨c,c1,fun K g e i f=>by unfold Uz XY;rw[cf,C]⟩
   rcases Kf (R:=R) (N:=N) (o:=o) D (k.le (by omega)) with⟨n,d,n1,n2,d1,d2,e,hK⟩ | hK
   ·rcases Kf (R:=R) (N:=N) (o:=o') F (k.le (by omega)) with⟨S,d',I,L,M,Y,e',hK'⟩ | hK'
    ·have b1:=YY (a:=n) (b:=(d':Int)) ⟨n1,n2⟩ (by omega)
     have b2:=YY (a:=S) (b:=(d:Int)) ⟨I,L⟩ (by omega)
     have b3:=YY (a:=(d:Int)) (b:=(d':Int)) (by omega) (by omega)
     have b4:((d*d':Nat):Int)=(d:Int)*(d':Int):=by simp
     obtain⟨c,c1,C⟩:=QP (R:=R) (N:=N) (s:=n*d'+S*d) (b:=d*d') (by omega) (Nat.mul_pos d1 M) (by omega) (by omega)
     rw[←Rat.mkRat_add_mkRat _ _ (by omega) (by omega),e,e'] at c1
     refine⟨c,c1,fun K=>?_⟩
     rw[start,hK,hK',show((true:Bool)==true)=true by rfl,ct,A25]
     unfold Uz XY
     rw[ct,i64 (a:=n*(d':Int)) (by omega),i64 (a:=S*(d:Int)) (by omega),i64 (by omega),i64 (by omega),←b4,C];rfl
    ·obtain⟨c,c1,C⟩:=gen
     refine⟨c,c1,fun K=>?_⟩
     rw[start,hK,hK',show((true:Bool)==true)=true by rfl,ct,A25,C]
   ·obtain⟨c,c1,C⟩:=gen
    refine⟨c,c1,fun K=>?_⟩
    rw[start,hK]
    rcases Kf (R:=R) (N:=N) (o:=o') F (k.le (by omega)) with⟨S,d',I,L,M,Y,e',hK'⟩ | hK'
    ·rw[hK',show((false:Bool)==true)=false by rfl,cf,C]
    ·rw[hK',show((false:Bool)==true)=false by rfl,cf,C]
theorem A5v (n:Bool) (s:LS):A3 (!n) s=-A3 n s:=by unfold A3;cases n<;>simp
theorem Axi {N:Nat} {x y:RatD} {o o':Bool} (k:x.ok) (C:y.ok) (D:fit (8*(x.m+y.m)+40) N):∃ d:RatD,d.can (x.q - y.q)∧∀ K:LA→O R,IY N x.av o y.av o' K=K d.av:=by
 obtain⟨c,c1,F⟩:=yX (R:=R) (N:=N) (x:=⟨x.neg,.of x.ns.l false o,.of x.ds.l false o⟩) (y:=⟨!y.neg,.of y.ns.l false o',.of y.ds.l false o'⟩) (o:=(o||(o||false))) (o':=(o'||(o'||false))) k C D
 have e1:RatD.q ⟨x.neg,.of x.ns.l false o,.of x.ds.l false o⟩=x.q:=rfl
 have G:RatD.q ⟨!y.neg,.of y.ns.l false o',.of y.ds.l false o'⟩=-y.q:=by
  show mkRat (A3 (!y.neg) (.of y.ns.l false o')) (val y.ds.l)=_
  rw[A5v,←Rat.neg_mkRat];rfl
 rw[e1,G,←Rat.sub_eq_add_neg] at c1
 refine⟨c,c1,fun K=>?_⟩
 rw[Alz];unfold Az9
 rw[Blt,Bhy,Aol,Bm3,ct,Blt,Bhy,Aol,Bm3,ct]
 exact(F _).trans rfl
theorem Bjm {N:Nat} {x y:RatD} {o o':Bool} (F:x.ok) (G:y.ok) (k:fit (8*(x.m+y.m)+40) N):∃ d:RatD,d.can (x.q*y.q)∧∀ K:LA→O R,TK N K o x.av o' y.av=K d.av:=by
 obtain⟨n1,s1,l1,a1,I,p1,p2,L,M,p5,S,T⟩:=Pu (R:=R) (N:=N) (o:=o) F (k.le (by omega))
 obtain⟨n2,s2,l2,a2,U,C,D,V,Y,q5,q6,q7⟩:=Pu (R:=R) (N:=N) (o:=o') G (k.le (by omega))
 have zl1:(A3 n1 s1).natAbs<4294967296 ^ x.m:=by rw[Dc];exact Nat.lt_of_lt_of_le (Bq p1) (Ij M)
 have zl2:(A3 n2 s2).natAbs<4294967296 ^ y.m:=by rw[Dc];exact Nat.lt_of_lt_of_le (Bq C) (Ij Y)
 have dl1:((val l1:Nat):Int).natAbs<4294967296 ^ (x.m+1):=by rw[Int.natAbs_natCast];exact Nat.lt_of_lt_of_le (Bq p2) (Ij (by omega))
 have dl2:((val l2:Nat):Int).natAbs<4294967296 ^ (y.m+1):=by rw[Int.natAbs_natCast];exact Nat.lt_of_lt_of_le (Bq D) (Ij (by omega))
 obtain⟨S1,t1,t2,t3⟩:=TT (R:=R) (N:=N) (n1:=n1) (n2:=n2) (s1:=s1) (s2:=s2) (o1:=a1) (o2:=a2) p1 C (k.le (by omega))
 have L1:=Dv (Li zl1 zl2)
 obtain⟨S4,v1,v2,v3⟩:=iQ (R:=R) (N:=N) (a:=l1) (b:=l2) (t:=false) (o:=I) (t':=false) (o':=U) rfl rfl p2 D (k.le (by omega))
 have z4:val l1*val l2<4294967296 ^ (x.m+1+(y.m+1)):=by
  have:=Li dl1 dl2;rw[Int.natAbs_mul,Int.natAbs_natCast,Int.natAbs_natCast] at this;exact this
 have L4:=Dv z4
 obtain⟨c,c1,c2⟩:=OE (R:=R) (N:=N) (neg:=decide (A3 n1 s1*A3 n2 s2<0)) (s:=.of (As (A3 n1 s1*A3 n2 s2).natAbs) false true) (l:=As (val l1*val l2)) (n:=(As (val l1*val l2)).length) (o:=true) (t:=false) (o':=true) rfl (Ad _) (Ad _) (by rw[Al];exact Nat.mul_ne_zero L V) (k.le (show 2*((As (A3 n1 s1*A3 n2 s2).natAbs).length+(As (val l1*val l2)).length)+8≤_ by omega))
 rw[Kr,Al,←Rat.mkRat_mul_mkRat,S,q6] at c1
 refine⟨c,c1,fun K=>?_⟩
 unfold TK
 rw[Jn,ct,Ek,T,o7,ct,Jn,ct,Ek,q7,o7,ct,rF,ct,rF,ct,Atf,Atf,t3,v3,Fb t1 t2,Fb v1 v2,Bfs,c2];rfl
theorem Axj {N:Nat} {x y:RatD} {o o':Bool} (S:x.ok) (G:y.ok) (k:fit (8*(x.m+y.m)+40) N):∃ d:RatD,d.can (x.q*y.q)∧∀ K:LA→O R,QK N x.av o y.av o' K=K d.av:=by
 have h1:=k.1
 obtain⟨g,T,I⟩:=Bjm (R:=R) (N:=N) (o:=o) (o':=o') S G k
 rcases Kf (R:=R) (N:=N) (o:=o) S (k.le (by omega)) with⟨n,d,n1,n2,U,d2,e,hK⟩ | hK
 ·rcases Kf (R:=R) (N:=N) (o:=o') G (k.le (by omega)) with⟨L,d',C,D,F,M,e',hK'⟩ | hK'
  ·have b1:=YY (a:=n) (b:=L) ⟨n1,n2⟩ ⟨C,D⟩
   have b3:=YY (a:=(d:Int)) (b:=(d':Int)) (by omega) (by omega)
   have V:((d*d':Nat):Int)=(d:Int)*(d':Int):=by simp
   obtain⟨c,c1,Y⟩:=QP (R:=R) (N:=N) (s:=n*L) (b:=d*d') (by omega) (Nat.mul_pos U F) (by omega) (by omega)
   rw[←Rat.mkRat_mul_mkRat,e,e'] at c1
   refine⟨c,c1,fun K=>?_⟩
   rw[X_];unfold kv
   rw[Jn,ct,Ek,hK,Jn,ct,Ek,hK',show((true:Bool)==true)=true by rfl,ct,A25,ct,i64 (by omega),i64 (by omega),←V,Y];rfl
  ·refine⟨g,T,fun K=>?_⟩
   rw[X_];unfold kv
   rw[Jn,ct,Ek,hK,Jn,ct,Ek,hK',show((true:Bool)==true)=true by rfl,ct,A25,cf,I]
 ·refine⟨g,T,fun K=>?_⟩
  rw[X_];unfold kv
  rcases Kf (R:=R) (N:=N) (o:=o') G (k.le (by omega)) with⟨L,d',C,D,F,M,e',hK'⟩ | hK'
  ·rw[Jn,ct,Ek,hK,Jn,ct,Ek,hK',show((false:Bool)==true)=false by rfl,cf,I]
  ·rw[Jn,ct,Ek,hK,Jn,ct,Ek,hK',show((false:Bool)==true)=false by rfl,cf,I]
theorem ud {a b:Rat}:JO a b≤0↔a≤b:=by
 unfold JO
 by_cases h:a<b
 ·rw[if_pos h];exact⟨fun _=>Rat.le_of_lt h,fun _=>by omega⟩
 ·rw[if_neg h]
  by_cases k:b<a
  ·rw[if_pos k];exact⟨fun C=>by omega,fun C=>absurd C (Rat.not_le.2 k)⟩
  ·rw[if_neg k];exact⟨fun _=>Rat.not_lt.1 k,fun _=>by omega⟩
theorem Bft {N:Nat} {x y:RatD} {o o':Bool} (C:x.ok) (D:y.ok) (k:fit (8*(x.m+y.m)+40) N):∃ d:RatD,d.can (if x.q≤y.q then x.q else y.q)∧∀ K:LA→O R,yL N x.av o y.av o' K=K d.av:=by
 by_cases h:x.q≤y.q
 ·obtain⟨c,c1,F⟩:=YX (R:=R) (N:=N) (o:=o) C (k.le (by omega))
  refine⟨c,by rw[if_pos h];exact c1,fun K=>?_⟩
  rw[qr];unfold Ahs
  rw[Jn,ct,Jn,ct,Ek,Ek,QQ C D (k.le (by omega)),decide_eq_true (ud.2 h),ct,ct,F];rfl
 ·obtain⟨c,c1,F⟩:=YX (R:=R) (N:=N) (o:=o') D (k.le (by omega))
  refine⟨c,by rw[if_neg h];exact c1,fun K=>?_⟩
  rw[qr];unfold Ahs
  rw[Jn,ct,Jn,ct,Ek,Ek,QQ C D (k.le (by omega)),decide_eq_false (fun G=>h (ud.1 G)),cf,ct,F];rfl
end
end Gx

namespace Gx
open Go Go.Proofs
section
variable {R:Type}
def Hf (z:Int):LA:=Lt (decide (z<0)) (.of (As z.natAbs) false false)
theorem ue (z:Int) (K:LA→O R):(cond ((Nat.beq 0 0)&&((Nat.beq (List.length (Hf z)) 2)&&(Nat.beq 2 2))) (cond (Nat.ble 2 (List.length (Hf z))) (K (List.take 2 (Hf z))) none) none)=K (Hf z):=rfl
theorem Bof (z:Int):List.take 2 (Hf z)=Hf z:=rfl
theorem Bnw (z:Int):Nat.beq (List.length (Hf z)) 2=true:=rfl
theorem Bi6 (v:Nat):List.take ((As v).length*1) (Af (As v))=Af (As v):=Fb (Ad _) (Al v)
theorem Ik {N:Nat} {neg:Bool} {l:List Nat} {n:Nat} {t o:Bool} {K:LA→O R} (hn:n=l.length) (k:Am l) (C:fit l.length N):Ha N neg (Af l) n t o K=K (Hf (if neg then -(val l:Int) else (val l:Int))):=by
 obtain⟨c1,D⟩:=GQ (z:=if neg then -(val l:Int) else (val l:Int)) (c:=neg) (m:=val l) rfl
 rw[sM];unfold xY
 rw[Eg hn k C,Bi6]
 unfold Hf
 rw[←c1,D]
 cases neg
 ·rfl
 ·rw[show((true:Bool)==true)=true by rfl,ct,A25];simp[Lt,LS.av]
theorem Zh {N:Nat} {v:Int} {K:LA→O R} (C:-9223372036854775808≤v∧v≤9223372036854775807) (hN:2000≤N):Hl N v K=K (Hf v):=by
 have k:v.natAbs<18446744073709551616:=by omega
 have D:=FL k
 rw[aX];unfold WY
 by_cases h:v<0
 ·have e:IntKind.wrap .u64 (IntKind.wrap .u64 (IntKind.wrap .i64 ((0:Int) - IntKind.wrap .i64 (v+1)))+1)=(v.natAbs:Int):=by
   rw[i64 (a:=v+1) (by omega),i64 (by omega),qC,qC];omega
  rw[decide_eq_true h,ct,e,OD k (by omega),Bi6,Ik rfl (Ad _) ⟨by omega,by omega⟩,Al]
  have:(if true=true then -(v.natAbs:Int) else (v.natAbs:Int))=v:=by rw[if_pos rfl];omega
  rw[this];exact ue _ _
 ·have e:IntKind.wrap .u64 v=(v.natAbs:Int):=by rw[qC];omega
  rw[decide_eq_false h,cf,e,OD k (by omega),Bi6,Ik rfl (Ad _) ⟨by omega,by omega⟩,Al]
  have:(if false=true then -(v.natAbs:Int) else (v.natAbs:Int))=v:=by rw[if_neg (by decide)];omega
  rw[this];exact ue _ _
theorem rG {N:Nat} {n:Bool} {s:LS} {o:Bool} {K:LA→O R} (hs:Am s.l) (k:fit s.l.length N):HL N (Lt n s) o K=K (Hf (A3 n s)):=by
 rw[sO];unfold xZ
 rw[Wd,R4,Ik rfl hs k];exact ue _ _
theorem Aom {N:Nat} {n:Bool} {s:LS} {o:Bool} {K:Int→O R} (hs:Am s.l) (k:fit s.l.length N):HM N (Lt n s) o K=K (A3 n s).sign:=by
 rw[sQ];unfold x9
 rw[rF,ct,Atf,rG hs k,Bnw,show((true&&(true&&(!false))))=true by rfl,ct]
 have e:setCells (Lt n s) 0 (Hf (A3 n s))=Hf (A3 n s):=rfl
 rw[e]
 generalize A3 n s=z
 unfold Hf
 rw[Wd]
 rcases Int.lt_trichotomy z 0 with h | h | h
 ·rw[decide_eq_true h,ct,Int.sign_eq_neg_one_of_neg h]
 ·subst h;rfl
 ·rw[decide_eq_false (by omega),cf,R4]
  have:(As z.natAbs).length≠0:=fun C=>by have:=B5.1 C;omega
  simp only[LS.l]
  rw[Ate this,cf,Int.sign_eq_one_of_pos h]
theorem Bfu {N:Nat} {n:Bool} {s:LS} {o:Bool} {K:LA→O R} (hs:Am s.l) (k:fit s.l.length N):EZ N (Lt n s) o K=K (Hf (-A3 n s)):=by
 rw[Aau];unfold Akd
 rw[Wd,R4,Ik rfl hs k,←A5v];exact ue _ _
theorem Bac {N:Nat} {n1 n2:Bool} {s1 s2:LS} {o1 o2:Bool} {K:LA→O R} (k:Am s1.l) (C:Am s2.l) (D:fit (s1.l.length+s2.l.length) N):Zc N (Lt n1 s1) o1 (Lt n2 s2) o2 K=K (Hf (A3 n1 s1*A3 n2 s2)):=by
 have F:(As (val s1.l*val s2.l)).length≤s1.l.length+s2.l.length:=Dv (by rw[Nat.pow_add];exact Nat.mul_lt_mul'' (Bq k) (Bq C))
 rw[Abz];unfold Amg
 rw[Wd,Wd,R4,R4,Bfn rfl rfl k C D,Bi6,Ik rfl (Ad _) (D.le F),Al]
 have G:A3 n1 s1*A3 n2 s2=if (!(n1==n2)) then -((val s1.l*val s2.l:Nat):Int) else ((val s1.l*val s2.l:Nat):Int):=by
  unfold A3;cases n1<;>cases n2<;>simp[Int.mul_neg,Int.neg_mul]
 rw[←G];exact ue _ _
theorem Bad {N:Nat} {n1 n2:Bool} {s1 s2:LS} {o1 o2:Bool} {K:LA→O R} (G:Am s1.l) (I:Am s2.l) (k:fit (s1.l.length+s2.l.length+1) N):EY N (Lt n1 s1) o1 (Lt n2 s2) o2 K=K (Hf (A3 n1 s1+A3 n2 s2)):=by
 have v1:=Bq G
 have v2:=Bq I
 have L:=Ij (show s1.l.length≤s1.l.length+s2.l.length by omega)
 have M:=Ij (show s2.l.length≤s1.l.length+s2.l.length by omega)
 rw[Aas];unfold Aj9
 rw[Wd,Wd]
 by_cases hn:n1=n2
 ·subst hn
  have C:(As (val s1.l+val s2.l)).length≤s1.l.length+s2.l.length+1:=Dv (by rw[Nat.pow_succ];omega)
  have D:A3 n1 s1+A3 n1 s2=if n1 then -((val s1.l+val s2.l:Nat):Int) else ((val s1.l+val s2.l:Nat):Int):=by
   unfold A3;cases n1<;>simp;omega
  rw[show(n1==n1)=true by simp,ct,Wd,R4,R4,yT rfl rfl G I k,Bi6,Ik rfl (Ad _) (k.le C),Al,←D];exact ue _ _
 ·rw[show(n1==n2)=false by simp[hn],cf,R4,R4,yU rfl rfl G I (k.le (by omega))]
  by_cases F:val s2.l≤val s1.l
  ·have C:(As (val s1.l - val s2.l)).length≤s1.l.length+s2.l.length+1:=Dv (by rw[Nat.pow_succ];omega)
   have D:A3 n1 s1+A3 n2 s2=if n1 then -((val s1.l - val s2.l:Nat):Int) else ((val s1.l - val s2.l:Nat):Int):=by
    unfold A3;cases n1<;>cases n2<;>simp at hn ⊢<;>omega
   rw[if_pos F,ct,Wd,Bi6,Ik rfl (Ad _) (k.le C),Al,←D];exact ue _ _
  ·have C:(As (val s2.l - val s1.l)).length≤s1.l.length+s2.l.length+1:=Dv (by rw[Nat.pow_succ];omega)
   have D:A3 n1 s1+A3 n2 s2=if n2 then -((val s2.l - val s1.l:Nat):Int) else ((val s2.l - val s1.l:Nat):Int):=by
    unfold A3;cases n1<;>cases n2<;>simp at hn ⊢<;>omega
   rw[if_neg F,cf,R4,R4,yU rfl rfl I G (k.le (by omega)),if_pos (by omega),Wd,Bi6,Ik rfl (Ad _) (k.le C),Al,←D];exact ue _ _
theorem Bfv {N:Nat} {n1 n2:Bool} {s1 s2:LS} {o1 o2:Bool} {K:LA→O R} (k:Am s1.l) (C:Am s2.l) (D:fit (3*(s1.l.length+s2.l.length)+4) N):s9 N (Lt n1 s1) o1 (Lt n2 s2) o2 K=K (Hf ((Nat.gcd (A3 n1 s1).natAbs (A3 n2 s2).natAbs:Nat):Int)):=by
 have F:(As (Nat.gcd (val s1.l) (val s2.l))).length≤s1.l.length+s2.l.length:=by
  rcases Nat.eq_zero_or_pos (val s1.l) with h | h
  ·rw[h,Nat.gcd_zero_left];have:=(B0 C).2;omega
  ·have:=Cj (Nat.gcd_le_left (val s2.l) h);have:=(B0 k).2;omega
 rw[Aap];unfold Aj2
 rw[R4,R4,Bfq rfl rfl k C D,Bi6,Ik rfl (Ad _) (D.le (by omega)),Al,Dc,Dc];exact ue _ _
theorem iV {N:Nat} {n1:Bool} {s1:LS} {g:Nat} {o1 o2:Bool} {K:LA→LA→Bool→O R} (D:Am s1.l) (G:0<g) (F:g∣val s1.l) (C:fit (s1.l.length+2*(As g).length+4) N):X4 N (Lt n1 s1) o1 (Hf (g:Int)) o2 K=K (Hf (A3 n1 s1/(g:Int))) (Hf 0) true:=by
 have k:Hf (g:Int)=Lt false (.of (As g) false false):=by
  unfold Hf;rw[decide_eq_false (by omega),Int.natAbs_natCast]
 have hq:(As (val s1.l/g)).length≤s1.l.length:=Nat.le_trans (Cj (Nat.div_le_self _ _)) (B0 D).2
 rw[k,fa];unfold f_
 rw[R4,R4,show(LS.of (As g) false false).l=As g by rfl]
 rw[YW rfl rfl D (Ad _) (by rw[Al];omega) C,Al,Nat.mod_eq_zero_of_dvd F,show(!true)=false by rfl,cf,Wd,Wd,Bi6,Ik rfl (Ad _) (C.le (by omega)),Wd,Bi6,Ik rfl (Ad _) (C.le (by simp[Ey])),Al,Al]
 have I:(if n1=true then -((0:Nat):Int) else ((0:Nat):Int))=0:=by cases n1<;>rfl
 have e1:(if (!(n1==false))=true then -((val s1.l/g:Nat):Int) else ((val s1.l/g:Nat):Int))=A3 n1 s1/(g:Int):=by
  obtain⟨c,k⟩:=F
  have L:val s1.l/g=c:=by rw[k,Nat.mul_div_cancel_left _ G]
  rw[L];unfold A3;rw[k]
  cases n1
  ·simp;rw[Int.mul_ediv_cancel_left _ (by omega)]
  ·simp only[Bool.true_beq,Bool.not_false,if_true]
   rw[show -((g*c:Nat):Int)=(g:Int)*(-(c:Int)) by rw[Int.mul_neg];simp,Int.mul_ediv_cancel_left _ (by omega)]
 rw[I,e1]
 generalize A3 n1 s1/(g:Int)=q
 have r0:∀ (f:Bool→O R),RW (Hf 0) f=f false:=fun f=>Wd
 rw[show((Nat.beq 0 0)&&((Nat.beq (List.length (Hf q)) 2)&&(Nat.beq 2 2)))=true by rfl,ct,show((Nat.beq 0 0)&&((Nat.beq (List.length (Hf 0)) 2)&&(Nat.beq 2 2)))=true by rfl,ct,r0,cf]
 rfl
end
end Gx

namespace Gx
open Go Go.Proofs
section
variable {R:Type}
def TU (q:Rat):RatD:=⟨decide (q.num<0),.of (As q.num.natAbs) false false,.of (As q.den) false false⟩
def cq (q:Rat):LA:=(TU q).av
theorem lF (q:Rat):(TU q).can q:=⟨rfl,rfl,rfl⟩
theorem A5w (q:Rat):(TU q).q=q:=(lF q).q
theorem Bh2 (q:Rat):(TU q).ok:=(lF q).ok
theorem Bk3 (q:Rat):(TU q).m=qm q:=(lF q).m
theorem o8 (q:Rat) (K:LA→O R):(cond ((Nat.beq 0 0)&&((Nat.beq (List.length (cq q)) 3)&&(Nat.beq 3 3))) (cond (Nat.ble 3 (List.length (cq q))) (K (List.take 3 (cq q))) none) none)=K (cq q):=rfl
theorem Axk (q:Rat):Nat.ble 2 (List.length (cq q))=true:=rfl
theorem yY (q:Rat):List.take 2 (cq q)=Hf q.num:=rfl
theorem Bjn:cq 0=[(.bool false),(.imm [] 0 1 false false),(.imm [(.int .u32 1)] 1 1 false false)]:=by
 have e:cq 0=[.bool false,.imm (Af (As 0)) (As 0).length 1 false false,.imm (Af (As 1)) (As 1).length 1 false false]:=rfl
 rw[e,FN];rfl
theorem rH {N:Nat} {K:LA→O R}:HN N K=K (cq 0):=by
 rw[sS];unfold x_
 rw[Bjn]
theorem Bnx {N:Nat} {z:Int} {o:Bool} {K:LA→O R} (k:fit (As z.natAbs).length N):EZ N (Hf z) o K=K (Hf (-z)):=by
 have:=Bfu (R:=R) (N:=N) (n:=decide (z<0)) (s:=.of (As z.natAbs) false false) (o:=o) (K:=K) (Ad _) k
 rw[Kr] at this;exact this
theorem Bm5 {N:Nat} {z:Int} {o:Bool} {K:Int→O R} (k:fit (As z.natAbs).length N):HM N (Hf z) o K=K z.sign:=by
 have:=Aom (R:=R) (N:=N) (n:=decide (z<0)) (s:=.of (As z.natAbs) false false) (o:=o) (K:=K) (Ad _) k
 rw[Kr] at this;exact this
theorem Bh3 {N:Nat} {z w:Int} {o o':Bool} {K:LA→O R} (k:fit ((As z.natAbs).length+(As w.natAbs).length) N):Zc N (Hf z) o (Hf w) o' K=K (Hf (z*w)):=by
 have:=Bac (R:=R) (N:=N) (n1:=decide (z<0)) (s1:=.of (As z.natAbs) false false) (n2:=decide (w<0)) (s2:=.of (As w.natAbs) false false) (o1:=o) (o2:=o') (K:=K) (Ad _) (Ad _) k
 rw[Kr,Kr] at this;exact this
theorem Bny {N:Nat} {z w:Int} {o o':Bool} {K:LA→O R} (k:fit ((As z.natAbs).length+(As w.natAbs).length+1) N):EY N (Hf z) o (Hf w) o' K=K (Hf (z+w)):=by
 have:=Bad (R:=R) (N:=N) (n1:=decide (z<0)) (s1:=.of (As z.natAbs) false false) (n2:=decide (w<0)) (s2:=.of (As w.natAbs) false false) (o1:=o) (o2:=o') (K:=K) (Ad _) (Ad _) k
 rw[Kr,Kr] at this;exact this
theorem Bae (z:Int):mkRat z 1=(z:Rat):=by
 apply Rat.ext
 ·rw[Rat.num_mkRat,if_neg (by decide),Nat.gcd_one_left];simp
 ·rw[Rat.den_mkRat,if_neg (by decide),Nat.gcd_one_left];simp
theorem Bjo (z:Int) (w:Nat) (k:w≠0):(mkRat z w).num=z/((Nat.gcd z.natAbs w:Nat):Int)∧(mkRat z w).den=w/Nat.gcd z.natAbs w:=by
 refine⟨?_,?_⟩
 ·rw[Rat.num_mkRat,if_neg k,Nat.gcd_comm w]
 ·rw[Rat.den_mkRat,if_neg k,Nat.gcd_comm w]
theorem Acv {N:Nat} {n1 n2:Bool} {s1 s2:LS} {o1 o2:Bool} {K:LA→O R} (L:Am s1.l) (F:Am s2.l) (Y:0≤A3 n2 s2) (C:fit (4*(s1.l.length+s2.l.length)+10) N):Np N (Lt n1 s1) o1 (Lt n2 s2) o2 K=K (cq (mkRat (A3 n1 s1) (A3 n2 s2).natAbs)):=by
 have D:=Dc n2 s2
 have G:=Dc n1 s1
 rw[s_];unfold k_
 rw[rF,ct,Atf,Aom F (C.le (by omega))]
 by_cases h0:A3 n2 s2=0
 ·rw[h0,show((0:Int).sign==0)=true by rfl,ct,rH]
  rw[show(0:Int).natAbs=0 by rfl,Rat.mkRat_zero];exact o8 _ _
 ·have hw:(A3 n2 s2).natAbs≠0:=by omega
  have M:((A3 n2 s2).sign==0)=false:=by rw[Int.sign_eq_one_of_pos (by omega)];rfl
  rw[M,cf,ct,rG F (C.le (by omega)),show((Nat.beq 0 0)&&((Nat.beq (List.length (Hf (A3 n2 s2))) 2)&&(Nat.beq 2 2)))=true by rfl,ct]
  have rb:∀ (z:Int) (f:Bool→O R),RW (Hf z) f=f (decide (z<0)):=fun z f=>Wd
  have rl:∀ (z:Int) (f:LA→Nat→O R),B9 1 (List.drop 1 (Hf z)) f=f (Af (As z.natAbs)) (As z.natAbs).length:=fun z f=>R4
  have l2:=(B0 F).2
  have l1:=(B0 L).2
  rw[rb,decide_eq_false (by omega),show((!false)==true)=true by rfl,ct,rl,Bhz,Bhu (a:=As (A3 n2 s2).natAbs) (b:=[1]) (m:=1) rfl rfl (C.le (by rw[D];omega)),A25]
  by_cases k:(A3 n2 s2).natAbs=1
  ·rw[k,FN,show decide (([1]:List Nat)=[1])=true by decide,ct,rF,ct,Atf,rG L (C.le (by omega)),rl,k,FN]
   rw[Bae]
   have e2:cq ((A3 n1 s1:Int):Rat)=[.bool (decide (A3 n1 s1<0)),.imm (Af (As (A3 n1 s1).natAbs)) (As (A3 n1 s1).natAbs).length 1 false false,.imm (Af [1]) 1 1 false false]:=by
    unfold cq TU RatD.av LS.av
    rw[Rat.num_intCast,Rat.den_intCast,FN];rfl
   rw[e2];rfl
  ·have S:decide (As (A3 n2 s2).natAbs=[1])=false:=by
    rw[decide_eq_false_iff_not];intro hh
    have:=congrArg val hh
    rw[Al] at this;simp[val] at this;omega
   rw[S,cf]
   unfold MM
   have I:0<Nat.gcd (A3 n1 s1).natAbs (A3 n2 s2).natAbs:=Nat.gcd_pos_of_pos_right _ (by omega)
   have hgl:(As (Nat.gcd (A3 n1 s1).natAbs (A3 n2 s2).natAbs)).length≤s2.l.length:=Nat.le_trans (Cj (Nat.gcd_le_right _ (by omega))) (by rw[D];exact l2)
   have T:Nat.gcd (A3 n1 s1).natAbs (A3 n2 s2).natAbs∣val s1.l:=by rw[←G];exact Nat.gcd_dvd_left _ _
   have U:Nat.gcd (A3 n1 s1).natAbs (A3 n2 s2).natAbs∣val s2.l:=by rw[←D];exact Nat.gcd_dvd_right _ _
   obtain⟨q1,q2⟩:=Bjo (A3 n1 s1) (A3 n2 s2).natAbs hw
   rw[rF,ct,rF,ct,Atf,Atf,Bfv L F (C.le (by omega))]
   generalize hgd:Nat.gcd (A3 n1 s1).natAbs (A3 n2 s2).natAbs=g at *
   rw[show((Nat.beq 0 0)&&((Nat.beq (List.length (Hf (g:Int))) 2)&&(Nat.beq 2 2)))=true by rfl,ct,ct,show Nat.ble 2 (List.length (Hf (g:Int)))=true by rfl,ct,Bof,iV L I T (C.le (by omega))]
   rw[show ∀ z:Int,((Nat.beq 0 0)&&((Nat.beq (List.length (Hf z)) 2)&&(Nat.beq 2 2)))=true from fun z=>rfl,ct,show((Nat.beq 0 0)&&((Nat.beq (List.length (Hf 0)) 2)&&(Nat.beq 2 2)))=true by rfl,ct,ct,iV F I U (C.le (by omega))]
   have V:A3 n2 s2/(g:Int)=(((A3 n2 s2).natAbs/g:Nat):Int):=by
    rw[show A3 n2 s2=(((A3 n2 s2).natAbs:Nat):Int) by omega];rfl
   rw[show ∀ z:Int,((Nat.beq 0 0)&&((Nat.beq (List.length (Hf z)) 2)&&(Nat.beq 2 2)))=true from fun z=>rfl,ct,ct,rb,V,decide_eq_false (by omega),cf,show ∀ z:Int,Nat.ble 2 (List.length (Hf z))=true from fun z=>rfl,ct,rl,Int.natAbs_natCast,←q2]
   rw[←q1];rfl
theorem A5x {N:Nat} {z w:Int} {o o':Bool} {K:LA→O R} (k:0≤w) (C:fit (4*((As z.natAbs).length+(As w.natAbs).length)+10) N):Np N (Hf z) o (Hf w) o' K=K (cq (mkRat z w.natAbs)):=by
 have:=Acv (R:=R) (N:=N) (n1:=decide (z<0)) (s1:=.of (As z.natAbs) false false) (n2:=decide (w<0)) (s2:=.of (As w.natAbs) false false) (o1:=o) (o2:=o') (K:=K) (Ad _) (Ad _) (by rw[Kr];exact k) C
 rw[Kr,Kr] at this;exact this
theorem Jo {N:Nat} {x:RatD} {o:Bool} {K:LA→O R} (k:x.ok) (C:fit (8*x.m+10) N):Lc N x.av o K=K (cq x.q):=by
 have m1:x.ns.l.length≤x.m:=Nat.le_max_left _ _
 have m2:x.ds.l.length≤x.m:=Nat.le_max_right _ _
 rw[ta];unfold yM
 rw[show Nat.ble 2 (List.length x.av)=true by rfl,ct,Aol,Bk2,Bfs,Acv (s2:=.of x.ds.l false o) k.1 k.2 (by unfold A3;simp) (C.le (show 4*(x.ns.l.length+x.ds.l.length)+10≤_ by omega))]
 have:mkRat (A3 x.neg x.ns) (A3 false (.of x.ds.l false o)).natAbs=x.q:=by rw[Dc];rfl
 rw[this];exact o8 _ _
theorem Yk {N:Nat} {x:RatD} {o:Bool} {K:LA→O R} (k:x.ok) (C:fit (8*x.m+10) N):V6 N x.av o K=K (Hf (x.q.den:Int)):=by
 rw[Abt];unfold Al3
 rw[Jn,ct,Ek,Jo k C]
 have:=Aol (R:=R) (x:=TU x.q) (f:=fun e f=>K [(.bool false),(.imm e f 1 false false)])
 refine this.trans ?_
 unfold Hf;rw[decide_eq_false (by omega),Int.natAbs_natCast];rfl
theorem o9 (x:RatD) (k:x.ok):qm x.q≤x.m+1:=by
 have m1:x.ns.l.length≤x.m:=Nat.le_max_left _ _
 have m2:x.ds.l.length≤x.m:=Nat.le_max_right _ _
 unfold qm
 by_cases h:val x.ds.l=0
 ·have:x.q=0:=by unfold RatD.q;rw[h,Rat.mkRat_zero]
  rw[this,Rat.zero_num,Rat.zero_den,FN];simp[Ey]
 ·obtain⟨a1,_,a3⟩:=Aok (A3 x.neg x.ns) (val x.ds.l) h
  have C:x.q.num.natAbs≤val x.ns.l:=by show(mkRat _ _).num.natAbs≤_;rw[a1,Dc];exact Nat.div_le_self _ _
  have D:x.q.den≤val x.ds.l:=by show(mkRat _ _).den≤_;rw[a3];exact Nat.div_le_self _ _
  have c1:=Nat.le_trans (Cj C) (B0 k.1).2
  have F:=Nat.le_trans (Cj D) (B0 k.2).2
  omega
theorem Bh4 (z:Int) (d:Nat) (k:Nat) (C:z.natAbs<4294967296 ^ k) (D:d<4294967296 ^ k) (F:d≠0):qm (mkRat z d)≤k:=by
 obtain⟨a1,_,a3⟩:=Aok z d F
 unfold qm
 have G:(mkRat z d).num.natAbs≤z.natAbs:=by rw[a1];exact Nat.div_le_self _ _
 have I:(mkRat z d).den≤d:=by rw[a3];exact Nat.div_le_self _ _
 have c1:=Dv (Nat.lt_of_le_of_lt G C)
 have L:=Dv (Nat.lt_of_le_of_lt I D)
 omega
theorem iW (q:Rat):q.num.natAbs<4294967296 ^ qm q:=Bh1 (Nat.le_max_left _ _)
theorem QR (q:Rat):q.den<4294967296 ^ qm q:=Bh1 (Nat.le_max_right _ _)
theorem G4 (a b:Rat):qm (a+b)≤qm a+qm b+1:=by
 rw[Rat.add_def']
 have da:((a.den:Nat):Int).natAbs<4294967296 ^ qm a:=by rw[Int.natAbs_natCast];exact QR a
 have db:((b.den:Nat):Int).natAbs<4294967296 ^ qm b:=by rw[Int.natAbs_natCast];exact QR b
 refine Bh4 _ _ _ ?_ ?_ (Nat.mul_ne_zero a.den_nz b.den_nz)
 ·refine ua (Li (iW a) db) ?_
  have:=Li (iW b) da
  rwa [Nat.add_comm (qm b)] at this
 ·rw[Nat.pow_succ,Nat.pow_add]
  have:=Nat.mul_lt_mul'' (QR a) (QR b)
  omega
theorem QS (a b:Rat):qm (a*b)≤qm a+qm b:=by
 rw[Rat.mul_def']
 refine Bh4 _ _ _ (Li (iW a) (iW b)) ?_ (Nat.mul_ne_zero a.den_nz b.den_nz)
 rw[Nat.pow_add];exact Nat.mul_lt_mul'' (QR a) (QR b)
theorem Bh5 (a:Rat):qm (-a)=qm a:=by unfold qm;rw[Rat.neg_num,Rat.neg_den,Int.natAbs_neg]
theorem Yl (a b:Rat):qm (a - b)≤qm a+qm b+1:=by rw[Rat.sub_eq_add_neg,←Bh5 b];exact G4 _ _
theorem Blu {v:Int} (h:v.natAbs<18446744073709551616):qm (v:Rat)≤2:=by
 unfold qm;rw[Rat.num_intCast,Rat.den_intCast,FN]
 have:=FL h
 simp;omega
theorem Bog {a:Int} {b:Nat}:mkRat a ((b:Int)).natAbs=mkRat a b:=by rw[Int.natAbs_natCast]
theorem Baf {N:Nat} {x:RatD} {o:Bool} {K:LA→O R} (C:x.ok) (k:fit (16*x.m+40) N):te N x.av o K=K (cq (-x.q)):=by
 have hq:=o9 x C
 have D:(As x.q.num.natAbs).length≤qm x.q:=Nat.le_max_left _ _
 have F:(As x.q.den).length≤qm x.q:=Nat.le_max_right _ _
 rw[Abv];unfold Al7
 rw[Jn,ct,Ek,Jo C (k.le (by omega)),Axk,ct,yY,Bnx (k.le (show(As x.q.num.natAbs).length≤_ by omega)),ct,Yk C (k.le (by omega)),A5x (by omega) (k.le (show 4*((As (-x.q.num).natAbs).length+(As ((x.q.den:Nat):Int).natAbs).length)+10≤_ by rw[Int.natAbs_neg,Int.natAbs_natCast];omega)),Bog]
 have:mkRat (-x.q.num) x.q.den=-x.q:=by rw[←Rat.neg_mkRat,Rat.mkRat_self]
 rw[this];exact o8 _ _
theorem Aon {N:Nat} {x y:RatD} {o o':Bool} {K:LA→O R} (D:x.ok) (F:y.ok) (C:fit (16*(x.m+y.m)+80) N):Kq N x.av o y.av o' K=K (cq (x.q+y.q)):=by
 have G:=o9 x D
 have I:=o9 y F
 have x1:=iW x.q
 have x2:((x.q.den:Nat):Int).natAbs<4294967296 ^ qm x.q:=by rw[Int.natAbs_natCast];exact QR _
 have y1:=iW y.q
 have y2:((y.q.den:Nat):Int).natAbs<4294967296 ^ qm y.q:=by rw[Int.natAbs_natCast];exact QR _
 have L1:=Dv x1
 have L2:=Dv x2
 have L3:=Dv y1
 have L4:=Dv y2
 have z1:=Li x1 y2
 have z2:=Li y1 x2
 have z3:=ua (k:=qm x.q+qm y.q) z1 (by rwa [Nat.add_comm])
 have z4:=Li x2 y2
 have M1:=Dv z1
 have M2:=Dv z2
 have M3:=Dv z3
 have M4:=Dv z4
 rw[Ab1];unfold Amm
 rw[Jn,ct,Ek,Jo D (C.le (by omega)),Jn,ct,Ek,Jo F (C.le (by omega)),show ∀ q,((Nat.beq 0 0)&&((Nat.beq (List.length (cq q)) 3)&&(Nat.beq 3 3)))=true from fun q=>rfl,ct,show ∀ q,((Nat.beq 0 0)&&((Nat.beq (List.length (cq q)) 3)&&(Nat.beq 3 3)))=true from fun q=>rfl,ct,Axk,ct,ct,Yk F (C.le (by omega)),yY,Bh3 (C.le (show(As x.q.num.natAbs).length+(As ((y.q.den:Nat):Int).natAbs).length≤_ by omega)),Axk,ct,ct,Yk D (C.le (by omega)),yY,Bh3 (C.le (show(As y.q.num.natAbs).length+(As ((x.q.den:Nat):Int).natAbs).length≤_ by omega)),Bny (C.le (show(As (x.q.num*((y.q.den:Nat):Int)).natAbs).length+(As (y.q.num*((x.q.den:Nat):Int)).natAbs).length+1≤_ by omega)),ct,Yk D (C.le (by omega)),ct,Yk F (C.le (by omega)),Bh3 (C.le (show(As ((x.q.den:Nat):Int).natAbs).length+(As ((y.q.den:Nat):Int).natAbs).length≤_ by omega)),A5x (Int.mul_nonneg (by omega) (by omega)) (C.le (show 4*((As (x.q.num*((y.q.den:Nat):Int)+y.q.num*((x.q.den:Nat):Int)).natAbs).length+(As (((x.q.den:Nat):Int)*((y.q.den:Nat):Int)).natAbs).length)+10≤_ by omega))]
 have:mkRat (x.q.num*((y.q.den:Nat):Int)+y.q.num*((x.q.den:Nat):Int)) (((x.q.den:Nat):Int)*((y.q.den:Nat):Int)).natAbs=x.q+y.q:=by
  rw[Rat.add_def',Int.natAbs_mul,Int.natAbs_natCast,Int.natAbs_natCast]
 rw[this];exact o8 _ _
theorem Aoo {N:Nat} {x y:RatD} {o o':Bool} {K:LA→O R} (D:x.ok) (k:y.ok) (C:fit (16*(x.m+y.m)+100) N):V7 N x.av o y.av o' K=K (cq (x.q - y.q)):=by
 have F:=o9 y k
 rw[Ab3];unfold Amq
 rw[Jn,ct,Jn,ct,Ek,Ek,Baf k (C.le (by omega))]
 have:=Aon (R:=R) (N:=N) (x:=x) (y:=TU (-y.q)) (o:=o) (o':=false) (K:=fun e=>(cond ((Nat.beq 0 0)&&((Nat.beq (List.length e) 3)&&(Nat.beq 3 3))) (cond (Nat.ble 3 (List.length e)) (K (List.take 3 e)) none) none)) D (Bh2 _) (C.le (by rw[Bk3,Bh5];omega))
 rw[A5w,←Rat.sub_eq_add_neg] at this
 exact this.trans (o8 _ _)
theorem Acw {N:Nat} {x:RatD} {o:Bool} {K:Int→O R} (k:x.ok) (C:fit (8*x.m+10) N):AR N x.av o K=K x.q.num.sign:=by
 have hq:=o9 x k
 have D:(As x.q.num.natAbs).length≤qm x.q:=Nat.le_max_left _ _
 rw[ti];unfold yN
 rw[Jn,ct,Ek,Jo k C,Axk,ct,yY,Bm5 (C.le (show(As x.q.num.natAbs).length≤_ by omega))]
theorem Bh6 (a b:Rat):(a - b).num.sign=JO a b:=by
 unfold JO
 by_cases h:a<b
 ·rw[if_pos h]
  have k:a - b<0:=by grind
  have:(a - b).num<0:=by
   apply Int.not_le.1;intro C
   exact absurd (Rat.num_nonneg.1 C) (Rat.not_le.2 k)
  exact Int.sign_eq_neg_one_of_neg this
 ·rw[if_neg h]
  by_cases C:b<a
  ·rw[if_pos C]
   have k:0<a - b:=by grind
   have F:0≤(a - b).num:=Rat.num_nonneg.2 (Rat.le_of_lt k)
   have G:(a - b).num≠0:=fun D=>by
    have:=Rat.num_eq_zero.1 D
    rw[this] at k;exact absurd k Rat.lt_irrefl
   exact Int.sign_eq_one_of_pos (by omega)
  ·rw[if_neg C]
   have:a=b:=Rat.le_antisymm (Rat.not_lt.1 C) (Rat.not_lt.1 h)
   rw[this,Rat.sub_self];rfl
theorem iX {N:Nat} {x y:RatD} {o o':Bool} {K:Int→O R} (k:x.ok) (C:y.ok) (D:fit (16*(x.m+y.m)+100) N):Cn N x.av o y.av o' K=K (JO x.q y.q):=by
 have F:=o9 x k
 have G:=o9 y C
 have hs:=Yl x.q y.q
 rw[bS];unfold YC
 rw[Jn,ct,Jn,ct,Ek,Ek,Aoo k C D]
 have:=Acw (R:=R) (N:=N) (x:=TU (x.q - y.q)) (o:=false) (K:=fun g=>K g) (Bh2 _) (D.le (by rw[Bk3];omega))
 rw[A5w,Bh6] at this
 exact this
theorem Bag {N:Nat} {x y:RatD} {o o':Bool} {K:LA→O R} (C:x.ok) (D:y.ok) (k:fit (16*(x.m+y.m)+80) N):NO N x.av o y.av o' K=K (cq (x.q*y.q)):=by
 have F:=o9 x C
 have G:=o9 y D
 have x1:=iW x.q
 have x2:((x.q.den:Nat):Int).natAbs<4294967296 ^ qm x.q:=by rw[Int.natAbs_natCast];exact QR _
 have y1:=iW y.q
 have y2:((y.q.den:Nat):Int).natAbs<4294967296 ^ qm y.q:=by rw[Int.natAbs_natCast];exact QR _
 have L1:=Dv x1
 have L2:=Dv x2
 have L3:=Dv y1
 have L4:=Dv y2
 have M1:=Dv (Li x1 y1)
 have M4:=Dv (Li x2 y2)
 rw[Acc];unfold Am0
 rw[Jn,ct,Ek,Jo C (k.le (by omega)),Axk,ct,Jn,ct,Ek,Jo D (k.le (by omega)),Axk,ct,yY,yY,Bh3 (k.le (show(As x.q.num.natAbs).length+(As y.q.num.natAbs).length≤_ by omega)),ct,Yk C (k.le (by omega)),ct,Yk D (k.le (by omega)),Bh3 (k.le (show(As ((x.q.den:Nat):Int).natAbs).length+(As ((y.q.den:Nat):Int).natAbs).length≤_ by omega)),A5x (Int.mul_nonneg (by omega) (by omega)) (k.le (show 4*((As (x.q.num*y.q.num).natAbs).length+(As (((x.q.den:Nat):Int)*((y.q.den:Nat):Int)).natAbs).length)+10≤_ by omega))]
 have:mkRat (x.q.num*y.q.num) (((x.q.den:Nat):Int)*((y.q.den:Nat):Int)).natAbs=x.q*y.q:=by
  rw[Rat.mul_def',Int.natAbs_mul,Int.natAbs_natCast,Int.natAbs_natCast]
 rw[this];exact o8 _ _
theorem Aop {N:Nat} {v:Int} {K:LA→O R} (k:-9223372036854775808≤v∧v≤9223372036854775807) (hN:4000≤N):Be N v K=K (cq (v:Rat)):=by
 have C:=FL (show v.natAbs<18446744073709551616 by omega)
 rw[a8];unfold XA
 rw[Zh k (by omega),Zh (by omega) (by omega),A5x (by omega) ⟨show 100*(4*((As v.natAbs).length+(As (1:Int).natAbs).length)+10)+1000≤N by (rw[show(1:Int).natAbs=1 by rfl,FN];simp;omega),show 4*((As v.natAbs).length+(As (1:Int).natAbs).length)+10≤1000000000 by (rw[show(1:Int).natAbs=1 by rfl,FN];simp;omega)⟩]
 have:mkRat v (1:Int).natAbs=(v:Rat):=Bae v
 rw[this];exact o8 _ _
theorem Aoq {N:Nat} {v w:Int} {K:LA→O R} (k:-9223372036854775808≤v∧v≤9223372036854775807) (D:0≤w∧w≤9223372036854775807) (hN:4000≤N):YD N v w K=K (cq (mkRat v w.natAbs)):=by
 have F:=FL (show v.natAbs<18446744073709551616 by omega)
 have C:=FL (show w.natAbs<18446744073709551616 by omega)
 rw[Amu];unfold A0b
 rw[Zh k (by omega),Zh (by omega) (by omega),A5x (by omega) ⟨show 100*(4*((As v.natAbs).length+(As w.natAbs).length)+10)+1000≤N by omega,show 4*((As v.natAbs).length+(As w.natAbs).length)+10≤1000000000 by omega⟩]
 exact o8 _ _
theorem Bah {N:Nat} {x y:RatD} {o o':Bool} {K:LA→O R} (C:x.ok) (D:y.ok) (k:fit (16*(x.m+y.m)+100) N):kz N x.av o y.av o' K=K (cq (if x.q≤y.q then x.q else y.q)):=by
 rw[Aca];unfold Amw
 rw[Jn,ct,Jn,ct,Ek,Ek,iX C D k]
 by_cases h:x.q≤y.q
 ·rw[decide_eq_true (ud.2 h),ct,ct,Jo C (k.le (by omega)),if_pos h];exact o8 _ _
 ·rw[decide_eq_false (fun F=>h (ud.1 F)),cf,ct,Jo D (k.le (by omega)),if_neg h];exact o8 _ _
end
end Gx

namespace Gx
open Go Go.Proofs
section
variable {R:Type}
theorem LO (x:RatD):List.take 3 x.av=x.av:=rfl
theorem b3 (x:RatD):Nat.ble 3 (List.length x.av)=true:=rfl
theorem c3 (x:RatD):((Nat.beq 0 0)&&((Nat.beq (List.length x.av) 3)&&(Nat.beq 3 3)))=true:=rfl
theorem c4 (x y:RatD):((Nat.beq (List.length x.av) 3)&&((Nat.ble 3 (List.length y.av))&&(!false)))=true:=rfl
theorem Bfw (x:RatD):((Nat.beq (List.length x.av) 3)&&(true&&(!false)))=true:=rfl
theorem rI (x y:RatD):setCells x.av 0 y.av=y.av:=rfl
section
variable {N:Nat} {X:O R} {K:LA→O R} {x y:RatD} {o o':Bool} {p q:Rat}
theorem Aor (k:x.can p) (C:y.can q) (F:fit (8*(qm p+qm q)+40) N) (h:∀ d:RatD,d.can (p+q)→K d.av=X):Ok N x.av o y.av o' K=X:=by
 obtain⟨d,D,e⟩:=yX (R:=R) (N:=N) (o:=o) (o':=o') k.ok C.ok (by rw[k.m,C.m];exact F)
 rw[e];exact h d (by rw[k.q,C.q] at D;exact D)
theorem Blv (k:x.can p) (C:y.can q) (F:fit (8*(qm p+qm q)+40) N) (h:∀ d:RatD,d.can (p - q)→K d.av=X):IY N x.av o y.av o' K=X:=by
 obtain⟨d,D,e⟩:=Axi (R:=R) (N:=N) (o:=o) (o':=o') k.ok C.ok (by rw[k.m,C.m];exact F)
 rw[e];exact h d (by rw[k.q,C.q] at D;exact D)
theorem Blw (k:x.can p) (C:y.can q) (F:fit (8*(qm p+qm q)+40) N) (h:∀ d:RatD,d.can (p*q)→K d.av=X):QK N x.av o y.av o' K=X:=by
 obtain⟨d,D,e⟩:=Axj (R:=R) (N:=N) (o:=o) (o':=o') k.ok C.ok (by rw[k.m,C.m];exact F)
 rw[e];exact h d (by rw[k.q,C.q] at D;exact D)
theorem Blx (k:x.can p) (C:y.can q) (F:fit (8*(qm p+qm q)+40) N) (h:∀ d:RatD,d.can (if p≤q then p else q)→K d.av=X):yL N x.av o y.av o' K=X:=by
 obtain⟨d,D,e⟩:=Bft (R:=R) (N:=N) (o:=o) (o':=o') k.ok C.ok (by rw[k.m,C.m];exact F)
 rw[e];exact h d (by rw[k.q,C.q] at D;exact D)
theorem It {v:Int} (k:-9223372036854775808≤v∧v≤9223372036854775807) (hN:4≤N) (h:∀ d:RatD,d.can (v:Rat)→K d.av=X):Cb N v K=X:=by
 obtain⟨d,C,e⟩:=Ati (R:=R) (N:=N) k hN
 rw[e];exact h d C
end
theorem Bjp {q:Rat}:decide (q.num.sign≤0)=decide (q≤0):=by
 have e:q≤0↔q.num≤0:=by
  rw[Rat.le_iff_sub_nonneg,←Rat.num_nonneg,Rat.sub_eq_add_neg,Rat.zero_add,Rat.neg_num];omega
 rw[decide_eq_decide,e]
 rcases Int.lt_trichotomy q.num 0 with h | h | h
 ·rw[Int.sign_eq_neg_one_of_neg h];omega
 ·rw[h];simp
 ·rw[Int.sign_eq_one_of_pos h];omega
theorem qi {v:Int} (h:-9223372036854775808≤v∧v≤9223372036854775807):qm (v:Rat)≤2:=Blu (by omega)
def Rx:Rat→List SegD→Rat
 | _,[]=>0
 | Qr,s::r=>if Qr≤0 then 0 else (s.price:Rat)*(if Qr≤(s.width:Rat) then Qr else (s.width:Rat))+Rx (Qr - (if Qr≤(s.width:Rat) then Qr else (s.width:Rat))) r
def Bly (l:List SegD):Prop:=∀ s ∈ l,-1048576≤s.width∧s.width≤1048576∧-1048576≤s.price∧s.price≤1048576
theorem Bh7 {N:Nat} {X:O R} {K:LA→O R} {v:Int} {x:RatD} {q:Rat} {o:Bool} (C:-9223372036854775808≤v∧v≤9223372036854775807) (F:x.can q) (D:fit (8*(2+qm q)+40) N) (h:∀ d:RatD,d.can ((v:Rat)*q)→K d.av=X):TL N v x.av o K=X:=by
 rw[YG];unfold lA
 refine It C (by have:=D.1;omega) fun d G=>?_
 simp only[LO,b3,ct]
 refine Blw G F (D.le (by have:=qi C;omega)) fun d' k=>?_
 simp only[LO,b3,c3,ct]
 exact h d' k
theorem Bjq {N:Nat} {X:O R} {K:LA→O R} {l:List SegD} {d:Bool} {A:Nat} (hl:Bly l) (h8:l.length≤8) (hA:2≤A) (G:fit (100*A+6000) N):∀ (m j fuel:Nat) (x y:RatD) (p q:Rat),j+m=l.length→m<fuel→x.can p→y.can q→qm p≤A+3*j→qm q≤2+j*(A+31) →
  (∀ d:RatD,d.can (q+Rx p (l.drop j))→K d.av=X)→E8 N K (l.flatMap SegD.av) l.length d fuel (l.length:Int) (j:Int) x.av y.av=X:=by
 intro m
 induction m with
 | zero =>
  intro j fuel x y p q hj S I L _ _ hX
  obtain⟨fuel,rfl⟩:∃ k,fuel=k+1:=⟨fuel - 1,by omega⟩
  rw[E8];unfold Mj
  rw[Kn (by omega),cf]
  simp only[LO,b3,c3,ct]
  rw[Dz (l:=l) (by omega)] at hX
  exact hX y (by rw[Rx,Rat.add_zero];exact L)
 | succ m ih =>
  intro j fuel x y p q hj S I L hp hq hX
  obtain⟨fuel,rfl⟩:∃ k,fuel=k+1:=⟨fuel - 1,by omega⟩
  rw[E8];unfold Mj
  have h:j<l.length:=by omega
  have T:j≤8:=by omega
  have hr:=hl l[j] (List.getElem_mem h)
  have hjA:j*(A+31)≤8*(A+31):=Nat.mul_le_mul_right _ T
  rw[Iz h,ct,Aa h,ct,rC h]
  have p0:List.take 2 ((AV.int .i64 l[j].width)::(AV.int .i64 l[j].price)::(l.drop (j+1)).flatMap SegD.av)=[(.int .i64 l[j].width),(.int .i64 l[j].price)]:=rfl
  rw[p0,show Nat.ble 2 (List.length ((AV.int .i64 l[j].width)::(AV.int .i64 l[j].price)::(l.drop (j+1)).flatMap SegD.av))=true by simp,ct]
  rw[show((!d)||A8 [(AV.int .i64 l[j].width),(.int .i64 l[j].price)])=true by cases d<;>rfl,ct]
  rw[show((Nat.beq (List.length [(AV.int .i64 l[j].width),(.int .i64 l[j].price)]) 2)&&((Nat.ble 2 2)&&(!false)))=true from rfl,ct]
  simp only[LO,b3,c3,ct,Aob,lC]
  rw[Mm I.ok (G.le (by rw[I.m];omega)),I.q,Bjp]
  rw[Bs h,Rx] at hX
  by_cases D:p≤0
  ·rw[decide_eq_true D,ct]
   rw[if_pos D,Rat.add_zero] at hX
   exact hX y L
  ·rw[decide_eq_false D,cf]
   rw[if_neg D] at hX
   refine It (by omega) (by have:=G.1;omega) fun wd U=>?_
   have hqw:=qi (v:=l[j].width) (by omega)
   have hqp:=qi (v:=l[j].price) (by omega)
   refine Blx I U (G.le (by omega)) fun pd F=>?_
   simp only[LO,b3,c3,ct]
   generalize C:(if p≤(l[j].width:Rat) then p else (l[j].width:Rat))=part at F hX
   have M:qm part≤A+3*j:=by rw[←C];split<;>omega
   refine Bh7 (by omega) F (G.le (by omega)) fun td V=>?_
   have hqt:qm ((l[j].price:Rat)*part)≤2+(A+3*j):=by have:=QS (l[j].price:Rat) part;omega
   refine Aor L V (G.le (by omega)) fun ad Y=>?_
   rw[Bfw,ct]
   refine Blv I F (G.le (by omega)) fun sd hsd=>?_
   rw[Bfw,ct,rI,rI]
   rw[wS (by omega)]
   have hqa:qm (q+(l[j].price:Rat)*part)≤2+(j+1)*(A+31):=by
    have:=G4 q ((l[j].price:Rat)*part)
    rw[Nat.add_mul];omega
   have hqs:qm (p - part)≤A+3*(j+1):=by
    rw[←C]
    split
    ·rw[Rat.sub_self]
     have:qm ((0:Int):Rat)≤2:=qi (by omega)
     have e:((0:Int):Rat)=0:=rfl
     rw[e] at this;omega
    ·have:=Yl p (l[j].width:Rat);omega
   refine ih (j+1) fuel sd ad _ _ (by omega) (by omega) hsd Y hqs hqa fun d hd=>hX d ?_
   rw[←Rat.add_assoc];exact hd
def RatD.is (x:RatD) (q:Rat) (m:Nat):Prop:=x.ok∧x.q=q∧x.m≤m
theorem RatD.can.is {x:RatD} {q:Rat} {m:Nat} (h:x.can q) (k:qm q≤m):x.is q m:=⟨h.ok,h.q,by rw[h.m];exact k⟩
def TV:RatD:=⟨false,.nil,.nil⟩
theorem Ks {m:Nat}:TV.is 0 m:=by
 refine⟨⟨?_,?_⟩,?_,?_⟩
 ·intro x k;simp[TV,LS.l] at k
 ·intro x k;simp[TV,LS.l] at k
 ·simp[TV,RatD.q,LS.l,A3,val]
 ·simp[TV,RatD.m,LS.l]
theorem RatD.is.qm {x:RatD} {q:Rat} {m:Nat} (h:x.is q m):qm q≤m+1:=by
 have:=o9 x h.1
 rw[h.2.1] at this;have:=h.2.2;omega
section
variable {N:Nat} {X:O R} {K:LA→O R} {K':Int→O R} {x y:RatD} {o o':Bool} {p q:Rat} {m n:Nat}
theorem Ahu (k:x.is p m) (C:y.is q n) (F:fit (8*(m+n)+40) N) (h:∀ d:RatD,d.can (p - q)→K d.av=X):IY N x.av o y.av o' K=X:=by
 obtain⟨d,D,e⟩:=Axi (R:=R) (N:=N) (o:=o) (o':=o') k.1 C.1 (F.le (by have:=k.2.2;have:=C.2.2;omega))
 rw[e];exact h d (by rw[k.2.1,C.2.1] at D;exact D)
theorem Bfx (k:x.is p m) (C:y.is q n) (D:fit (4*(m+n)+10) N):Fx N x.av o y.av o' K'=K' (JO p q):=by
 rw[QQ k.1 C.1 (D.le (by have:=k.2.2;have:=C.2.2;omega)),k.2.1,C.2.1]
theorem yZ (k:x.is p m) (C:y.is q n) (D:fit (16*(m+n)+100) N):Cn N x.av o y.av o' K'=K' (JO p q):=by
 rw[iX k.1 C.1 (D.le (by have:=k.2.2;have:=C.2.2;omega)),k.2.1,C.2.1]
theorem Bh8 (k:x.is p m) (C:y.is q n) (D:fit (16*(m+n)+100) N):V7 N x.av o y.av o' K=K (TU (p - q)).av:=by
 rw[Aoo k.1 C.1 (D.le (by have:=k.2.2;have:=C.2.2;omega)),k.2.1,C.2.1];rfl
theorem Atk (k:x.is p m) (C:y.is q n) (D:fit (16*(m+n)+80) N):Kq N x.av o y.av o' K=K (TU (p+q)).av:=by
 rw[Aon k.1 C.1 (D.le (by have:=k.2.2;have:=C.2.2;omega)),k.2.1,C.2.1];rfl
theorem Blz (k:x.is p m) (C:y.is q n) (D:fit (16*(m+n)+80) N):NO N x.av o y.av o' K=K (TU (p*q)).av:=by
 rw[Bag k.1 C.1 (D.le (by have:=k.2.2;have:=C.2.2;omega)),k.2.1,C.2.1];rfl
theorem Bnz (k:x.is p m) (C:y.is q n) (D:fit (16*(m+n)+100) N):kz N x.av o y.av o' K=K (TU (if p≤q then p else q)).av:=by
 rw[Bah k.1 C.1 (D.le (by have:=k.2.2;have:=C.2.2;omega)),k.2.1,C.2.1];rfl
theorem Ry {v:Int} (k:-9223372036854775808≤v∧v≤9223372036854775807) (hN:4000≤N):Be N v K=K (TU (v:Rat)).av:=Aop k hN
end
theorem Km {q:Rat} {m:Nat} (h:qm q≤m):(TU q).is q m:=(lF q).is h
theorem Bcq {v:Int} (h:-9223372036854775808≤v∧v≤9223372036854775807):(TU (v:Rat)).is v 2:=Km (qi h)
theorem A0t {p q:Rat}:decide (JO p q≥0)=decide (q≤p):=by
 rw[decide_eq_decide];unfold JO
 by_cases h:p<q
 ·rw[if_pos h];simp[Rat.not_le.2 h]
 ·rw[if_neg h];have:=Rat.not_lt.1 h;simp only[this,iff_true];split<;>omega
theorem iY {p q:Rat}:decide (JO p q≤0)=decide (p≤q):=by rw[decide_eq_decide];exact ud
def Bcr (p:Rat) (lo hi:Int):Bool:=decide ((lo:Rat)≤p)&&decide (p≤(hi:Rat))
theorem iZ {N:Nat} {K:Bool→O R} {x:RatD} {p:Rat} {m:Nat} {o:Bool} {lo hi:Int} (k:x.is p m) (C:-9223372036854775808≤lo∧lo≤9223372036854775807) (D:-9223372036854775808≤hi∧hi≤9223372036854775807) (F:fit (4*(m+2)+10) N) (hN:4≤N):Yh N x.av o lo hi K=K (Bcr p lo hi):=by
 rw[np];unfold qx
 rw[b3,ct,LO]
 refine It C hN fun a G=>?_
 rw[Bfx k (G.is (qi C)) F,A0t]
 refine(congrArg (cond _ · _) (It (X:=K (decide (p≤(hi:Rat)))) D hN fun b I=>?_)).trans ?_
 ·rw[Bfx k (I.is (qi D)) F,iY];rfl
 ·unfold Bcr;cases decide ((lo:Rat)≤p)<;>rfl
theorem A5y {N:Nat} {K:Bool→O R} {x:RatD} {p:Rat} {m:Nat} {o:Bool} {lo hi:Int} (k:x.is p m) (C:-9223372036854775808≤lo∧lo≤9223372036854775807) (D:-9223372036854775808≤hi∧hi≤9223372036854775807) (F:fit (16*(m+2)+100) N) (hN:4000≤N):JN N x.av o lo hi K=K (Bcr p lo hi):=by
 rw[iN];unfold iM
 rw[b3,ct,LO,Ry C hN,yZ k (Bcq C) F,A0t,Ry D hN,yZ k (Bcq D) F,iY]
 unfold Bcr;cases decide ((lo:Rat)≤p)<;>rfl
theorem Aos {N:Nat} {X:O R} {K:LA→O R} {u:UnitD} {x:RatD} {o o':Bool} {p:Rat} {m:Nat} (C:x.is p m) (F:Bly u.segs.l) (G:u.segs.l.length≤8) (M:-1048576≤u.min∧u.min≤1048576) (k:fit (100*(m+8)+6000) N)
  (h:∀ d:RatD,d.can (Rx (p - (u.min:Rat)) u.segs.l)→K d.av=X):Ig N u.av o x.av o' K=X:=by
 rw[IZ];unfold Tk
 rw[b3,ct,LO,u2]
 refine It (by omega) (by have:=k.1;omega) fun a I=>?_
 refine Ahu C (I.is (qi (by omega))) (k.le (by omega)) fun r hr=>?_
 rw[c3,ct]
 refine It (by omega) (by have:=k.1;omega) fun z L=>?_
 rw[c3,ct,u4]
 have hq:qm (p - (u.min:Rat))≤m+4:=by have:=Yl p (u.min:Rat);have:=C.qm;have:=qi (v:=u.min) (by omega);omega
 refine Bjq (A:=m+4) F G (by omega) (k.le (by omega)) u.segs.l.length 0 N r z (p - (u.min:Rat)) ((0:Int):Rat) (by omega) (by have:=k.1;omega) hr L (by omega) (by have:=qi (v:=0) (by omega);omega) fun d D=>?_
 exact h d (by rw[List.drop_zero,show(((0:Int):Rat))=0 from rfl,Rat.zero_add] at D;exact D)
end
end Gx

namespace Gx
open Go Go.Proofs
open IntKind (wrap)
set_option maxRecDepth 100000
noncomputable section
variable {R:Type} (N:Nat)
def Tn (r0:LA→O R) (c:Bool) (b:LA) (k0:Int→LA→LA→O R) (e:Int) (f d:LA):O R :=
 (B9 2 (b.drop 4) fun ae r=>(cond (decide (e<((r:Nat):Int))) (cond (Nat.ble 3 (f.length)) (B9 2 (b.drop 4) fun s t=>(cond (Ac e t) (Ao .i64 (s.drop ((e.toNat)*2)) fun u=>(Be N u (fun v=>(kz N (f.take 3) false v false (fun l=>(cond ((Nat.beq 0 0)&&((Nat.beq (l.length) 3)&&(Nat.beq 3 3))) (cond (Nat.ble 3 (d.length)) (cond (Nat.ble 3 (l.length)) (B9 2 (b.drop 4) fun w x=>(cond (Ac e x) (Ao .i64 ((w.drop ((e.toNat)*2)).drop 1) fun y=>(Be N y (fun z=>(NO N (l.take 3) false z false (fun aa=>(Kq N (d.take 3) false aa false (fun m=>(cond ((Nat.beq (m.length) 3)&&((Nat.ble 3 (d.length))&&(!false))) (cond (Nat.ble 3 (f.length)) (cond (Nat.ble 3 (l.length)) (V7 N (f.take 3) false (l.take 3) false (fun o=>(cond ((Nat.beq (o.length) 3)&&((Nat.ble 3 (f.length))&&(!false))) (k0 (wrap .i64 (e+1)) (setCells f 0 o) (setCells d 0 m)) none))) none) none) none)))))))) none)) none) none) none)))))) none)) none) (cond (Nat.ble 3 (d.length)) (cond ((Nat.beq 0 0)&&((Nat.beq ((d.take 3).length) 3)&&(Nat.beq 3 3))) (cond (Nat.ble 3 ((d.take 3).length)) (r0 ((d.take 3).take 3)) none) none) none)))
def Il (r0:LA→O R) (c:Bool) (b:LA):Nat→Int→LA→LA→O R
 | 0,_,_,_=>none
 | n+1,e,f,d=>(Tn N r0 c b (Il r0 c b n) e f d)
def FO (r0:LA→O R) (q0:Int→LA→LA→O R) (b:LA) (c:Bool) (g:LA) (i:Bool):O R :=
 (cond (Nat.ble 3 (g.length)) (Ao .i64 (b.drop 2) fun ab=>(Be N ab (fun ac=>(V7 N (g.take 3) i ac false (fun p=>(HN N (fun q=>(cond ((Nat.beq 0 0)&&((Nat.beq (p.length) 3)&&(Nat.beq 3 3))) (cond ((Nat.beq 0 0)&&((Nat.beq (q.length) 3)&&(Nat.beq 3 3))) (q0 0 p q) none) none)))))))) none)
def Vb:=(Ae (fun (N:Nat) (b:LA) (c:Bool) (g:LA) (i:Bool) (r0:LA→O R)=>(FO N r0 (fun e f d=>(Il N r0 c b N e f d)) b c g i))).1
theorem cF (b c g i r0):(@Vb R N b c g i r0)=(FO N r0 (fun e f d=>(Il N r0 c b N e f d)) b c g i):=by rw[Vb,(Ae _).2]
def i0:Hints:={ H:=(hS hL (hS hL (hS (hS hL (hS (hP [2,4,5,6,7] hL) hL)) hL))),modes:=[(3,0)] }
def o_:Dg:=[(20,Gj N),(33,YA N),(41,fV N),(97,A9s N),(35,qv N),(32,Pk N)]
def Aot (F:KF R):=Hp Tryz.f58 i0 (o_ N) [] N F
def Pv (F:KF R):LA→O R:=(fun ad=>F (.pagg ad false) [])
def Aou (c:Bool) (b:LA) (e:Int) (f d:LA):St:=⟨[(2,(op 0)),(4,(op 1)),(5,(op 2)),(6,(op 3)),(7,(iv e))],(hq [(bP c 0 b),⟨false,false,false,false,0,[(.bool false),.nsl,.nsl],false⟩,(bQ 0 f),(bQ 0 d)])⟩
def Aov (F:KF R):=Aot N F [1,1,0,1,0] []
theorem OF (F:KF R) (c:Bool) (b:LA):∀ (n:Nat) (e:Int) (f d:LA),Ap (Aov N F) n (Aou c b e f d)=(Il N (Pv F) c b n e f d)
 | 0,_,_,_=>by kernel_rfl
 | n+1,e,f,d=>Eq.trans (by kernel_rfl) (Bm (Tn N (Pv F) c b · e f d) (funext fun e=>funext fun f=>funext fun d=>(OF F c b n e f d)):_)
theorem i6 (b:LA) (c:Bool) (g:LA) (i:Bool) (F:KF R):Cd (o_ N) i0 N 58 [(.pagg b c),(.pagg g i)] [] F=(Vb N b c g i (Pv F)):=by
 rw[cF]
 exact Eq.trans (by kernel_rfl) (Bm (FO N (Pv F) · b c g i) (funext fun e=>funext fun f=>funext fun d=>(Ai ..).trans (OF N F c b N e f d)):_)
def cG (a:LA) (h:Ak) (k:KF R):O R :=
 match a,h with
 | [(.pagg b c),(.pagg g i)],[]=>(Vb N b c g i (Pv k))
 | _,_=>none
theorem i7:An N 58 @cG:=by
 intro R Q a h k j;unfold cG;split;exact Ax (i6 ..) (i6 ..) ⟨Gk N,YB N,fW N,A9t N,qw N,Pl N,trivial⟩;exact Az
def Aow:=Ay (i7 N)
def Aox:=Ca (i7 N)
end
end Gx

namespace Gx
open Go Go.Proofs
section
variable {R:Type}
def uf:Rat→List SegD→Rat
 | _,[]=>0
 | Qr,s::r=>(if Qr≤(s.width:Rat) then Qr else (s.width:Rat))*(s.price:Rat)+uf (Qr - (if Qr≤(s.width:Rat) then Qr else (s.width:Rat))) r
theorem Aoy:∀ {l:List SegD},(∀ s ∈ l,0≤s.width)→uf 0 l=0
 | [],_=>rfl
 | s::r,h=>by
  have k:(0:Rat)≤(s.width:Rat):=by
   have:=h s (by simp);exact_mod_cast this
  rw[uf,if_pos k,Rat.zero_mul,Rat.sub_self,Aoy fun s hs=>h s (by simp[hs]),Rat.add_zero]
theorem A5z:∀ {l:List SegD} {p:Rat},(∀ s ∈ l,0≤s.width)→0≤p→uf p l=Rx p l
 | [],_,_,_=>rfl
 | s::r,p,h,C=>by
  have D:(0:Rat)≤(s.width:Rat):=by
   have:=h s (by simp);exact_mod_cast this
  rw[Rx]
  by_cases k:p≤0
  ·have:p=0:=Rat.le_antisymm k C
   subst this
   rw[if_pos (Rat.le_refl),Aoy h]
  ·rw[if_neg k,uf,Rat.mul_comm,A5z (fun s hs=>h s (by simp[hs]))]
   split
   ·rw[Rat.sub_self];exact Rat.le_refl
   ·rename_i hn
    exact(Rat.le_iff_sub_nonneg _ _).1 (Rat.le_of_lt (Rat.not_le.1 hn))
theorem Bh9 {N:Nat} {K:LA→O R} {u:UnitD} {d:Bool} {A:Nat} (Y:Bly u.segs.l) (h8:u.segs.l.length≤8) (hA:2≤A) (F:fit (200*A+12000) N) (hN:4000≤N):∀ (m j fuel:Nat) (p q:Rat),j+m=u.segs.l.length→m<fuel→qm p≤A+3*j→qm q≤2+j*(A+31) →
  Il N K d u.av fuel (j:Int) (TU p).av (TU q).av=K (TU (q+uf p (u.segs.l.drop j))).av:=by
 intro m
 induction m with
 | zero =>
  intro j fuel p q hj G _ _
  obtain⟨fuel,rfl⟩:∃ k,fuel=k+1:=⟨fuel - 1,by omega⟩
  rw[Il];unfold Tn
  rw[u4,Kn (by omega),cf,Dz (l:=u.segs.l) (by omega),uf,Rat.add_zero];rfl
 | succ m ih =>
  intro j fuel p q hj G V hq
  obtain⟨fuel,rfl⟩:∃ k,fuel=k+1:=⟨fuel - 1,by omega⟩
  rw[Il];unfold Tn
  have h:j<u.segs.l.length:=by omega
  have I:j≤8:=by omega
  have hr:=Y u.segs.l[j] (List.getElem_mem h)
  have hjA:j*(A+31)≤8*(A+31):=Nat.mul_le_mul_right _ I
  rw[u4,Iz h,ct]
  simp only[b3,LO,ct,u4]
  rw[Aa h,ct,rC h,A1,Ry (by omega) hN]
  have L:=qi (v:=u.segs.l[j].width) (by omega)
  have M:=qi (v:=u.segs.l[j].price) (by omega)
  rw[Bnz (Km V) (Km L) (F.le (by omega))]
  rw[Bs h,uf]
  generalize D:(if p≤(u.segs.l[j].width:Rat) then p else (u.segs.l[j].width:Rat))=part
  have C:qm part≤A+3*j:=by rw[←D];split<;>omega
  simp only[b3,LO,c3,ct]
  rw[show ∀ r:LA,List.drop 1 ((AV.int .i64 u.segs.l[j].width)::(AV.int .i64 u.segs.l[j].price)::r)=(AV.int .i64 u.segs.l[j].price)::r from fun _=>rfl,A1,Ry (by omega) hN]
  rw[Blz (Km C) (Km M) (F.le (by omega))]
  have S:qm (part*(u.segs.l[j].price:Rat))≤2+(A+3*j):=by have:=QS part (u.segs.l[j].price:Rat);omega
  rw[Atk (Km hq) (Km S) (F.le (by omega))]
  rw[Bfw,ct,Bh8 (Km V) (Km C) (F.le (by omega)),Bfw,ct,rI,rI,wS (by omega)]
  have T:qm (q+part*(u.segs.l[j].price:Rat))≤2+(j+1)*(A+31):=by
   have:=G4 q (part*(u.segs.l[j].price:Rat))
   rw[Nat.add_mul];omega
  have U:qm (p - part)≤A+3*(j+1):=by
   rw[←D]
   split
   ·rw[Rat.sub_self]
    have:qm ((0:Int):Rat)≤2:=qi (by omega)
    have e:((0:Int):Rat)=0:=rfl
    rw[e] at this;omega
   ·have:=Yl p (u.segs.l[j].width:Rat);omega
  rw[ih (j+1) fuel _ _ (by omega) (by omega) U T,Rat.add_assoc]
theorem A0u {N:Nat} {K:LA→O R} {u:UnitD} {x:RatD} {o o':Bool} {p:Rat} {m:Nat} (C:x.is p m) (D:Bly u.segs.l) (F:u.segs.l.length≤8) (G:-1048576≤u.min∧u.min≤1048576) (k:fit (200*(m+8)+12000) N) (hN:4000≤N) :
  Vb N u.av o x.av o' K=K (TU (uf (p - (u.min:Rat)) u.segs.l)).av:=by
 rw[cF];unfold FO
 rw[b3,ct,LO,u2,Ry (by omega) hN,Bh8 C (Bcq (by omega)) (k.le (by omega)),rH,c3,ct,show cq 0=(TU 0).av from rfl,c3,ct]
 have hq:qm (p - (u.min:Rat))≤m+4:=by have:=Yl p (u.min:Rat);have:=C.qm;have:=qi (v:=u.min) (by omega);omega
 have I:qm (0:Rat)≤2:=qi (v:=0) (by omega)
 have:=Bh9 (K:=K) (d:=o) (A:=m+4) D F (by omega) (k.le (by omega)) hN u.segs.l.length 0 N (p - (u.min:Rat)) 0 (by omega) (by have:=k.1;omega) (by omega) (by omega)
 rw[List.drop_zero,Rat.zero_add] at this
 exact this
theorem lG {u:UnitD} {h:Int} (k:C7 u h=true):(0≤u.min∧u.min≤1048576)∧(0≤u.max∧u.max≤1048576)∧u.min≤u.max:=by
 simp only[C7,Bool.and_eq_true,Ft,decide_eq_true_eq] at k
 exact⟨k.2.2.1,k.2.2.2.1,k.2.2.2.2.2.2.2.1⟩
theorem Pw {u:UnitD} {h:Int} (k:C7 u h=true):u.segs.l.length≤8∧Gt (-1048576) u.segs.l=true∧eS u.segs.l=u.max - u.min:=by
 simp only[C7,Bool.and_eq_true] at k
 have:=k.2.2.2.2.2.2.2.2.2.2.2.2.2.2.2.1
 simpa[oU] using this
theorem A0v:∀ {l:List SegD} {p:Int},Gt p l=true→(∀ s ∈ l,1≤s.width∧s.width≤1048576∧-1048576≤s.price∧s.price≤1048576)
 | [],_,_,_,hs=>by simp at hs
 | a::r,p,h,s,hs=>by
  simp only[Gt,Bool.and_eq_true,Ft,decide_eq_true_eq] at h
  rcases List.mem_cons.1 hs with rfl | hs
  ·omega
  ·exact A0v h.2.2.2 s hs
theorem GR {u:UnitD} {h:Int} (k:C7 u h=true):Bly u.segs.l:=fun s hs=>by
 have:=A0v (Pw k).2.1 s hs;omega
def Bn0 (u:UnitD) (p:Rat):Int:=cond (C7 u 24) (cond (Bcr p u.min u.max) 0 3) 1
def Bjr (u:UnitD) (p:Rat):Rat:=cond (C7 u 24&&Bcr p u.min u.max) (Rx (p - (u.min:Rat)) u.segs.l) 0
theorem Aoz {A:Nat}:∀ (l:List SegD) (p:Rat),Bly l→2≤A→qm p≤A→qm (Rx p l)≤2+l.length*(A+3*l.length+31)
 | [],p,_,_,_=>by
  have:qm (0:Rat)≤2:=qi (v:=0) (by omega)
  rw[Rx];simpa using this
 | s::r,p,hs,hA,M=>by
  have hr:=hs s (by simp)
  have G:=qi (v:=s.width) (by omega)
  have I:=qi (v:=s.price) (by omega)
  have S:qm (0:Rat)≤2:=qi (v:=0) (by omega)
  rw[Rx]
  split
  ·omega
  ·generalize k:(if p≤(s.width:Rat) then p else (s.width:Rat))=part
   have D:qm part≤A:=by rw[←k];split<;>omega
   have C:qm (p - part)≤A+3:=by
    rw[←k];split
    ·rw[Rat.sub_self];omega
    ·have:=Yl p (s.width:Rat);omega
   have L:=Aoz (A:=A+3) r (p - part) (fun s F=>hs s (by simp[F])) (by omega) C
   have T:=QS (s.price:Rat) part
   have U:=G4 ((s.price:Rat)*part) (Rx (p - part) r)
   rw[List.length_cons]
   have:A+3+3*r.length+31=A+3*(r.length+1)+31:=by omega
   rw[this] at L
   rw[Nat.add_mul];omega
theorem Bl0 {u:UnitD} {p:Rat} {m:Nat} (D:qm p≤m+1):qm (Bjr u p)≤8*m+800:=by
 have F:qm (0:Rat)≤2:=qi (v:=0) (by omega)
 unfold Bjr
 cases k:C7 u 24 with
 | false=>simp only[Bool.false_and,cond_false];omega
 | true =>
  cases Bcr p u.min u.max with
  | false=>simp only[Bool.and_false,cond_false];omega
  | true =>
   simp only[Bool.and_self,cond_true]
   have G:=lG k
   have C:=Pw k
   have hq:qm (p - (u.min:Rat))≤m+4:=by have:=Yl p (u.min:Rat);have:=qi (v:=u.min) (by omega);omega
   have:=Aoz (A:=m+4) u.segs.l _ (GR k) (by omega) hq
   have I:u.segs.l.length*(m+4+3*u.segs.l.length+31)≤8*(m+4+24+31):=Nat.mul_le_mul C.1 (by omega)
   omega
theorem Ao0 {N:Nat} {X:O R} {K:LA→Int→O R} {u:UnitD} {x:RatD} {o o':Bool} {p:Rat} {m:Nat} (C:x.is p m) (I:u.away.l.length≤1000) (D:fit (200*(m+8)+12000) N) (hN:4000≤N)
  (h:∀ d:RatD,d.is (Bjr u p) (8*m+800)→K d.av (Bn0 u p)=X):Pm N u.av o x.av o' K=X:=by
 rw[JA];unfold CJ
 simp only[Cl,Bg,ct,b3,LO,u2,u3]
 rw[Zf (by omega) (by omega) (by omega)]
 unfold Bn0 at h
 cases k:C7 u 24 with
 | false =>
  rw[k] at h
  exact h TV (by unfold Bjr;rw[k];exact Ks)
 | true =>
  have L:=lG k
  have F:=Pw k
  rw[k] at h
  rw[show(!true)=false from rfl,cf,iZ C (by omega) (by omega) (D.le (by omega)) (by omega)]
  cases hi:Bcr p u.min u.max with
  | false =>
   rw[hi] at h
   exact h TV (by unfold Bjr;rw[k,hi];exact Ks)
  | true =>
   rw[hi] at h
   rw[show(!true)=false from rfl,cf]
   refine Aos C (GR k) F.1 (by omega) (D.le (by omega)) fun d G=>?_
   rw[c3,ct,LO,b3,ct]
   have e:Bjr u p=Rx (p - (u.min:Rat)) u.segs.l:=by unfold Bjr;rw[k,hi];rfl
   exact h d ((e▸G:d.can (Bjr u p)).is (Bl0 C.qm))
end
end Gx

namespace Gx
open Go Go.Proofs
section
variable {R:Type}
def A50 (p:Rat):Int→Bool→Rat→List SegD→Bool×Rat
 | _,b,q,[]=>(b,q)
 | a,b,q,s::r=>cond (decide (JO p (a:Rat)>0)&&decide (JO p ((a+s.width:Int):Rat)≤0)) (A50 p (a+s.width) true (s.price:Rat) r) (A50 p (a+s.width) b q r)
def Atl (p:Rat):Int→Bool→Rat→List SegD→Bool×Rat
 | _,b,q,[]=>(b,q)
 | a,b,q,s::r=>cond (decide (JO p (a:Rat)≥0)&&decide (JO p ((a+s.width:Int):Rat)<0)) (Atl p (a+s.width) true (s.price:Rat) r) (Atl p (a+s.width) b q r)
theorem Bjs {N:Nat} {X:O R} {K:LA→LA→Bool→Bool→O R} {l:List SegD} {d:Bool} {x:RatD} {o:Bool} {p:Rat} {m:Nat} (hx:x.is p m) (hl:Bly l) (h8:l.length≤8) (hf:fit (4*(m+2)+10) N) (hN:4000≤N):∀ (k j fuel:Nat) (a:Int) (bl bh:Bool) (ql qh:Rat) (xl xh:RatD),j+k=l.length→k<fuel→(-1048576*((j:Int)+1)≤a∧a≤1048576*((j:Int)+1))→xl.is ql 2→xh.is qh 2 →
  (∀ (y z:RatD),y.is (A50 p a bl ql (l.drop j)).2 2→z.is (Atl p a bh qh (l.drop j)).2 2→K y.av z.av (A50 p a bl ql (l.drop j)).1 (Atl p a bh qh (l.drop j)).1=X) →
  Gm N K (l.flatMap SegD.av) l.length d o x.av fuel bl bh a (l.length:Int) (j:Int) xl.av xh.av=X:=by
 intro k
 induction k with
 | zero =>
  intro j fuel a bl bh ql qh xl xh hj T ha L M hX
  obtain⟨fuel,rfl⟩:∃ k,fuel=k+1:=⟨fuel - 1,by omega⟩
  rw[Gm];unfold Tl
  rw[Kn (by omega),cf]
  rw[Dz (l:=l) (by omega)] at hX
  exact hX xl xh L M
 | succ k ih =>
  intro j fuel a bl bh ql qh xl xh hj T ha L M hX
  obtain⟨fuel,rfl⟩:∃ k,fuel=k+1:=⟨fuel - 1,by omega⟩
  rw[Gm];unfold Tl
  have h:j<l.length:=by omega
  have hr:=hl l[j] (List.getElem_mem h)
  rw[Iz h,ct,Aa h,ct,rC h]
  have p0:List.take 2 ((AV.int .i64 l[j].width)::(AV.int .i64 l[j].price)::(l.drop (j+1)).flatMap SegD.av)=[(.int .i64 l[j].width),(.int .i64 l[j].price)]:=rfl
  rw[p0,show Nat.ble 2 (List.length ((AV.int .i64 l[j].width)::(AV.int .i64 l[j].price)::(l.drop (j+1)).flatMap SegD.av))=true by simp,ct]
  rw[show((!d)||A8 [(AV.int .i64 l[j].width),(.int .i64 l[j].price)])=true by cases d<;>rfl,ct]
  rw[show((Nat.beq (List.length [(AV.int .i64 l[j].width),(.int .i64 l[j].price)]) 2)&&((Nat.ble 2 2)&&(!false)))=true from rfl,ct]
  simp only[LO,b3,ct,Aob,lC]
  have e1:IntKind.wrap .i64 (a+l[j].width)=a+l[j].width:=i64 (by omega)
  rw[e1]
  refine It (by omega) (by omega) fun f1 U=>?_
  rw[Bfx hx (U.is (qi (by omega))) hf]
  refine It (by omega) (by omega) fun f2 V=>?_
  rw[Bfx hx (V.is (qi (by omega))) hf]
  rw[Bs h] at hX
  simp only[A50,Atl] at hX
  generalize hA:JO p (a:Rat)=A at hX ⊢
  generalize hB:JO p ((a+l[j].width:Int):Rat)=B at hX ⊢
  have second:∀ (D:Bool) (F:Rat) (G:RatD),G.is F 2 →
    (∀ (y z:RatD),y.is (A50 p (a+l[j].width) D F (l.drop (j+1))).2 2→z.is (cond (decide (A≥0)&&decide (B<0)) (Atl p (a+l[j].width) true (l[j].price:Rat) (l.drop (j+1))) (Atl p (a+l[j].width) bh qh (l.drop (j+1)))).2 2→K y.av z.av (A50 p (a+l[j].width) D F (l.drop (j+1))).1 (cond (decide (A≥0)&&decide (B<0)) (Atl p (a+l[j].width) true (l[j].price:Rat) (l.drop (j+1))) (Atl p (a+l[j].width) bh qh (l.drop (j+1)))).1=X) →
    Pn N (Gm N K (l.flatMap SegD.av) l.length d o x.av fuel) K bh A B (l.flatMap SegD.av) l.length d (l.length:Int) (j:Int) o x.av xh.av D (a+l[j].width) G.av (setCells [(.int .i64 0),(.int .i64 0)] 0 [(.int .i64 l[j].width),(.int .i64 l[j].price)])=X:=by
   intro D F G I hX'
   unfold Pn
   rw[lC,wS (by omega)]
   cases C:(decide (A≥0)&&decide (B<0)) with
   | true =>
    rw[C] at hX'
    simp only[Bool.and_eq_true] at C
    rw[C.1,C.2]
    refine It (by omega) (by omega) fun f3 S=>?_
    rw[c4,ct,rI]
    exact ih (j+1) fuel _ _ _ _ _ _ _ (by omega) (by omega) (by omega) I (S.is (qi (by omega))) hX'
   | false =>
    rw[C] at hX'
    have go:=ih (j+1) fuel (a+l[j].width) D bh F qh G xh (by omega) (by omega) (by omega) I M hX'
    rw[go]
    cases Y:decide (A≥0) with
    | false=>rfl
    | true =>
     rw[Y,Bool.true_and] at C
     rw[C];rfl
  cases C:(decide (A>0)&&decide (B≤0)) with
  | true =>
   rw[C] at hX
   simp only[Bool.and_eq_true] at C
   rw[C.1,C.2]
   refine It (by omega) (by omega) fun f3 S=>?_
   rw[Bfw,ct,rI]
   exact second true _ f3 (S.is (qi (by omega))) hX
  | false =>
   rw[C] at hX
   rw[second bl ql xl L hX]
   cases Y:decide (A>0) with
   | false=>rfl
   | true =>
    rw[Y,Bool.true_and] at C
    rw[C];rfl
def Bn1 (u:UnitD) (p:Rat):Bool:=C7 u 24&&Bcr p u.min u.max
def Bnn (u:UnitD) (p:Rat):Bool×Rat:=cond (Bn1 u p) (A50 p u.min false 0 u.segs.l) (false,0)
def Bno (u:UnitD) (p:Rat):Bool×Rat:=cond (Bn1 u p) (Atl p u.min false 0 u.segs.l) (false,0)
theorem A51 {N:Nat} {X:O R} {K:LA→LA→Bool→Bool→O R} {u:UnitD} {x:RatD} {o o':Bool} {p:Rat} {m:Nat} (C:x.is p m) (G:u.away.l.length≤1000) (D:fit (200*(m+8)+12000) N) (hN:4000≤N)
  (h:∀ y z:RatD,y.is (Bnn u p).2 2→z.is (Bno u p).2 2→K y.av z.av (Bnn u p).1 (Bno u p).1=X):U5 N u.av o x.av o' K=X:=by
 rw[bV];unfold FD
 simp only[Cl,Bg,ct,b3,LO,u2,u3]
 rw[Zf (by omega) (by omega) (by omega)]
 unfold Bnn Bno Bn1 at h
 cases k:C7 u 24 with
 | false =>
  rw[k] at h
  exact h TV TV Ks Ks
 | true =>
  have I:=lG k
  have F:=Pw k
  rw[k,Bool.true_and] at h
  rw[show((!true)==false)=true from rfl,ct,iZ C (by omega) (by omega) (D.le (by omega)) (by omega)]
  cases hi:Bcr p u.min u.max with
  | false =>
   rw[hi] at h
   exact h TV TV Ks Ks
  | true =>
   rw[hi] at h
   rw[show(cond false true (!true))=false from rfl,cf]
   unfold V8 CK
   rw[u2,u4]
   exact Bjs C (GR k) F.1 (D.le (by omega)) hN u.segs.l.length 0 N u.min false false 0 0 TV TV (by omega) (by omega) (by omega) Ks Ks h
end
end Gx

namespace Gx
open Go Go.Proofs
set_option maxRecDepth 100000
section
variable {R:Type}
def Bmq:UnitD:={ name:=[],bus:=0,min:=10,max:=40,segs:=.of [⟨20,3⟩,⟨10,5⟩] false false,noLoad:=0,rampUp:=5,rampDown:=10,startRamp:=15,stopRamp:=15,upTime:=0,downTime:=0,startTime:=0,hotCost:=0,coldCost:=0,hotHours:=0,reserve:=0,reservePrice:=0,away:=.nil,state:=2,hours:=1,output:=12 }
theorem Bjt {N:Nat} {K:LA→O R}:Sn N K=K Bmq.av:=by rw[M_];rfl
def A26:LA:=[.int .i64 2,.int .i64 1]
def Bia:LA:=[.int .i64 0,.int .i64 1]
def Bib:LA:=[.int .i64 2,.int .i64 2,.int .i64 0]
theorem Bju {n:Nat} {o:Bool} {K:LA→O R}:YH (n+64) Bmq.av o K=K []:=by rw[gj];kernel_rfl
theorem uh {n:Nat} {o:Bool} {K:Bool→O R}:Ph (n+64) Bmq.av o K=K true:=by
 rw[Od (by omega)];rfl
theorem A0w {n:Nat} {o:Bool} {K:Int→Int→O R}:NZ (n+64) Bmq.av o K=K 1 1:=by
 rw[gk];unfold uG
 rw[Cl,ct,Bg,uh];kernel_rfl
theorem Bjv {n:Nat} {o:Bool} {K:LA→O R}:Ub (n+64) Bmq.av o K=K A26:=by
 rw[JE];unfold N_
 simp only[Cl,ct,Bg,uh,A0w];kernel_rfl
theorem Bl1 {n:Nat} {o o':Bool} {K:Int→O R}:Lz (n+64) Bmq.av o A26 o' K=K 1:=by
 rw[CM];unfold V9 Po Tm
 simp only[Cl,ct,Bg,uh,A0w];kernel_rfl
theorem A0x {n:Nat} {o:Bool} {K:LA→Nat→O R}:Wa (n+64) Bmq.av o A26 false K=K (Bia++A26) 2:=by
 rw[gw];unfold gv
 rw[show List.take 2 A26=A26 from rfl]
 simp only[Cl,ct,Bg,Bl1,A0w];kernel_rfl
theorem Bic {N:Nat} {k h v:Int} {o:Bool} {K:Bool→O R}:Mk N [.int .i64 k,.int .i64 h] o v K=K (k==v):=by
 rw[JI];rfl
theorem Bcs {n:Nat} {a:Bool} {K:Int→O R}:Ar (n+64) (Bia++A26) 2 a false 2 K=K 1:=by
 rw[Bi]
 change Mk _ Bia _ _ _=_
 rw[Bia,Bic]
 change Mk _ A26 _ _ _=_
 rw[A26,Bic];rfl
theorem Bjw {n:Nat} {a:Bool} {K:Int→O R}:Ar (n+64) (Bia++A26) 2 a false 0 K=K 0:=by
 rw[Bi]
 change Mk _ Bia _ _ _=_
 rw[Bia,Bic];rfl
theorem Bjx {n:Nat} {o a b:Bool} {K:Nat→Int→Int→LA→O R}:FE (n+64) Bmq.av o Bib 3 a b K=K 3 3 0 (A26++A26++Bia):=by
 rw[hG];unfold gz
 simp only[Cl,ct,Bg,uh,Bju,Bjv]
 change Wa _ Bmq.av _ A26 _ _=_
 rw[A0x]
 change Ar _ (Bia++A26) 2 _ _ _ _=_
 rw[Bcs]
 change Wa _ Bmq.av _ A26 _ _=_
 rw[A0x]
 change Ar _ (Bia++A26) 2 _ _ _ _=_
 rw[Bcs]
 change Wa _ Bmq.av _ A26 _ _=_
 rw[A0x]
 change Ar _ (Bia++A26) 2 _ _ _ _=_
 rw[Bjw]
 kernel_rfl
theorem Bl2 {n:Nat} {o a b:Bool} {K:Nat→LA→O R}:Yi (n+64) Bmq.av o 3 Bib 3 a b K=K 3 [.int .i64 10,.int .i64 17,.int .i64 10,.int .i64 22,.int .i64 0,.int .i64 0]:=by
 rw[h_];kernel_rfl
theorem Bl3 {n:Nat} {o a b:Bool} {K:LA→O R}:U6 (n+64) Bmq.av o 3 Bib 3 a b [.int .i64 10,.int .i64 17,.int .i64 10,.int .i64 22,.int .i64 0,.int .i64 0] K=K [.int .i64 10,.int .i64 17,.int .i64 10,.int .i64 15,.int .i64 0,.int .i64 0]:=by
 rw[bZ];kernel_rfl
theorem Bl4 {n:Nat} {o a b:Bool} {K:Nat→Int→LA→O R}:U7 (n+64) Bmq.av o 3 Bib 3 a b K=K 3 0 [.int .i64 10,.int .i64 17,.int .i64 10,.int .i64 15,.int .i64 0,.int .i64 0]:=by
 rw[b8];unfold FF
 rw[Cl,ct,Bg,Zf (by omega) (by decide) (by simp[Bmq,Sl.l]),show C7 Bmq 3=true from rfl]
 rw[Bjx]
 unfold Wc CN
 rw[Cl,ct,Bg,Bl2,Bl3]
 kernel_rfl
theorem i8 (q:Rat):JO q q=0:=by
 unfold JO
 rw[if_neg (Rat.lt_irrefl),if_neg (Rat.lt_irrefl)]
theorem Ao1 {N:Nat} {K:Bool→O R} (k:fit 100000 N):U8 N K=K true:=by
 have hN:4000≤N:=by have:=k.1;omega
 obtain⟨n,rfl⟩:∃ n,N=n+64:=⟨N - 64,by omega⟩
 rw[b_];unfold YL
 rw[Bjt,show((Nat.beq 0 0)&&((Nat.beq (List.length Bmq.av) 22)&&(Nat.beq 22 22)))=true from rfl,ct,Cl,ct,Bg,Ry (by omega) hN]
 refine Ao0 (m:=2) (Bcq (by omega)) (by decide) (k.le (by omega)) hN fun d C=>?_
 rw[show Bn0 Bmq ((35:Int):Rat)=0 by kernel_rfl]
 rw[show Bjr Bmq ((35:Int):Rat)=((85:Int):Rat) by kernel_rfl] at C
 rw[c3,ct,ct,Ry (by omega) hN]
 refine A51 (m:=2) (Bcq (by omega)) (by decide) (k.le (by omega)) hN fun y z D F=>?_
 rw[show Bnn Bmq ((30:Int):Rat)=(true,((3:Int):Rat)) by kernel_rfl] at D ⊢
 rw[show Bno Bmq ((30:Int):Rat)=(true,((5:Int):Rat)) by kernel_rfl] at F ⊢
 rw[c3,ct,c3,ct,ct]
 rw[show [(AV.int .i64 2),(.int .i64 2),(.int .i64 0)]=Bib from rfl,Bl4,b3,ct,LO,Ry (by omega) hN,yZ C (Bcq (by omega)) (k.le (by omega)),i8]
 rw[b3,LO,Ry (by omega) hN,yZ D (Bcq (by omega)) (k.le (by omega)),i8]
 rw[b3,LO,Ry (by omega) hN,yZ F (Bcq (by omega)) (k.le (by omega)),i8]
 rfl
end
end Gx

namespace Gx
open Go Go.Proofs
open IntKind (wrap)
set_option maxRecDepth 100000
noncomputable section
variable {R:Type} (N:Nat)
def A0y (N:Nat) (b:LA) (c:Nat) (d e:Bool) (r0:O R):O R :=
 r0
def A0z:=(Ae (@A0y R)).1
theorem Ao2:@A0z R=@A0y R:=(Ae _).2
def Axl (b:LA) (c:Nat) (d e:Bool) (F:KF R):O R:=F (op 0) (hq [⟨false,false,false,false,0,[(.imm b c 1 d e),(iv 0)],false⟩])
theorem Axm (b:LA) (c:Nat) (d e:Bool) (F:KF R):Cd [] C6 N 105 [(.imm b c 1 d e)] [] F=(A0z N b c d e (Axl b c d e F)):=by
 rw[Ao2]
 kernel_rfl
def Ao3 (a:LA) (h:Ak) (k:KF R):O R :=
 match a,h with
 | [(.imm b c 1 d e)],[]=>(A0z N b c d e (Axl b c d e k))
 | _,_=>none
theorem Axn:An N 105 @Ao3:=by
 intro R Q a h k j;unfold Ao3;split;exact Ax (Axm ..) (Axm ..) trivial;exact Az
def Bfy:=Ay (Axn N)
def Bfz:=Ca (Axn N)
def A00 (N:Nat) (c b:Int) (r0:Int→O R):O R :=
 (cond ((wrap .u64 b)==0) none (r0 (wrap .i64 (Int.tmod (wrap .u64 c) (wrap .u64 b)))))
def A01:=(Ae (@A00 R)).1
theorem Ao4:@A01 R=@A00 R:=(Ae _).2
def Axo (F:KF R):Int→O R:=(fun d=>F (iv d) [])
theorem Axp (c b:Int) (F:KF R):Cd [] C6 N 150 [(iv c),(iv b)] [] F=(A01 N c b (Axo F)):=by
 rw[Ao4]
 kernel_rfl
def Ao5 (a:LA) (h:Ak) (k:KF R):O R :=
 match a,h with
 | [(.int .i64 c),(.int .i64 b)],[]=>(A01 N c b (Axo k))
 | _,_=>none
theorem Axq:An N 150 @Ao5:=by
 intro R Q a h k j;unfold Ao5;split;exact Ax (Axp ..) (Axp ..) trivial;exact Az
def Bf0:=Ay (Axq N)
def Bf1:=Ca (Axq N)
def Zi (g:Int) (c:LA) (b:Nat) (e f:Bool) (d:Int) (r0:Int→Int→O R):O R :=
 (cond (decide (d≥((b:Nat):Int))) (r0 0 d) (cond (Ac (wrap .i64 ((wrap .i64 (d+1)) - 1)) b) (Ao .i64 (c.drop (((wrap .i64 ((wrap .i64 (d+1)) - 1)).toNat)*1)) fun i=>(A01 N i g (fun l=>(r0 l (wrap .i64 (d+1)))))) none))
def Ag:=(Ae (@Zi R)).1
theorem Ym:@Ag R=@Zi R:=(Ae _).2
def Ao6:Dg:=[(150,Bf0 N)]
def cH (c:LA) (b:Nat) (e f:Bool) (F:KF R):Int→Int→O R:=(fun m n=>F (iv m) [(100000,⟨false,false,false,false,0,[(.imm c b 1 e f),(iv n)],false⟩)])
theorem cI (g:Int) (c:LA) (b:Nat) (e f:Bool) (d:Int) (F:KF R):Cd (Ao6 N) C6 N 106 [(.optr 100000 0),(iv g)] [(100000,⟨false,false,false,false,0,[(.imm c b 1 e f),(iv d)],false⟩)] F=(Ag N g c b e f d (cH c b e f F)):=by
 rw[Ym]
 kernel_rfl
def TW (a:LA) (h:Ak) (k:KF R):O R :=
 match a,h with
 | [(.optr 100000 0),(.int .i64 g)],[(100000,⟨false,false,false,false,0,[(.imm c b 1 e f),(.int .i64 d)],false⟩)]=>(Ag N g c b e f d (cH c b e f k))
 | _,_=>none
theorem cJ:An N 106 @TW:=by
 intro R Q a h k j;unfold TW;split;exact Ax (cI ..) (cI ..) ⟨Bf1 N,trivial⟩;exact Az
def Jd:=Ay (cJ N)
def Je:=Ca (cJ N)
def O2 (r0:Nat→Int→LA→O R) (f g:Int) (b:LA) (c:Nat) (d e:Bool) (k0:Nat→Int→Int→LA→O R) (i:Nat) (l m:Int) (o:LA):O R :=
 (cond (decide (l<f)) (Ag N g b c d e m (fun q r=>(cond ((Nat.ble (i+1) 140737488355328)&&(Nat.ble ((i+1)*8) 140737488355328)) (k0 (i+1) (wrap .i64 (l+1)) r ((o.take (i*1))++[(.int .i64 q)])) none))) (r0 i m o))
def F3 (r0:Nat→Int→LA→O R) (f g:Int) (b:LA) (c:Nat) (d e:Bool):Nat→Nat→Int→Int→LA→O R
 | 0,_,_,_,_=>none
 | n+1,i,l,m,o=>(O2 N r0 f g b c d e (F3 r0 f g b c d e n) i l m o)
def We (N:Nat) (r0:Nat→Int→LA→O R) (q0:Nat→Int→Int→LA→O R) (f g:Int) (b:LA) (c:Nat) (d e:Bool) (p:Int):O R :=
 (q0 0 0 p [])
def E5:=(Ae (fun (N:Nat) (f g:Int) (b:LA) (c:Nat) (d e:Bool) (p:Int) (r0:Nat→Int→LA→O R)=>(We N r0 (fun i l m o=>(F3 N r0 f g b c d e N i l m o)) f g b c d e p))).1
theorem OG (f g b c d e p r0):(@E5 R N f g b c d e p r0)=(We N r0 (fun i l m o=>(F3 N r0 f g b c d e N i l m o)) f g b c d e p):=by rw[E5,(Ae _).2]
def TX:Hints:={ H:=(hS hL (hS hL (hS (hS hL (hS (hP [0,1,2,7,8] hL) hL)) hL))),nils:=[(6,1),(7,1)],modes:=[(2,1)] }
def cL:Dg:=[(106,Jd N)]
def y5 (F:KF R):=Hp Tryz.f107 TX (cL N) [100000] N F
def Lj (b:LA) (c:Nat) (d e:Bool) (F:KF R):Nat→Int→LA→O R:=(fun s t u=>F (.own 300000 0 s) [(100000,⟨false,false,false,false,0,[(.imm b c 1 d e),(iv t)],false⟩),(300000,(bQ 1 u))])
def y7 (f g:Int) (b:LA) (c:Nat) (d e:Bool) (i:Nat) (l m:Int) (o:LA):St:=⟨[(0,(.optr 100000 0)),(1,(iv f)),(2,(iv g)),(7,(.own 300000 0 i)),(8,(iv l))],[(100000,⟨false,false,false,false,0,[(.imm b c 1 d e),(iv m)],false⟩),(300000,(bQ 1 o))]⟩
def y9 (F:KF R):=y5 N F [1,1,0,1,0] []
theorem DN (F:KF R) (f g:Int) (b:LA) (c:Nat) (d e:Bool):∀ (n i:Nat) (l m:Int) (o:LA),Ap (y9 N F) n (y7 f g b c d e i l m o)=(F3 N (Lj b c d e F) f g b c d e n i l m o)
 | 0,_,_,_,_=>by kernel_rfl
 | n+1,i,l,m,o=>Eq.trans (by kernel_rfl) (Bm (O2 N (Lj b c d e F) f g b c d e · i l m o) (funext fun i=>funext fun l=>funext fun m=>funext fun o=>(DN F f g b c d e n i l m o)):_)
theorem TY (f g:Int) (b:LA) (c:Nat) (d e:Bool) (p:Int) (F:KF R):Cd (cL N) TX N 107 [(.optr 100000 0),(iv f),(iv g)] [(100000,⟨false,false,false,false,0,[(.imm b c 1 d e),(iv p)],false⟩)] F=(E5 N f g b c d e p (Lj b c d e F)):=by
 rw[OG]
 exact Eq.trans (by kernel_rfl) (Bm (We N (Lj b c d e F) · f g b c d e p) (funext fun i=>funext fun l=>funext fun m=>funext fun o=>(Ai ..).trans (DN N F f g b c d e N i l m o)):_)
def OH (a:LA) (h:Ak) (k:KF R):O R :=
 match a,h with
 | [(.optr 100000 0),(.int .i64 f),(.int .i64 g)],[(100000,⟨false,false,false,false,0,[(.imm b c 1 d e),(.int .i64 p)],false⟩)]=>(E5 N f g b c d e p (Lj b c d e k))
 | _,_=>none
theorem TZ:An N 107 @OH:=by
 intro R Q a h k j;unfold OH;split;exact Ax (TY ..) (TY ..) ⟨Je N,trivial⟩;exact Az
def y_:=Ay (TZ N)
def ya:=Ca (TZ N)
def Ao7 (N:Nat) (c:List UInt8) (b:Int) (r0:List UInt8→O R):O R :=
 (cond ((decide (0≤(Int.tmod b 16)))&&((decide ((Int.tmod b 16)≤(wrap .i64 ((Int.tmod b 16)+1))))&&((decide ((wrap .i64 ((Int.tmod b 16)+1))≤16))&&(decide ((16:Int)≤(16:Int)))))) (cond (Nat.ble ((c.length)+(List.length (List.take (((wrap .i64 ((Int.tmod b 16)+1)).toNat) - ((Int.tmod b 16).toNat)) (List.drop ((Int.tmod b 16).toNat) ([48,49,50,51,52,53,54,55,56,57,97,98,99,100,101,102]:List UInt8))))) 140737488355328) (r0 (c++(List.take (((wrap .i64 ((Int.tmod b 16)+1)).toNat) - ((Int.tmod b 16).toNat)) (List.drop ((Int.tmod b 16).toNat) ([48,49,50,51,52,53,54,55,56,57,97,98,99,100,101,102]:List UInt8))))) none) none)
def OI:=(Ae (@Ao7 R)).1
theorem Acx:@OI R=@Ao7 R:=(Ae _).2
def Ao8 (F:KF R):List UInt8→O R:=(fun d=>F (.str d) [])
theorem Ao9 (c:List UInt8) (b:Int) (F:KF R):Cd [] C6 N 108 [(.str c),(iv b)] [] F=(OI N c b (Ao8 F)):=by
 rw[Acx]
 kernel_rfl
def Acy (a:LA) (h:Ak) (k:KF R):O R :=
 match a,h with
 | [(.str c),(.int .i64 b)],[]=>(OI N c b (Ao8 k))
 | _,_=>none
theorem Apa:An N 108 @Acy:=by
 intro R Q a h k j;unfold Acy;split;exact Ax (Ao9 ..) (Ao9 ..) trivial;exact Az
def YZ:=Ay (Apa N)
def Y_:=Ca (Apa N)
def Zj (f:Int) (b:LA) (c:Nat) (d e:Bool) (g:Int) (r0:Nat→Int→LA→O R):O R :=
 (Ag N 6 b c d e g (fun l i=>(cond (l==5) (Ag N f b c d e i (fun m n=>(r0 1 n [(.int .i64 m)]))) (r0 0 i []))))
def Mn:=(Ae (@Zj R)).1
theorem Yn:@Mn R=@Zj R:=(Ae _).2
def Af4:Hints:={ H:=hL,nils:=[(4,1)],modes:=[(2,1)] }
def Apb:Dg:=[(106,Jd N)]
def cM (b:LA) (c:Nat) (d e:Bool) (F:KF R):Nat→Int→LA→O R:=(fun o p q=>F (.own 300000 0 o) [(100000,⟨false,false,false,false,0,[(.imm b c 1 d e),(iv p)],false⟩),(300000,(bQ 1 q))])
theorem cN (f:Int) (b:LA) (c:Nat) (d e:Bool) (g:Int) (F:KF R):Cd (Apb N) Af4 N 151 [(.optr 100000 0),(iv f)] [(100000,⟨false,false,false,false,0,[(.imm b c 1 d e),(iv g)],false⟩)] F=(Mn N f b c d e g (cM b c d e F)):=by
 rw[Yn]
 kernel_rfl
def T_ (a:LA) (h:Ak) (k:KF R):O R :=
 match a,h with
 | [(.optr 100000 0),(.int .i64 f)],[(100000,⟨false,false,false,false,0,[(.imm b c 1 d e),(.int .i64 g)],false⟩)]=>(Mn N f b c d e g (cM b c d e k))
 | _,_=>none
theorem cO:An N 151 @T_:=by
 intro R Q a h k j;unfold T_;split;exact Ax (cN ..) (cN ..) ⟨Je N,trivial⟩;exact Az
def cP:=Ay (cO N)
def cQ:=Ca (cO N)
def Zk (l f g i:Int) (b:LA) (c:Nat) (d e:Bool) (m:Int) (r0:LA→Int→O R):O R :=
 (OI N ([108]:List UInt8) l (fun o=>(Ag N 4 b c d e m (fun p v=>(Ag N 2 b c d e v (fun q w=>(Ag N 40 b c d e w (fun n x=>(Ag N 20 b c d e x (fun r y=>(Ag N 5 b c d e y (fun z s=>(cond (z==4) (Ag N 4 b c d e s (fun aa ab=>(Ag N 2 b c d e ab (fun ac ad=>(Ag N 4 b c d e ad (fun ae af=>(Mn N i b c d e af (fun t ag ah=>(r0 [(.str o),(.int .i64 f),(.int .i64 g),(.int .i64 (wrap .i64 (1+p))),(.int .i64 (wrap .i64 (1+q))),(.int .i64 (wrap .i64 ((0:Int) - aa))),(.int .i64 (wrap .i64 (1+ac))),(.int .i64 ae),(.int .i64 1),(.int .i64 (wrap .i64 (4+n))),(.int .i64 (wrap .i64 ((wrap .i64 (4+n))+r))),(.imm (ah.take (t*1)) t 1 false false)] ag))))))))) (Mn N i b c d e s (fun u ai aj=>(r0 [(.str o),(.int .i64 f),(.int .i64 g),(.int .i64 (wrap .i64 (1+p))),(.int .i64 (wrap .i64 (1+q))),(.int .i64 0),(.int .i64 1),(.int .i64 0),(.int .i64 1),(.int .i64 (wrap .i64 (4+n))),(.int .i64 (wrap .i64 ((wrap .i64 (4+n))+r))),(.imm (aj.take (u*1)) u 1 false false)] ai))))))))))))))))
def Rd:=(Ae (@Zk R)).1
theorem Yo:@Rd R=@Zk R:=(Ae _).2
def Af5:Hints:={ H:=hL,modes:=[(3,0)],cob:=[28] }
def Apc:Dg:=[(108,YZ N),(106,Jd N),(151,cP N)]
def cR (b:LA) (c:Nat) (d e:Bool) (F:KF R):LA→Int→O R:=(fun ak al=>F (.pagg ak false) [(100000,⟨false,false,false,false,0,[(.imm b c 1 d e),(iv al)],false⟩)])
theorem cS (l f g i:Int) (b:LA) (c:Nat) (d e:Bool) (m:Int) (F:KF R):Cd (Apc N) Af5 N 109 [(.optr 100000 0),(iv l),(iv f),(iv g),(iv i)] [(100000,⟨false,false,false,false,0,[(.imm b c 1 d e),(iv m)],false⟩)] F=(Rd N l f g i b c d e m (cR b c d e F)):=by
 rw[Yo]
 kernel_rfl
def T' (a:LA) (h:Ak) (k:KF R):O R :=
 match a,h with
 | [(.optr 100000 0),(.int .i64 l),(.int .i64 f),(.int .i64 g),(.int .i64 i)],[(100000,⟨false,false,false,false,0,[(.imm b c 1 d e),(.int .i64 m)],false⟩)]=>(Rd N l f g i b c d e m (cR b c d e k))
 | _,_=>none
theorem cT:An N 109 @T':=by
 intro R Q a h k j;unfold T';split;exact Ax (cS ..) (cS ..) ⟨Y_ N,Je N,cQ N,trivial⟩;exact Az
def Af6:=Ay (cT N)
def Af7:=Ca (cT N)
def N0 (r0:LA→Int→O R) (b:LA) (c:Nat) (d e:Bool) (y:Int) (l:List UInt8) (m f i:Int) (g:Nat) (o z aa ab ac x u ad ae af:Int) (v:Nat) (w:Int) (p ag:LA) (ah ai aj ak:Int):O R :=
 (cond (w==2) (Ag N (wrap .i64 ((wrap .i64 (i - f))+1)) b c d e y (fun av aw=>(r0 [(.str l),(.int .i64 m),(.int .i64 f),(.int .i64 i),(.imm (p.take (g*2)) g 2 false false),(.int .i64 o),(.int .i64 z),(.int .i64 aa),(.int .i64 ah),(.int .i64 ai),(.int .i64 ab),(.int .i64 ac),(.int .i64 x),(.int .i64 u),(.int .i64 aj),(.int .i64 ad),(.int .i64 ae),(.int .i64 af),(.imm (ag.take (v*1)) v 1 false false),(.int .i64 w),(.int .i64 ak),(.int .i64 (wrap .i64 (f+av)))] aw))) (r0 [(.str l),(.int .i64 m),(.int .i64 f),(.int .i64 i),(.imm (p.take (g*2)) g 2 false false),(.int .i64 o),(.int .i64 z),(.int .i64 aa),(.int .i64 ah),(.int .i64 ai),(.int .i64 ab),(.int .i64 ac),(.int .i64 x),(.int .i64 u),(.int .i64 aj),(.int .i64 ad),(.int .i64 ae),(.int .i64 af),(.imm (ag.take (v*1)) v 1 false false),(.int .i64 w),(.int .i64 ak),(.int .i64 0)] y))
def Re (r0:LA→Int→O R) (q:Int) (b:LA) (c:Nat) (d e:Bool) (l:List UInt8) (m f o:Int) (k0:Int→Int→Int→Int→Nat→LA→O R) (q1:Int→Int→Int→Int→Int→Int→Int→Int→Int→Int→Nat→Int→LA→Int→Int→Int→Int→O R) (r s t i:Int) (g:Nat) (p:LA):O R :=
 (cond (decide (s>0)) (Ag N 15 b c d e t (fun ao ax=>(cond ((Nat.ble (g+1) 140737488355328)&&(Nat.ble ((g+1)*16) 140737488355328)) (Ag N 10 b c d e ax (fun ay az=>(k0 (wrap .i64 (r+ay)) (wrap .i64 (s - 1)) az (wrap .i64 (i+(wrap .i64 (1+ao)))) (g+1) ((p.take (g*2))++[(.int .i64 (wrap .i64 (1+ao))),(.int .i64 r)])))) none))) (Ag N 20 b c d e t (fun z ba=>(Ag N 20 b c d e ba (fun aa bb=>(Ag N (wrap .i64 ((wrap .i64 (i - f))+1)) b c d e bb (fun ap bc=>(Ag N (wrap .i64 ((wrap .i64 (i - f))+1)) b c d e bc (fun aq bd=>(Ag N 3 b c d e bd (fun ab be=>(Ag N 3 b c d e be (fun ac bf=>(Ag N 2 b c d e bf (fun x bg=>(Ag N 30 b c d e bg (fun u bh=>(Ag N 30 b c d e bh (fun ar bi=>(Ag N 4 b c d e bi (fun ad bj=>(Ag N 8 b c d e bj (fun ae bk=>(Ag N 4 b c d e bk (fun af bl=>(Mn N q b c d e bl (fun v bm ag=>(Ag N (wrap .i64 (2+x)) b c d e bm (fun au bn=>(cond (Ac au 3) (Ao .i64 (List.drop (0+((au.toNat)*1)) [(.int .i64 0),(.int .i64 2),(.int .i64 1)]) fun w=>(Ag N 4 b c d e bn (fun bo y=>(cond (w==1) (q1 y z aa ab ac x u ad ae af v w ag (wrap .i64 (f+ap)) (wrap .i64 (f+aq)) (wrap .i64 (u+ar)) 1) (q1 y z aa ab ac x u ad ae af v w ag (wrap .i64 (f+ap)) (wrap .i64 (f+aq)) (wrap .i64 (u+ar)) (wrap .i64 (1+bo))))))) none))))))))))))))))))))))))))))))
def Fq (r0:LA→Int→O R) (q:Int) (b:LA) (c:Nat) (d e:Bool) (l:List UInt8) (m f o:Int):Nat→Int→Int→Int→Int→Nat→LA→O R
 | 0,_,_,_,_,_,_=>none
 | n+1,r,s,t,i,g,p=>(Re N r0 q b c d e l m f o (Fq r0 q b c d e l m f o n) (fun y z aa ab ac x u ad ae af v w ag ah ai aj ak=>(N0 N r0 b c d e y l m f i g o z aa ab ac x u ad ae af v w p ag ah ai aj ak)) r s t i g p)
def Zl (r0:LA→Int→O R) (q0:List UInt8→Int→Int→Int→Int→Int→Int→Int→Nat→LA→O R) (al am q:Int) (b:LA) (c:Nat) (d e:Bool) (an:Int):O R :=
 (OI N ([117]:List UInt8) al (fun l=>(Ag N am b c d e an (fun m bp=>(Ag N 8 b c d e bp (fun f bq=>(Ag N 20 b c d e bq (fun o br=>(Ag N 20 b c d e br (fun bs bt=>(Ag N 2 b c d e bt (fun bu bv=>(q0 l m f o (wrap .i64 (bs - 2)) (wrap .i64 (1+bu)) bv f 0 [])))))))))))))
def Rf:=(Ae (fun (N:Nat) (al am q:Int) (b:LA) (c:Nat) (d e:Bool) (an:Int) (r0:LA→Int→O R)=>(Zl N r0 (fun l m f o r s t i g p=>(Fq N r0 q b c d e l m f o N r s t i g p)) al am q b c d e an))).1
theorem UA (al am q b c d e an r0):(@Rf R N al am q b c d e an r0)=(Zl N r0 (fun l m f o r s t i g p=>(Fq N r0 q b c d e l m f o N r s t i g p)) al am q b c d e an):=by rw[Rf,(Ae _).2]
def cU:Hints:={ H:=(hS hL (hS hL (hS hL (hS hL (hS (hS hL (hS (hP [0,3,8,9,10,11] hL) hL)) (hS hL (hS hL (hS hL (hS hL (hS hL (hS hL (hS hL (hS hL (hJ [0,8,9] hL hL)))))))))))))),modes:=[(3,0)],cob:=[22] }
def i9:Dg:=[(108,YZ N),(106,Jd N),(151,cP N)]
def cV (F:KF R):=Hp Tryz.f110 cU (i9 N) [100000] N F
def Jf (b:LA) (c:Nat) (d e:Bool) (F:KF R):LA→Int→O R:=(fun bw bx=>F (.pagg bw false) [(100000,⟨false,false,false,false,0,[(.imm b c 1 d e),(iv bx)],false⟩)])
def Af8 (b:LA) (c:Nat) (d e:Bool) (y:Int) (l:List UInt8) (m f i:Int) (g:Nat) (o z aa ab ac x u ad ae af:Int) (v:Nat) (w:Int) (p ag:LA) (ah ai aj ak:Int):St:=⟨[(0,(.optr 100000 0)),(8,(op 0)),(9,(op 1))],[(100000,⟨false,false,false,false,0,[(.imm b c 1 d e),(iv y)],false⟩),(300000,⟨false,false,false,false,0,[(.str ([]:List UInt8)),(iv 0),(iv 0),(iv 0),.nsl,(iv 0),(iv 0),(iv 0),(iv 0),(iv 0),(iv 0),(iv 0),(iv 0),(iv 0),(iv 0),(iv 0),(iv 0),(iv 0),.nsl,(iv 0),(iv 0),(iv 0)],false⟩),(300001,⟨false,false,false,false,0,[(.str l),(iv m),(iv f),(iv i),(.own 300002 0 g),(iv o),(iv z),(iv aa),(iv ah),(iv ai),(iv ab),(iv ac),(iv x),(iv u),(iv aj),(iv ad),(iv ae),(iv af),(.own 300003 0 v),(iv w),(iv ak),(iv 0)],false⟩),(300002,(bQ 2 p)),(300003,(bQ 1 ag))]⟩
def Af9 (F:KF R):=cV N F [1,1,1,1,1,1,1,1,1,1,1,1,1,1] []
def Aga (q:Int) (b:LA) (c:Nat) (d e:Bool) (l:List UInt8) (m f o r s t i:Int) (g:Nat) (p:LA):St:=⟨[(0,(.optr 100000 0)),(3,(iv q)),(8,(op 0)),(9,(op 1)),(10,(iv r)),(11,(iv s))],[(100000,⟨false,false,false,false,0,[(.imm b c 1 d e),(iv t)],false⟩),(300000,⟨false,false,false,false,0,[(.str ([]:List UInt8)),(iv 0),(iv 0),(iv 0),.nsl,(iv 0),(iv 0),(iv 0),(iv 0),(iv 0),(iv 0),(iv 0),(iv 0),(iv 0),(iv 0),(iv 0),(iv 0),(iv 0),.nsl,(iv 0),(iv 0),(iv 0)],false⟩),(300001,⟨false,false,false,false,0,[(.str l),(iv m),(iv f),(iv i),(.own 300002 0 g),(iv o),(iv 0),(iv 0),(iv 0),(iv 0),(iv 0),(iv 0),(iv 0),(iv 0),(iv 0),(iv 0),(iv 0),(iv 0),(.own 300003 0 0),(iv 0),(iv 0),(iv 0)],false⟩),(300002,(bQ 2 p)),(300003,(bQ 1 []))]⟩
def Agb (F:KF R):=cV N F [1,1,1,1,0,1,0] []
theorem rJ (F:KF R) (b:LA) (c:Nat) (d e:Bool) (y:Int) (l:List UInt8) (m f i:Int) (g:Nat) (o z aa ab ac x u ad ae af:Int) (v:Nat) (w:Int) (p ag:LA):∀ (ah ai aj ak:Int),A9 (Af9 N F) (Af8 b c d e y l m f i g o z aa ab ac x u ad ae af v w p ag ah ai aj ak)=(N0 N (Jf b c d e F) b c d e y l m f i g o z aa ab ac x u ad ae af v w p ag ah ai aj ak):=by
 intro ah ai aj ak
 kernel_rfl
theorem JP (F:KF R) (q:Int) (b:LA) (c:Nat) (d e:Bool) (l:List UInt8) (m f o:Int):∀ (n:Nat) (r s t i:Int) (g:Nat) (p:LA),Ap (Agb N F) n (Aga q b c d e l m f o r s t i g p)=(Fq N (Jf b c d e F) q b c d e l m f o n r s t i g p)
 | 0,_,_,_,_,_,_=>by kernel_rfl
 | n+1,r,s,t,i,g,p=>Eq.trans (by kernel_rfl) (fQ (Re N (Jf b c d e F) q b c d e l m f o · · r s t i g p) (funext fun r=>funext fun s=>funext fun t=>funext fun i=>funext fun g=>funext fun p=>(JP F q b c d e l m f o n r s t i g p)) (funext fun y=>funext fun z=>funext fun aa=>funext fun ab=>funext fun ac=>funext fun x=>funext fun u=>funext fun ad=>funext fun ae=>funext fun af=>funext fun v=>funext fun w=>funext fun ag=>funext fun ah=>funext fun ai=>funext fun aj=>funext fun ak=>(Aq ..).trans (rJ N F b c d e y l m f i g o z aa ab ac x u ad ae af v w p ag ah ai aj ak)):_)
theorem cW (al am q:Int) (b:LA) (c:Nat) (d e:Bool) (an:Int) (F:KF R):Cd (i9 N) cU N 110 [(.optr 100000 0),(iv al),(iv am),(iv q)] [(100000,⟨false,false,false,false,0,[(.imm b c 1 d e),(iv an)],false⟩)] F=(Rf N al am q b c d e an (Jf b c d e F)):=by
 rw[UA]
 exact Eq.trans (by kernel_rfl) (Bm (Zl N (Jf b c d e F) · al am q b c d e an) (funext fun l=>funext fun m=>funext fun f=>funext fun o=>funext fun r=>funext fun s=>funext fun t=>funext fun i=>funext fun g=>funext fun p=>(Ai ..).trans (JP N F q b c d e l m f o N r s t i g p)):_)
def UB (a:LA) (h:Ak) (k:KF R):O R :=
 match a,h with
 | [(.optr 100000 0),(.int .i64 al),(.int .i64 am),(.int .i64 q)],[(100000,⟨false,false,false,false,0,[(.imm b c 1 d e),(.int .i64 an)],false⟩)]=>(Rf N al am q b c d e an (Jf b c d e k))
 | _,_=>none
theorem cX:An N 110 @UB:=by
 intro R Q a h k j;unfold UB;split;exact Ax (cW ..) (cW ..) ⟨Y_ N,Je N,cQ N,trivial⟩;exact Az
def Agc:=Ay (cX N)
def Agd:=Ca (cX N)
def Im (r0:LA→Int→O R) (f:Int) (b:LA) (c:Nat) (d e:Bool) (g:List UInt8) (i:Nat) (l:LA) (k1:Int→Int→Nat→LA→O R) (o q:Int) (m:Nat) (p:LA):O R :=
 (cond (decide (o<f)) (Ag N 2 b c d e q (fun ab w=>(cond (ab==1) (Ag N 8 b c d e w (fun ac ad=>(Ag N 8 b c d e ad (fun ae af=>(cond ((Nat.ble (m+1) 140737488355328)&&(Nat.ble ((m+1)*24) 140737488355328)) (k1 (wrap .i64 (o+1)) af (m+1) ((p.take (m*3))++[(.int .i64 o),(.int .i64 ac),(.int .i64 ae)])) none))))) (k1 (wrap .i64 (o+1)) w m p)))) (r0 [(.str g),(.imm (l.take (i*1)) i 1 false false),(.bool true),(.imm (p.take (m*3)) m 3 false false)] q))
def Fc (r0:LA→Int→O R) (f:Int) (b:LA) (c:Nat) (d e:Bool) (g:List UInt8) (i:Nat) (l:LA):Nat→Int→Int→Nat→LA→O R
 | 0,_,_,_,_=>none
 | n+1,o,q,m,p=>(Im N r0 f b c d e g i l (Fc r0 f b c d e g i l n) o q m p)
def Mo (r0:LA→Int→O R) (f:Int) (b:LA) (c:Nat) (d e:Bool) (g:List UInt8) (q1:Int→Int→Nat→LA→O R) (r:Int) (i:Nat) (l:LA):O R :=
 (Ag N 2 b c d e r (fun ag x=>(cond (ag==1) (q1 0 x 0 []) (r0 [(.str g),(.imm (l.take (i*1)) i 1 false false),(.bool false),(.imm [] 0 3 false false)] x))))
def Fd (r0:LA→Int→O R) (f:Int) (b:LA) (c:Nat) (d e:Bool) (g:List UInt8) (r:Int) (i:Nat) (l:LA):O R:=(Mo N r0 f b c d e g (fun o q m p=>(Fc N r0 f b c d e g i l N o q m p)) r i l)
def Jg (r0:LA→Int→O R) (q0:List UInt8→Int→Nat→LA→O R) (t s f:Int) (b:LA) (c:Nat) (d e:Bool) (u:Int):O R :=
 (OI N ([111]:List UInt8) t (fun g=>(Ag N s b c d e u (fun v ah=>(Ag N s b c d e ah (fun y z=>(cond ((decide (y>v))==true) (Ag N 3 b c d e z (fun ai aa=>(cond (cond true (ai==2) false) (q0 g aa 2 [(.int .i64 v),(.int .i64 y)]) (q0 g aa 1 [(.int .i64 v)])))) (q0 g z 1 [(.int .i64 v)]))))))))
def Lk:=(Ae (fun (N:Nat) (t s f:Int) (b:LA) (c:Nat) (d e:Bool) (u:Int) (r0:LA→Int→O R)=>(Jg N r0 (fun g r i l=>(Fd N r0 f b c d e g r i l)) t s f b c d e u))).1
theorem Mp (t s f b c d e u r0):(@Lk R N t s f b c d e u r0)=(Jg N r0 (fun g r i l=>(Fd N r0 f b c d e g r i l)) t s f b c d e u):=by rw[Lk,(Ae _).2]
def OJ:Hints:={ H:=(hS hL (hS hL (hJ [0,3,8,9] hL (hS (hS hL (hS (hS hL (hS hL (hS (hP [0,3,8,9,11] hL) hL))) hL)) hL)))),modes:=[(3,0)],cob:=[18] }
def UC:Dg:=[(108,YZ N),(106,Jd N)]
def OK (F:KF R):=Hp Tryz.f111 OJ (UC N) [100000] N F
def Fe (b:LA) (c:Nat) (d e:Bool) (F:KF R):LA→Int→O R:=(fun aj ak=>F (.pagg aj false) [(100000,⟨false,false,false,false,0,[(.imm b c 1 d e),(iv ak)],false⟩)])
def ui (f:Int) (b:LA) (c:Nat) (d e:Bool) (g:List UInt8) (i:Nat) (l:LA) (o q:Int) (m:Nat) (p:LA):St:=⟨[(0,(.optr 100000 0)),(3,(iv f)),(8,(op 0)),(9,(op 1)),(11,(iv o))],[(100000,⟨false,false,false,false,0,[(.imm b c 1 d e),(iv q)],false⟩),(300000,⟨false,false,false,false,0,[(.str ([]:List UInt8)),.nsl,(.bool false),.nsl],false⟩),(300001,⟨false,false,false,false,0,[(.str g),(.own 300002 0 i),(.bool true),(.own 300003 0 m)],false⟩),(300002,(bQ 1 l)),(300003,(bQ 3 p))]⟩
def uj (F:KF R):=OK N F [1,1,1,0,1,0,1,1,0] []
def uk (f:Int) (b:LA) (c:Nat) (d e:Bool) (g:List UInt8) (r:Int) (i:Nat) (l:LA):St:=⟨[(0,(.optr 100000 0)),(3,(iv f)),(8,(op 0)),(9,(op 1))],[(100000,⟨false,false,false,false,0,[(.imm b c 1 d e),(iv r)],false⟩),(300000,⟨false,false,false,false,0,[(.str ([]:List UInt8)),.nsl,(.bool false),.nsl],false⟩),(300001,⟨false,false,false,false,0,[(.str g),(.own 300002 0 i),(.bool false),(.own 300003 0 0)],false⟩),(300002,(bQ 1 l)),(300003,(bQ 3 []))]⟩
def um (F:KF R):=OK N F [1,1,1] []
theorem AT (F:KF R) (f:Int) (b:LA) (c:Nat) (d e:Bool) (g:List UInt8) (i:Nat) (l:LA):∀ (n:Nat) (o q:Int) (m:Nat) (p:LA),Ap (uj N F) n (ui f b c d e g i l o q m p)=(Fc N (Fe b c d e F) f b c d e g i l n o q m p)
 | 0,_,_,_,_=>by kernel_rfl
 | n+1,o,q,m,p=>Eq.trans (by kernel_rfl) (Bm (Im N (Fe b c d e F) f b c d e g i l · o q m p) (funext fun o=>funext fun q=>funext fun m=>funext fun p=>(AT F f b c d e g i l n o q m p)):_)
theorem i_ (F:KF R) (f:Int) (b:LA) (c:Nat) (d e:Bool) (g:List UInt8):∀ (r:Int) (i:Nat) (l:LA),A9 (um N F) (uk f b c d e g r i l)=(Fd N (Fe b c d e F) f b c d e g r i l):=by
 intro r i l
 exact Eq.trans (by kernel_rfl) (Bm (Mo N (Fe b c d e F) f b c d e g · r i l) (funext fun o=>funext fun q=>funext fun m=>funext fun p=>(Ai ..).trans (AT N F f b c d e g i l N o q m p)):_)
theorem OL (t s f:Int) (b:LA) (c:Nat) (d e:Bool) (u:Int) (F:KF R):Cd (UC N) OJ N 111 [(.optr 100000 0),(iv t),(iv s),(iv f)] [(100000,⟨false,false,false,false,0,[(.imm b c 1 d e),(iv u)],false⟩)] F=(Lk N t s f b c d e u (Fe b c d e F)):=by
 rw[Mp]
 exact Eq.trans (by kernel_rfl) (Bm (Jg N (Fe b c d e F) · t s f b c d e u) (funext fun g=>funext fun r=>funext fun i=>funext fun l=>(Aq ..).trans (i_ N F f b c d e g r i l)):_)
def JQ (a:LA) (h:Ak) (k:KF R):O R :=
 match a,h with
 | [(.optr 100000 0),(.int .i64 t),(.int .i64 s),(.int .i64 f)],[(100000,⟨false,false,false,false,0,[(.imm b c 1 d e),(.int .i64 u)],false⟩)]=>(Lk N t s f b c d e u (Fe b c d e k))
 | _,_=>none
theorem OM:An N 111 @JQ:=by
 intro R Q a h k j;unfold JQ;split;exact Ax (OL ..) (OL ..) ⟨Y_ N,Je N,trivial⟩;exact Az
def un:=Ay (OM N)
def uo:=Ca (OM N)
def To (N:Nat) (r0:Bool→O R) (d e:Int) (c:LA) (b:Nat) (f g:Bool) (k0:Int→O R) (i:Int):O R :=
 (cond (decide (i<((b:Nat):Int))) (cond (Ac i b) (Ao .i64 (c.drop ((i.toNat)*1)) fun l=>(cond ((decide (l<d))==false) (cond (Ac i b) (Ao .i64 (c.drop ((i.toNat)*1)) fun m=>(cond (cond false true (decide (m>e))) (r0 false) (k0 (wrap .i64 (i+1))))) none) (r0 false))) none) (r0 true))
def In (r0:Bool→O R) (d e:Int) (c:LA) (b:Nat) (f g:Bool):Nat→Int→O R
 | 0,_=>none
 | n+1,i=>(To N r0 d e c b f g (In r0 d e c b f g n) i)
def FP (N:Nat) (r0:Bool→O R) (q0:Int→O R) (d e:Int) (c:LA) (b:Nat) (f g:Bool):O R :=
 (q0 0)
def Aw:=(Ae (fun (N:Nat) (d e:Int) (c:LA) (b:Nat) (f g:Bool) (r0:Bool→O R)=>(FP N r0 (fun i=>(In N r0 d e c b f g N i)) d e c b f g))).1
theorem cY (d e c b f g r0):(@Aw R N d e c b f g r0)=(FP N r0 (fun i=>(In N r0 d e c b f g N i)) d e c b f g):=by rw[Aw,(Ae _).2]
def ib:Hints:={ H:=(hS hL (hS (hS hL (hS (hP [0,1,2,7] hL) hL)) hL)) }
def Apd (F:KF R):=Hp Tryz.f156 ib [] [] N F
def Px (F:KF R):Bool→O R:=(fun o=>F (.bool o) [])
def Ape (d e:Int) (c:LA) (b:Nat) (f g:Bool) (i:Int):St:=⟨[(0,(iv d)),(1,(iv e)),(2,(.imm c b 1 f g)),(7,(iv i))],[]⟩
def Apf (F:KF R):=Apd N F [1,0,1,0] []
theorem ON (F:KF R) (d e:Int) (c:LA) (b:Nat) (f g:Bool):∀ (n:Nat) (i:Int),Ap (Apf N F) n (Ape d e c b f g i)=(In N (Px F) d e c b f g n i)
 | 0,_=>by kernel_rfl
 | n+1,i=>Eq.trans (by kernel_rfl) (Bm (To N (Px F) d e c b f g · i) (funext fun i=>(ON F d e c b f g n i)):_)
theorem ic (d e:Int) (c:LA) (b:Nat) (f g:Bool) (F:KF R):Cd [] ib N 156 [(iv d),(iv e),(.imm c b 1 f g)] [] F=(Aw N d e c b f g (Px F)):=by
 rw[cY]
 exact Eq.trans (by kernel_rfl) (Bm (FP N (Px F) · d e c b f g) (funext fun i=>(Ai ..).trans (ON N F d e c b f g N i)):_)
def cZ (a:LA) (h:Ak) (k:KF R):O R :=
 match a,h with
 | [(.int .i64 d),(.int .i64 e),(.imm c b 1 f g)],[]=>(Aw N d e c b f g (Px k))
 | _,_=>none
theorem ig:An N 156 @cZ:=by
 intro R Q a h k j;unfold cZ;split;exact Ax (ic ..) (ic ..) trivial;exact Az
def D0:=Ay (ig N)
def D1:=Ca (ig N)
def Kt (N:Nat) (r0:LA→O R) (c d e f:Int) (b:LA) (g:Bool):O R :=
 (cond g (cond ((Nat.beq 3 3)&&((Nat.ble 3 (b.length))&&(!false))) (cond ((Nat.beq 1 1)&&((Nat.ble 4 ((C3 b 0 [(.int .i64 c),(.int .i64 d),(.int .i64 e)]).length))&&(!false))) (r0 ((C3 b 0 [(.int .i64 c),(.int .i64 d),(.int .i64 e)]).set 3 (.int .i64 f))) none) none) (r0 b))
def O3 (N:Nat) (r0:LA→O R) (q0:Bool→O R) (i:Bool) (c d e f:Int) (b:LA):O R :=
 (Ao .i64 (b.drop 3) fun l=>(cond ((l==0)==true) (q0 (cond true (!i) false)) (q0 false)))
def Ab:=(Ae (fun (N:Nat) (i:Bool) (c d e f:Int) (b:LA) (r0:LA→O R)=>(O3 N r0 (fun g=>(Kt N r0 c d e f b g)) i c d e f b))).1
theorem AU (i c d e f b r0):(@Ab R N i c d e f b r0)=(O3 N r0 (fun g=>(Kt N r0 c d e f b g)) i c d e f b):=by rw[Ab,(Ae _).2]
def DO:Hints:={ H:=(hJ [0,2,3,4,5,20] hL hL) }
def lY (F:KF R):=Hp Tryz.f155 DO [] [100000] N F
def Ku (F:KF R):LA→O R:=(fun m=>F (.tup []) [(100000,(bQ 0 m))])
def lZ (c d e f:Int) (b:LA) (g:Bool):St:=⟨[(0,(.optr 100000 0)),(2,(iv c)),(3,(iv d)),(4,(iv e)),(5,(iv f)),(20,(.bool g))],[(100000,(bQ 0 b))]⟩
def l7 (F:KF R):=lY N F [1] []
theorem ZA (F:KF R) (c d e f:Int) (b:LA):∀ (g:Bool),A9 (l7 N F) (lZ c d e f b g)=(Kt N (Ku F) c d e f b g):=by
 intro g
 kernel_rfl
theorem DP (i:Bool) (c d e f:Int) (b:LA) (F:KF R):Cd [] DO N 155 [(.optr 100000 0),(.bool i),(iv c),(iv d),(iv e),(iv f)] [(100000,(bQ 0 b))] F=(Ab N i c d e f b (Ku F)):=by
 rw[AU]
 exact Eq.trans (by kernel_rfl) (Bm (O3 N (Ku F) · i c d e f b) (funext fun g=>(Aq ..).trans (ZA N F c d e f b g)):_)
def AW (a:LA) (h:Ak) (k:KF R):O R :=
 match a,h with
 | [(.optr 100000 0),(.bool i),(.int .i64 c),(.int .i64 d),(.int .i64 e),(.int .i64 f)],[(100000,⟨false,false,true,false,0,b,false⟩)]=>(Ab N i c d e f b (Ku k))
 | _,_=>none
theorem DQ:An N 155 @AW:=by
 intro R Q a h k j;unfold AW;split;exact Ax (DP ..) (DP ..) trivial;exact Az
def Bw:=Ay (DQ N)
def Bx:=Ca (DQ N)
def R5 (f:LA) (o:Bool) (g:LA) (b:Nat) (p i:Bool) (l m c d e:Int) (n:LA) (r0:LA→O R):O R :=
 (Ao .i64 f fun q=>(Ab N (((b:Nat):Int)==q) c d e 4 n (fun r=>(Aw N l m g b false i (fun s=>(Ab N s c d e 3 r (fun t=>(r0 t))))))))
def C1:=(Ae (@R5 R)).1
theorem Wf:@C1 R=@R5 R:=(Ae _).2
def ii:Dg:=[(155,Bw N),(156,D0 N)]
def Xf (F:KF R):LA→O R:=(fun u=>F (.tup []) [(100000,(bQ 0 u))])
theorem Xg (f:LA) (o:Bool) (g:LA) (b:Nat) (p i:Bool) (l m c d e:Int) (n:LA) (F:KF R):Cd (ii N) C6 N 154 [(.optr 100000 0),(.pagg f o),(.imm g b 1 p i),(iv l),(iv m),(iv c),(iv d),(iv e)] [(100000,(bQ 0 n))] F=(C1 N f o g b p i l m c d e n (Xf F)):=by
 rw[Wf]
 kernel_rfl
def Wg (a:LA) (h:Ak) (k:KF R):O R :=
 match a,h with
 | [(.optr 100000 0),(.pagg f o),(.imm g b 1 p i),(.int .i64 l),(.int .i64 m),(.int .i64 c),(.int .i64 d),(.int .i64 e)],[(100000,⟨false,false,true,false,0,n,false⟩)]=>(C1 N f o g b p i l m c d e n (Xf k))
 | _,_=>none
theorem Xh:An N 154 @Wg:=by
 intro R Q a h k j;unfold Wg;split;exact Ax (Xg ..) (Xg ..) ⟨Bx N,D1 N,trivial⟩;exact Az
def Ol:=Ay (Xh N)
def Om:=Ca (Xh N)
end
end Gx

namespace Gx
open Go Go.Proofs
open IntKind (wrap)
set_option maxRecDepth 100000
noncomputable section
variable {R:Type} (N:Nat)
def Zm (N:Nat) (r0:Nat→LA→O R) (c:Bool) (b:LA) (k0:Nat→Int→LA→O R) (d:Nat) (m:Int) (t:LA):O R :=
 (B9 3 (b.drop 2) fun bc aa=>(cond (decide (m<((aa:Nat):Int))) (B9 3 (b.drop 2) fun ab ac=>(cond (Ac m ac) (A24 (ab.drop ((m.toNat)*3)) fun ad=>(cond ((Nat.ble (d+1) 140737488355328)&&(Nat.ble ((d+1)*16) 140737488355328)) (k0 (d+1) (wrap .i64 (m+1)) ((t.take (d*1))++[(.str ad)])) none)) none)) (r0 d t)))
def Mq (r0:Nat→LA→O R) (c:Bool) (b:LA):Nat→Nat→Int→LA→O R
 | 0,_,_,_=>none
 | n+1,d,m,t=>(Zm N r0 c b (Mq r0 c b n) d m t)
def Zn (N:Nat) (r0:Nat→LA→O R) (c:Bool) (b:LA) (k1:Nat→Int→LA→O R) (e:Nat) (o:Int) (u:LA):O R :=
 (B9 12 (b.drop 3) fun bd ae=>(cond (decide (o<((ae:Nat):Int))) (B9 12 (b.drop 3) fun af ag=>(cond (Ac o ag) (A24 (af.drop ((o.toNat)*12)) fun ah=>(cond ((Nat.ble (e+1) 140737488355328)&&(Nat.ble ((e+1)*16) 140737488355328)) (k1 (e+1) (wrap .i64 (o+1)) ((u.take (e*1))++[(.str ah)])) none)) none)) (r0 e u)))
def Mr (r0:Nat→LA→O R) (c:Bool) (b:LA):Nat→Nat→Int→LA→O R
 | 0,_,_,_=>none
 | n+1,e,o,u=>(Zn N r0 c b (Mr r0 c b n) e o u)
def Zo (N:Nat) (r0:Nat→LA→O R) (c:Bool) (b:LA) (k2:Nat→Int→LA→O R) (f:Nat) (p:Int) (v:LA):O R :=
 (B9 22 (b.drop 4) fun be ai=>(cond (decide (p<((ai:Nat):Int))) (B9 22 (b.drop 4) fun aj ak=>(cond (Ac p ak) (A24 (aj.drop ((p.toNat)*22)) fun al=>(cond ((Nat.ble (f+1) 140737488355328)&&(Nat.ble ((f+1)*16) 140737488355328)) (k2 (f+1) (wrap .i64 (p+1)) ((v.take (f*1))++[(.str al)])) none)) none)) (r0 f v)))
def Ms (r0:Nat→LA→O R) (c:Bool) (b:LA):Nat→Nat→Int→LA→O R
 | 0,_,_,_=>none
 | n+1,f,p,v=>(Zo N r0 c b (Ms r0 c b n) f p v)
def Zp (N:Nat) (r0:Nat→LA→O R) (c:Bool) (b:LA) (k3:Nat→Int→LA→O R) (g:Nat) (q:Int) (w:LA):O R :=
 (B9 9 (b.drop 5) fun bf am=>(cond (decide (q<((am:Nat):Int))) (B9 9 (b.drop 5) fun an ao=>(cond (Ac q ao) (A24 (an.drop ((q.toNat)*9)) fun ap=>(cond ((Nat.ble (g+1) 140737488355328)&&(Nat.ble ((g+1)*16) 140737488355328)) (k3 (g+1) (wrap .i64 (q+1)) ((w.take (g*1))++[(.str ap)])) none)) none)) (r0 g w)))
def Mt (r0:Nat→LA→O R) (c:Bool) (b:LA):Nat→Nat→Int→LA→O R
 | 0,_,_,_=>none
 | n+1,g,q,w=>(Zp N r0 c b (Mt r0 c b n) g q w)
def Zq (N:Nat) (r0:Nat→LA→O R) (c:Bool) (b:LA) (k4:Nat→Int→LA→O R) (i:Nat) (r:Int) (x:LA):O R :=
 (B9 5 (b.drop 6) fun bg aq=>(cond (decide (r<((aq:Nat):Int))) (B9 5 (b.drop 6) fun ar au=>(cond (Ac r au) (A24 (ar.drop ((r.toNat)*5)) fun av=>(cond ((Nat.ble (i+1) 140737488355328)&&(Nat.ble ((i+1)*16) 140737488355328)) (k4 (i+1) (wrap .i64 (r+1)) ((x.take (i*1))++[(.str av)])) none)) none)) (r0 i x)))
def Mu (r0:Nat→LA→O R) (c:Bool) (b:LA):Nat→Nat→Int→LA→O R
 | 0,_,_,_=>none
 | n+1,i,r,x=>(Zq N r0 c b (Mu r0 c b n) i r x)
def Zr (N:Nat) (r0:Nat→LA→O R) (c:Bool) (b:LA) (k5:Nat→Int→LA→O R) (l:Nat) (s:Int) (y:LA):O R :=
 (B9 4 (b.drop 7) fun bh aw=>(cond (decide (s<((aw:Nat):Int))) (B9 4 (b.drop 7) fun ax ay=>(cond (Ac s ay) (A24 (ax.drop ((s.toNat)*4)) fun az=>(cond ((Nat.ble (l+1) 140737488355328)&&(Nat.ble ((l+1)*16) 140737488355328)) (k5 (l+1) (wrap .i64 (s+1)) ((y.take (l*1))++[(.str az)])) none)) none)) (r0 l y)))
def Mv (r0:Nat→LA→O R) (c:Bool) (b:LA):Nat→Nat→Int→LA→O R
 | 0,_,_,_=>none
 | n+1,l,s,y=>(Zr N r0 c b (Mv r0 c b n) l s y)
def Mw (N:Nat) (r0:Nat→LA→O R) (q0:Nat→Int→LA→O R) (q1:Nat→Int→LA→O R) (q2:Nat→Int→LA→O R) (q3:Nat→Int→LA→O R) (q4:Nat→Int→LA→O R) (q5:Nat→Int→LA→O R) (b:LA) (c:Bool) (z:Int):O R :=
 (cond (z==1) (q0 0 0 []) (cond (z==2) (q1 0 0 []) (cond (z==3) (q2 0 0 []) (cond (z==4) (q3 0 0 []) (cond (z==5) (q4 0 0 []) (cond (z==6) (q5 0 0 []) (r0 0 [])))))))
def Hs:=(Ae (fun (N:Nat) (b:LA) (c:Bool) (z:Int) (r0:Nat→LA→O R)=>(Mw N r0 (fun d m t=>(Mq N r0 c b N d m t)) (fun e o u=>(Mr N r0 c b N e o u)) (fun f p v=>(Ms N r0 c b N f p v)) (fun g q w=>(Mt N r0 c b N g q w)) (fun i r x=>(Mu N r0 c b N i r x)) (fun l s y=>(Mv N r0 c b N l s y)) b c z))).1
theorem Kg (b c z r0):(@Hs R N b c z r0)=(Mw N r0 (fun d m t=>(Mq N r0 c b N d m t)) (fun e o u=>(Mr N r0 c b N e o u)) (fun f p v=>(Ms N r0 c b N f p v)) (fun g q w=>(Mt N r0 c b N g q w)) (fun i r x=>(Mu N r0 c b N i r x)) (fun l s y=>(Mv N r0 c b N l s y)) b c z):=by rw[Hs,(Ae _).2]
def uq:Hints:={ H:=(hS hL (hS hL (hS (hS hL (hS (hS hL (hS (hS hL (hS (hP [2,5,6] hL) hL)) (hS hL (hS (hS hL (hS (hP [2,5,7] hL) hL)) (hS hL (hS (hS hL (hS (hP [2,5,8] hL) hL)) (hS hL (hS (hS hL (hS (hP [2,5,9] hL) hL)) (hS hL (hS (hS hL (hS (hP [2,5,10] hL) hL)) (hS hL (hS (hS hL (hS (hP [2,5,11] hL) hL)) hL)))))))))))) hL)) hL))),nils:=[(4,1),(5,1)],modes:=[(2,1)] }
def Rg (F:KF R):=Hp Tryz.f182 uq [] [] N F
def C2 (F:KF R):Nat→LA→O R:=(fun ba bb=>F (.own 300000 0 ba) (hq [(bQ 1 bb)]))
def A02 (c:Bool) (b:LA) (d:Nat) (m:Int) (t:LA):St:=⟨[(2,(op 0)),(5,(.own 300001 0 d)),(6,(iv m))],(hq [(bP c 0 b),(bQ 1 t)])⟩
def A03 (F:KF R):=Rg N F [1,1,0,1,0,1,0,1,0] []
def A04 (c:Bool) (b:LA) (e:Nat) (o:Int) (u:LA):St:=⟨[(2,(op 0)),(5,(.own 300001 0 e)),(7,(iv o))],(hq [(bP c 0 b),(bQ 1 u)])⟩
def A05 (F:KF R):=Rg N F [1,1,0,1,0,1,1,1,0,1,0] []
def A06 (c:Bool) (b:LA) (f:Nat) (p:Int) (v:LA):St:=⟨[(2,(op 0)),(5,(.own 300001 0 f)),(8,(iv p))],(hq [(bP c 0 b),(bQ 1 v)])⟩
def A07 (F:KF R):=Rg N F [1,1,0,1,0,1,1,1,1,1,0,1,0] []
def A08 (c:Bool) (b:LA) (g:Nat) (q:Int) (w:LA):St:=⟨[(2,(op 0)),(5,(.own 300001 0 g)),(9,(iv q))],(hq [(bP c 0 b),(bQ 1 w)])⟩
def A09 (F:KF R):=Rg N F [1,1,0,1,0,1,1,1,1,1,1,1,0,1,0] []
def A1a (c:Bool) (b:LA) (i:Nat) (r:Int) (x:LA):St:=⟨[(2,(op 0)),(5,(.own 300001 0 i)),(10,(iv r))],(hq [(bP c 0 b),(bQ 1 x)])⟩
def A1b (F:KF R):=Rg N F [1,1,0,1,0,1,1,1,1,1,1,1,1,1,0,1,0] []
def A1c (c:Bool) (b:LA) (l:Nat) (s:Int) (y:LA):St:=⟨[(2,(op 0)),(5,(.own 300001 0 l)),(11,(iv s))],(hq [(bP c 0 b),(bQ 1 y)])⟩
def A1d (F:KF R):=Rg N F [1,1,0,1,0,1,1,1,1,1,1,1,1,1,1,1,0,1,0] []
theorem c0 (F:KF R) (c:Bool) (b:LA):∀ (n d:Nat) (m:Int) (t:LA),Ap (A03 N F) n (A02 c b d m t)=(Mq N (C2 F) c b n d m t)
 | 0,_,_,_=>by kernel_rfl
 | n+1,d,m,t=>Eq.trans (by kernel_rfl) (Bm (Zm N (C2 F) c b · d m t) (funext fun d=>funext fun m=>funext fun t=>(c0 F c b n d m t)):_)
theorem c6 (F:KF R) (c:Bool) (b:LA):∀ (n e:Nat) (o:Int) (u:LA),Ap (A05 N F) n (A04 c b e o u)=(Mr N (C2 F) c b n e o u)
 | 0,_,_,_=>by kernel_rfl
 | n+1,e,o,u=>Eq.trans (by kernel_rfl) (Bm (Zn N (C2 F) c b · e o u) (funext fun e=>funext fun o=>funext fun u=>(c6 F c b n e o u)):_)
theorem c7 (F:KF R) (c:Bool) (b:LA):∀ (n f:Nat) (p:Int) (v:LA),Ap (A07 N F) n (A06 c b f p v)=(Ms N (C2 F) c b n f p v)
 | 0,_,_,_=>by kernel_rfl
 | n+1,f,p,v=>Eq.trans (by kernel_rfl) (Bm (Zo N (C2 F) c b · f p v) (funext fun f=>funext fun p=>funext fun v=>(c7 F c b n f p v)):_)
theorem c8 (F:KF R) (c:Bool) (b:LA):∀ (n g:Nat) (q:Int) (w:LA),Ap (A09 N F) n (A08 c b g q w)=(Mt N (C2 F) c b n g q w)
 | 0,_,_,_=>by kernel_rfl
 | n+1,g,q,w=>Eq.trans (by kernel_rfl) (Bm (Zp N (C2 F) c b · g q w) (funext fun g=>funext fun q=>funext fun w=>(c8 F c b n g q w)):_)
theorem c9 (F:KF R) (c:Bool) (b:LA):∀ (n i:Nat) (r:Int) (x:LA),Ap (A1b N F) n (A1a c b i r x)=(Mu N (C2 F) c b n i r x)
 | 0,_,_,_=>by kernel_rfl
 | n+1,i,r,x=>Eq.trans (by kernel_rfl) (Bm (Zq N (C2 F) c b · i r x) (funext fun i=>funext fun r=>funext fun x=>(c9 F c b n i r x)):_)
theorem c_ (F:KF R) (c:Bool) (b:LA):∀ (n l:Nat) (s:Int) (y:LA),Ap (A1d N F) n (A1c c b l s y)=(Mv N (C2 F) c b n l s y)
 | 0,_,_,_=>by kernel_rfl
 | n+1,l,s,y=>Eq.trans (by kernel_rfl) (Bm (Zr N (C2 F) c b · l s y) (funext fun l=>funext fun s=>funext fun y=>(c_ F c b n l s y)):_)
theorem ur (b:LA) (c:Bool) (z:Int) (F:KF R):Cd [] uq N 182 [(.pagg b c),(iv z)] [] F=(Hs N b c z (C2 F)):=by
 rw[Kg]
 exact Eq.trans (by kernel_rfl) (Bn9 (Mw N (C2 F) · · · · · · b c z) (funext fun d=>funext fun m=>funext fun t=>(Ai ..).trans (c0 N F c b N d m t)) (funext fun e=>funext fun o=>funext fun u=>(Ai ..).trans (c6 N F c b N e o u)) (funext fun f=>funext fun p=>funext fun v=>(Ai ..).trans (c7 N F c b N f p v)) (funext fun g=>funext fun q=>funext fun w=>(Ai ..).trans (c8 N F c b N g q w)) (funext fun i=>funext fun r=>funext fun x=>(Ai ..).trans (c9 N F c b N i r x)) (funext fun l=>funext fun s=>funext fun y=>(Ai ..).trans (c_ N F c b N l s y)):_)
def oa (a:LA) (h:Ak) (k:KF R):O R :=
 match a,h with
 | [(.pagg b c),(.int .i64 z)],[]=>(Hs N b c z (C2 k))
 | _,_=>none
theorem ut:An N 182 @oa:=by
 intro R Q a h k j;unfold oa;split;exact Ax (ur ..) (ur ..) trivial;exact Az
def uv:=Ay (ut N)
def uw:=Ca (ut N)
def yb (N:Nat) (b:Int) (r0:Int→O R):O R :=
 (cond (Ac b 7) (Ao .i64 (List.drop (0+((b.toNat)*1)) [(.int .i64 0),(.int .i64 32),(.int .i64 64),(.int .i64 16),(.int .i64 8),(.int .i64 8),(.int .i64 64)]) fun c=>(r0 c)) none)
def Sw:=(Ae (@yb R)).1
theorem ux:@Sw R=@yb R:=(Ae _).2
def Acz (F:KF R):Int→O R:=(fun d=>F (iv d) [])
theorem Ac0 (b:Int) (F:KF R):Cd [] C6 N 183 [(iv b)] [] F=(Sw N b (Acz F)):=by
 rw[ux]
 kernel_rfl
def uy (a:LA) (h:Ak) (k:KF R):O R :=
 match a,h with
 | [(.int .i64 b)],[]=>(Sw N b (Acz k))
 | _,_=>none
theorem Ac1:An N 183 @uy:=by
 intro R Q a h k j;unfold uy;split;exact Ax (Ac0 ..) (Ac0 ..) trivial;exact Az
def A52:=Ay (Ac1 N)
def A53:=Ca (Ac1 N)
def Cu (r0:LA→O R) (c:Bool) (b:LA) (k0:Int→LA→O R) (d:Int) (e:LA):O R :=
 (cond (decide (d≤6)) (cond (Nat.ble 8 (b.length)) (Hs N (b.take 8) c d (fun g x=>(Sw N d (fun i=>(Ab N (decide (((g:Nat):Int)≤i)) 0 0 (wrap .i64 (d+1)) 8 e (fun l=>(k0 (wrap .i64 (d+1)) l))))))) none) (r0 e))
def Bp (r0:LA→O R) (c:Bool) (b:LA):Nat→Int→LA→O R
 | 0,_,_=>none
 | n+1,d,e=>(Cu N r0 c b (Bp r0 c b n) d e)
def Mx (r0:LA→O R) (q0:Int→LA→O R) (b:LA) (c:Bool) (f:LA):O R :=
 (Ao .i64 b fun m=>(Aw N 1 24 [(.int .i64 m)] 1 false true (fun o=>(Ab N o 0 0 0 3 f (fun p=>(cond (Nat.ble 8 (b.length)) (B9 1 (b.drop 1) fun q r=>(C1 N (b.take 8) c q r false c 0 1048576 0 0 1 p (fun s=>(B9 3 (b.drop 2) fun y t=>(Aw N 1 32 [(.int .i64 ((t:Nat):Int))] 1 false true (fun u=>(Ab N u 0 0 2 8 s (fun v=>(q0 2 v))))))))) none))))))
def Gu:=(Ae (fun (N:Nat) (b:LA) (c:Bool) (f:LA) (r0:LA→O R)=>(Mx N r0 (fun d e=>(Bp N r0 c b N d e)) b c f))).1
theorem Xi (b c f r0):(@Gu R N b c f r0)=(Mx N r0 (fun d e=>(Bp N r0 c b N d e)) b c f):=by rw[Gu,(Ae _).2]
def AX:Hints:={ H:=(hS hL (hS hL (hS hL (hS hL (hS hL (hS (hP [0,3,4] hL) hL)))))) }
def DR:Dg:=[(156,D0 N),(155,Bw N),(154,Ol N),(182,uv N),(183,A52 N)]
def ij (F:KF R):=Hp Tryz.f152 AX (DR N) [100000] N F
def Gp (F:KF R):LA→O R:=(fun w=>F (.tup []) [(100000,(bQ 0 w))])
def ik (c:Bool) (b:LA) (d:Int) (e:LA):St:=⟨[(0,(.optr 100000 0)),(3,(op 0)),(4,(iv d))],[(100000,(bQ 0 e)),(300000,(bP c 0 b))]⟩
def io (F:KF R):=ij N F [1,1,1,1,1,0] []
theorem Vc (F:KF R) (c:Bool) (b:LA):∀ (n:Nat) (d:Int) (e:LA),Ap (io N F) n (ik c b d e)=(Bp N (Gp F) c b n d e)
 | 0,_,_=>by kernel_rfl
 | n+1,d,e=>Eq.trans (by kernel_rfl) (Bm (Cu N (Gp F) c b · d e) (funext fun d=>funext fun e=>(Vc F c b n d e)):_)
theorem AY (b:LA) (c:Bool) (f:LA) (F:KF R):Cd (DR N) AX N 152 [(.optr 100000 0),(.pagg b c)] [(100000,(bQ 0 f))] F=(Gu N b c f (Gp F)):=by
 rw[Xi]
 exact Eq.trans (by kernel_rfl) (Bm (Mx N (Gp F) · b c f) (funext fun d=>funext fun e=>(Ai ..).trans (Vc N F c b N d e)):_)
def Xj (a:LA) (h:Ak) (k:KF R):O R :=
 match a,h with
 | [(.optr 100000 0),(.pagg b c)],[(100000,⟨false,false,true,false,0,f,false⟩)]=>(Gu N b c f (Gp k))
 | _,_=>none
theorem AZ:An N 152 @Xj:=by
 intro R Q a h k j;unfold Xj;split;exact Ax (AY ..) (AY ..) ⟨D1 N,Bx N,Om N,uw N,A53 N,trivial⟩;exact Az
def ip:=Ay (AZ N)
def iq:=Ca (AZ N)
def OO (N:Nat) (k1:Int→O R) (r0:Bool→O R) (b:List UInt8) (d:Int) (e:Bool):O R :=
 (cond ((!e)==true) (cond ((d==0)==false) (cond (Ac d (b.length)) (cond ((((UInt8.toNat (List.getD b (d.toNat) 0):Nat):Int) != 95)==true) (cond (Ac d (b.length)) (cond ((decide (((UInt8.toNat (List.getD b (d.toNat) 0):Nat):Int)<48))==false) (cond (Ac d (b.length)) (cond (cond true (cond false true (cond true (cond false true (decide (((UInt8.toNat (List.getD b (d.toNat) 0):Nat):Int)>57))) false)) false) (r0 false) (k1 (wrap .i64 (d+1)))) none) (r0 false)) none) (k1 (wrap .i64 (d+1)))) none) (r0 false)) (k1 (wrap .i64 (d+1))))
def FQ (N:Nat) (r0:Bool→O R) (b:List UInt8) (k1:Int→O R) (q2:Int→Bool→O R) (c:Int):O R :=
 (cond (decide (c<(((b.length):Nat):Int))) (cond (Ac c (b.length)) (cond ((decide (((UInt8.toNat (List.getD b (c.toNat) 0):Nat):Int)≥97))==true) (cond (Ac c (b.length)) (q2 c (cond true (decide (((UInt8.toNat (List.getD b (c.toNat) 0):Nat):Int)≤122)) false)) none) (q2 c false)) none) (r0 true))
def Py (r0:Bool→O R) (b:List UInt8):Nat→Int→O R
 | 0,_=>none
 | n+1,c=>(FQ N r0 b (Py r0 b n) (fun d e=>(OO N (Py r0 b n) r0 b d e)) c)
def ZB (N:Nat) (r0:Bool→O R) (b:List UInt8) (q1:Int→O R):O R :=
 (q1 0)
def OP (r0:Bool→O R) (b:List UInt8):O R:=(ZB N r0 b (fun c=>(Py N r0 b N c)))
def lH (N:Nat) (r0:Bool→O R) (q0:O R) (b:List UInt8):O R :=
 (cond ((decide ((((b.length):Nat):Int)<1))==false) (cond ((cond false true (decide ((((b.length):Nat):Int)>16)))==false) (cond (cond false true (b==([99,111,114,114,101,99,116,105,118,101]:List UInt8))) (r0 false) q0) (r0 false)) (r0 false))
def UD:=(Ae (fun (N:Nat) (b:List UInt8) (r0:Bool→O R)=>(lH N r0 (OP N r0 b) b))).1
theorem uz (b r0):(@UD R N b r0)=(lH N r0 (OP N r0 b) b):=by rw[UD,(Ae _).2]
def Ac2:Hints:={ H:=(hS hL (hJ [0] hL (hS (hS hL (hS (hP [0,3] (hS hL (hS (hS (hJ [0,3,4] hL hL) hL) hL))) hL)) hL))) }
def iw (F:KF R):=Hp Tryz.f184 Ac2 [] [] N F
def Jp (F:KF R):Bool→O R:=(fun f=>F (.bool f) [])
def A54 (b:List UInt8) (d:Int) (e:Bool):St:=⟨[(0,(.str b)),(3,(iv d)),(4,(.bool e))],[]⟩
def A55 (F:KF R) (Q1:St→O R):=iw N F [1,1,0,1,0,0,1,0,0,1] [Q1]
def Ac3 (b:List UInt8) (c:Int):St:=⟨[(0,(.str b)),(3,(iv c))],[]⟩
def Ac4 (F:KF R):=iw N F [1,1,0,1,0] []
def A56 (b:List UInt8):St:=⟨[(0,(.str b))],[]⟩
def A57 (F:KF R):=iw N F [1,1] []
theorem Apg (Q1:St→O R) (F:KF R) (b:List UInt8):∀ (d:Int) (e:Bool),A9 (A55 N F Q1) (A54 b d e)=(OO N (fun c=>Q1 (Ac3 b c)) (Jp F) b d e):=by
 intro d e
 kernel_rfl
theorem ix (F:KF R) (b:List UInt8):∀ (n:Nat) (c:Int),Ap (Ac4 N F) n (Ac3 b c)=(Py N (Jp F) b n c)
 | 0,_=>by kernel_rfl
 | n+1,c=>have e0:=(funext fun c=>(ix F b n c))
  Eq.trans (by kernel_rfl) (fQ (FQ N (Jp F) b · · c) e0 (funext fun d=>funext fun e=>(Aq ..).trans ((Apg N (Ap (Ac4 N F) n) F b d e).trans (Bm (OO N · (Jp F) b d e) e0))):_)
theorem Aph (F:KF R) (b:List UInt8):A9 (A57 N F) (A56 b)=(OP N (Jp F) b):=by
 exact Eq.trans (by kernel_rfl) (Bm (ZB N (Jp F) b ·) (funext fun c=>(Ai ..).trans (ix N F b N c)):_)
theorem Ac5 (b:List UInt8) (F:KF R):Cd [] Ac2 N 184 [(.str b)] [] F=(UD N b (Jp F)):=by
 rw[uz]
 exact Eq.trans (by kernel_rfl) (Bm (lH N (Jp F) · b) ((Aq ..).trans (Aph N F b)):_)
def vA (a:LA) (h:Ak) (k:KF R):O R :=
 match a,h with
 | [(.str b)],[]=>(UD N b (Jp k))
 | _,_=>none
theorem Ac6:An N 184 @vA:=by
 intro R Q a h k j;unfold vA;split;exact Ax (Ac5 ..) (Ac5 ..) trivial;exact Az
def A58:=Ay (Ac6 N)
def A59:=Ca (Ac6 N)
def Jq (r0:LA→O R) (c b:Int) (d:Nat) (e:LA) (k0:Int→LA→O R) (f:Int) (g:LA):O R :=
 (cond (decide (f<b)) (cond (Ac f d) (A24 (e.drop (0+((f.toNat)*1))) fun o=>(cond (Ac b d) (A24 (e.drop (0+((b.toNat)*1))) fun p=>(Ab N (!(o==p)) c b 0 10 g (fun q=>(k0 (wrap .i64 (f+1)) q)))) none)) none) (r0 g))
def Eh (r0:LA→O R) (c b:Int) (d:Nat) (e:LA):Nat→Int→LA→O R
 | 0,_,_=>none
 | n+1,f,g=>(Jq N r0 c b d e (Eh r0 c b d e n) f g)
def O4 (r0:LA→O R) (q0:Nat→LA→Int→LA→O R) (i:LA) (l:Bool) (c b:Int) (m:LA):O R :=
 (cond (Nat.ble 8 (i.length)) (Hs N (i.take 8) l c (fun d e=>(cond (Ac b d) (A24 (e.drop (0+((b.toNat)*1))) fun r=>(UD N r (fun s=>(Ab N s c b 0 9 m (fun t=>(q0 d e 0 t)))))) none))) none)
def Cw:=(Ae (fun (N:Nat) (i:LA) (l:Bool) (c b:Int) (m:LA) (r0:LA→O R)=>(O4 N r0 (fun d e f g=>(Eh N r0 c b d e N f g)) i l c b m))).1
theorem A_ (i l c b m r0):(@Cw R N i l c b m r0)=(O4 N r0 (fun d e f g=>(Eh N r0 c b d e N f g)) i l c b m):=by rw[Cw,(Ae _).2]
def DS:Hints:={ H:=(hS hL (hS hL (hS hL (hS hL (hS (hP [0,2,3,8,9] hL) hL))))) }
def JR:Dg:=[(182,uv N),(184,A58 N),(155,Bw N)]
def l8 (F:KF R):=Hp Tryz.f153 DS (JR N) [100000] N F
def Hc (F:KF R):LA→O R:=(fun u=>F (.tup []) [(100000,(bQ 0 u))])
def l_ (c b:Int) (d:Nat) (e:LA) (f:Int) (g:LA):St:=⟨[(0,(.optr 100000 0)),(2,(iv c)),(3,(iv b)),(8,(.own 300000 0 d)),(9,(iv f))],[(100000,(bQ 0 g)),(300000,(bQ 1 e))]⟩
def lc (F:KF R):=l8 N F [1,1,1,1,0] []
theorem Wh (F:KF R) (c b:Int) (d:Nat) (e:LA):∀ (n:Nat) (f:Int) (g:LA),Ap (lc N F) n (l_ c b d e f g)=(Eh N (Hc F) c b d e n f g)
 | 0,_,_=>by kernel_rfl
 | n+1,f,g=>Eq.trans (by kernel_rfl) (Bm (Jq N (Hc F) c b d e · f g) (funext fun f=>funext fun g=>(Wh F c b d e n f g)):_)
theorem DT (i:LA) (l:Bool) (c b:Int) (m:LA) (F:KF R):Cd (JR N) DS N 153 [(.optr 100000 0),(.pagg i l),(iv c),(iv b)] [(100000,(bQ 0 m))] F=(Cw N i l c b m (Hc F)):=by
 rw[A_]
 exact Eq.trans (by kernel_rfl) (Bm (O4 N (Hc F) · i l c b m) (funext fun d=>funext fun e=>funext fun f=>funext fun g=>(Ai ..).trans (Wh N F c b d e N f g)):_)
def BA (a:LA) (h:Ak) (k:KF R):O R :=
 match a,h with
 | [(.optr 100000 0),(.pagg i l),(.int .i64 c),(.int .i64 b)],[(100000,⟨false,false,true,false,0,m,false⟩)]=>(Cw N i l c b m (Hc k))
 | _,_=>none
theorem DU:An N 153 @BA:=by
 intro R Q a h k j;unfold BA;split;exact Ax (DT ..) (DT ..) ⟨uw N,A59 N,Bx N,trivial⟩;exact Az
def Fj:=Ay (DU N)
def Fk:=Ca (DU N)
def Yp (b:LA) (i:Bool) (c d e f:Int) (g:LA) (r0:LA→O R):O R :=
 (B9 3 (b.drop 2) fun p l=>(Aw N 0 (wrap .i64 (((l:Nat):Int) - 1)) [(.int .i64 c)] 1 false true (fun m=>(Ab N m d e f 12 g (fun n=>(r0 n))))))
def Eu:=(Ae (@Yp R)).1
theorem DV:@Eu R=@Yp R:=(Ae _).2
def vB:Dg:=[(156,D0 N),(155,Bw N)]
def JT (F:KF R):LA→O R:=(fun o=>F (.tup []) [(100000,(bQ 0 o))])
theorem JU (b:LA) (i:Bool) (c d e f:Int) (g:LA) (F:KF R):Cd (vB N) C6 N 185 [(.optr 100000 0),(.pagg b i),(iv c),(iv d),(iv e),(iv f)] [(100000,(bQ 0 g))] F=(Eu N b i c d e f g (JT F)):=by
 rw[DV]
 kernel_rfl
def DW (a:LA) (h:Ak) (k:KF R):O R :=
 match a,h with
 | [(.optr 100000 0),(.pagg b i),(.int .i64 c),(.int .i64 d),(.int .i64 e),(.int .i64 f)],[(100000,⟨false,false,true,false,0,g,false⟩)]=>(Eu N b i c d e f g (JT k))
 | _,_=>none
theorem JV:An N 185 @DW:=by
 intro R Q a h k j;unfold DW;split;exact Ax (JU ..) (JU ..) ⟨D1 N,Bx N,trivial⟩;exact Az
def My:=Ay (JV N)
def Mz:=Ca (JV N)
def QT (b:LA) (c:Bool) (r0:Bool→O R):O R :=
 (Ao .i64 (b.drop 1) fun d=>(Aw N 1 1048576 [(.int .i64 d)] 1 false true (fun e=>(cond (e==true) (Ao .i64 b fun f=>(Aw N (-1048576) 1048576 [(.int .i64 f)] 1 false true (fun g=>(r0 (cond true g false))))) (r0 false)))))
def Jr:=(Ae (@QT R)).1
theorem UE:@Jr R=@QT R:=(Ae _).2
def Api:Dg:=[(156,D0 N)]
def dA (F:KF R):Bool→O R:=(fun i=>F (.bool i) [])
theorem dB (b:LA) (c:Bool) (F:KF R):Cd (Api N) C6 N 186 [(.pagg b c)] [] F=(Jr N b c (dA F)):=by
 rw[UE]
 kernel_rfl
def UF (a:LA) (h:Ak) (k:KF R):O R :=
 match a,h with
 | [(.pagg b c)],[]=>(Jr N b c (dA k))
 | _,_=>none
theorem dC:An N 186 @UF:=by
 intro R Q a h k j;unfold UF;split;exact Ax (dB ..) (dB ..) ⟨D1 N,trivial⟩;exact Az
def dD:=Ay (dC N)
def dE:=Ca (dC N)
def Pz (N:Nat) (r0:Bool→O R) (c:LA) (b:Nat) (d e:Bool) (k0:Int→O R) (f:Int):O R :=
 (cond (decide (f<((b:Nat):Int))) (cond (Ac f b) (Ao .i64 (c.drop ((f.toNat)*1)) fun g=>(cond (Ac (wrap .i64 (f - 1)) b) (Ao .i64 (c.drop (((wrap .i64 (f - 1)).toNat)*1)) fun i=>(cond (decide (g≤i)) (r0 false) (k0 (wrap .i64 (f+1))))) none)) none) (r0 true))
def Hm (r0:Bool→O R) (c:LA) (b:Nat) (d e:Bool):Nat→Int→O R
 | 0,_=>none
 | n+1,f=>(Pz N r0 c b d e (Hm r0 c b d e n) f)
def OQ (N:Nat) (r0:Bool→O R) (q0:Int→O R) (c:LA) (b:Nat) (d e:Bool):O R :=
 (q0 1)
def P0:=(Ae (fun (N:Nat) (c:LA) (b:Nat) (d e:Bool) (r0:Bool→O R)=>(OQ N r0 (fun f=>(Hm N r0 c b d e N f)) c b d e))).1
theorem iy (c b d e r0):(@P0 R N c b d e r0)=(OQ N r0 (fun f=>(Hm N r0 c b d e N f)) c b d e):=by rw[P0,(Ae _).2]
def ob:Hints:={ H:=(hS hL (hS (hS hL (hS (hP [0,3] hL) hL)) hL)) }
def Atm (F:KF R):=Hp Tryz.f189 ob [] [] N F
def Sz (F:KF R):Bool→O R:=(fun l=>F (.bool l) [])
def Atn (c:LA) (b:Nat) (d e:Bool) (f:Int):St:=⟨[(0,(.imm c b 1 d e)),(3,(iv f))],[]⟩
def Ato (F:KF R):=Atm N F [1,0,1,0] []
theorem UG (F:KF R) (c:LA) (b:Nat) (d e:Bool):∀ (n:Nat) (f:Int),Ap (Ato N F) n (Atn c b d e f)=(Hm N (Sz F) c b d e n f)
 | 0,_=>by kernel_rfl
 | n+1,f=>Eq.trans (by kernel_rfl) (Bm (Pz N (Sz F) c b d e · f) (funext fun f=>(UG F c b d e n f)):_)
theorem od (c:LA) (b:Nat) (d e:Bool) (F:KF R):Cd [] ob N 189 [(.imm c b 1 d e)] [] F=(P0 N c b d e (Sz F)):=by
 rw[iy]
 exact Eq.trans (by kernel_rfl) (Bm (OQ N (Sz F) · c b d e) (funext fun f=>(Ai ..).trans (UG N F c b d e N f)):_)
def iz (a:LA) (h:Ak) (k:KF R):O R :=
 match a,h with
 | [(.imm c b 1 d e)],[]=>(P0 N c b d e (Sz k))
 | _,_=>none
theorem og:An N 189 @iz:=by
 intro R Q a h k j;unfold iz;split;exact Ax (od ..) (od ..) trivial;exact Az
def oh:=Ay (og N)
def oi:=Ca (og N)
def Wi (i:LA) (m:Bool) (b:LA) (c:Nat) (n d:Bool) (e f g:Int) (l:LA) (r0:LA→O R):O R :=
 (Ao .i64 i fun o=>(Aw N 0 (wrap .i64 (o - 1)) b c false d (fun p=>(Ab N p e f g 3 l (fun q=>(P0 N b c false d (fun r=>(Ab N r e f g 11 q (fun s=>(r0 s))))))))))
def Ht:=(Ae (@Wi R)).1
theorem BB:@Ht R=@Wi R:=(Ae _).2
def rK:Dg:=[(156,D0 N),(155,Bw N),(189,oh N)]
def DX (F:KF R):LA→O R:=(fun t=>F (.tup []) [(100000,(bQ 0 t))])
theorem DY (i:LA) (m:Bool) (b:LA) (c:Nat) (n d:Bool) (e f g:Int) (l:LA) (F:KF R):Cd (rK N) C6 N 187 [(.optr 100000 0),(.pagg i m),(.imm b c 1 n d),(iv e),(iv f),(iv g)] [(100000,(bQ 0 l))] F=(Ht N i m b c n d e f g l (DX F)):=by
 rw[BB]
 kernel_rfl
def BC (a:LA) (h:Ak) (k:KF R):O R :=
 match a,h with
 | [(.optr 100000 0),(.pagg i m),(.imm b c 1 n d),(.int .i64 e),(.int .i64 f),(.int .i64 g)],[(100000,⟨false,false,true,false,0,l,false⟩)]=>(Ht N i m b c n d e f g l (DX k))
 | _,_=>none
theorem DZ:An N 187 @BC:=by
 intro R Q a h k j;unfold BC;split;exact Ax (DY ..) (DY ..) ⟨D1 N,Bx N,oi N,trivial⟩;exact Az
def D_:=Ay (DZ N)
def EA:=Ca (DZ N)
def R6 (r0:LA→O R) (b:Int) (c:Bool) (d e:LA) (m:LA):O R :=
 (Ao .i64 (e.drop 9) fun o=>(Aw N 0 1048576 [(.int .i64 o)] 1 false true (fun p=>(Ab N p 2 b 6 3 m (fun q=>(Ao .i64 (e.drop 9) fun r=>(Ao .i64 (e.drop 10) fun s=>(Aw N r 1048576 [(.int .i64 s)] 1 false true (fun t=>(Ab N t 2 b 7 3 q (fun u=>(cond (Nat.ble 8 (d.length)) (B9 1 (e.drop 11) fun v w=>(Ht N (d.take 8) c v w false c 2 b 8 u (fun x=>(r0 x)))) none))))))))))))
def P3 (r0:LA→O R) (b:Int) (c:Bool) (d e:LA) (q2:LA→O R) (g:LA):O R :=
 (cond (Nat.ble 2 ((e.drop 7).length)) (cond ((!c)||(A8 ((e.drop 7).take 2))) (Jr N ((e.drop 7).take 2) false (fun y=>(cond (y==true) (Ao .i64 (e.drop 7) fun z=>(Ab N (cond true (decide (z≥0)) false) 2 b 5 3 g (fun aa=>(q2 aa)))) (Ab N false 2 b 5 3 g (fun ab=>(q2 ab)))))) none) none)
def R7 (r0:LA→O R) (b:Int) (c:Bool) (d e:LA) (g:LA):O R:=(P3 N r0 b c d e (fun m=>(R6 N r0 b c d e m)) g)
def P4 (r0:LA→O R) (b:Int) (c:Bool) (d:LA) (q1:LA→O R) (f e:LA):O R :=
 (cond (Nat.ble 2 ((e.drop 5).length)) (cond ((!c)||(A8 ((e.drop 5).take 2))) (Jr N ((e.drop 5).take 2) false (fun ac=>(cond (ac==true) (Ao .i64 (e.drop 5) fun ad=>(Ab N (cond true (decide (ad≤0)) false) 2 b 4 3 f (fun ae=>(q1 ae)))) (Ab N false 2 b 4 3 f (fun af=>(q1 af)))))) none) none)
def Kv (r0:LA→O R) (b:Int) (c:Bool) (d:LA) (f e:LA):O R:=(P4 N r0 b c d (fun g=>(R7 N r0 b c d e g)) f e)
def O5 (r0:LA→O R) (q0:LA→LA→O R) (d:LA) (c:Bool) (b:Int) (i:LA):O R :=
 (B9 12 (d.drop 3) fun l ag=>(cond (Ac b ag) (cond (Nat.ble 12 ((l.drop ((b.toNat)*12)).length)) (cond ((Nat.beq 0 0)&&((Nat.beq (((l.drop ((b.toNat)*12)).take 12).length) 12)&&(Nat.beq 12 12))) (cond (Nat.ble 8 (d.length)) (Cw N (d.take 8) c 2 b i (fun ah=>(cond (Nat.ble 8 (d.length)) (Ao .i64 (((l.drop ((b.toNat)*12)).take 12).drop 1) fun ai=>(Eu N (d.take 8) c ai 2 b 1 ah (fun aj=>(cond (Nat.ble 8 (d.length)) (Ao .i64 (((l.drop ((b.toNat)*12)).take 12).drop 2) fun ak=>(Eu N (d.take 8) c ak 2 b 2 aj (fun al=>(Ao .i64 (((l.drop ((b.toNat)*12)).take 12).drop 1) fun am=>(Ao .i64 (((l.drop ((b.toNat)*12)).take 12).drop 2) fun an=>(Ab N (am != an) 2 b 2 1 al (fun n=>(cond (Nat.ble 2 ((((l.drop ((b.toNat)*12)).take 12).drop 3).length)) (cond ((!c)||(A8 ((((l.drop ((b.toNat)*12)).take 12).drop 3).take 2))) (Jr N ((((l.drop ((b.toNat)*12)).take 12).drop 3).take 2) false (fun ao=>(cond (ao==true) (Ao .i64 (((l.drop ((b.toNat)*12)).take 12).drop 3) fun ap=>(Ab N (cond true (decide (ap>0)) false) 2 b 3 3 n (fun aq=>(q0 aq ((l.drop ((b.toNat)*12)).take 12))))) (Ab N false 2 b 3 3 n (fun ar=>(q0 ar ((l.drop ((b.toNat)*12)).take 12))))))) none) none)))))))) none)))) none))) none) none) none) none))
def Hu:=(Ae (fun (N:Nat) (d:LA) (c:Bool) (b:Int) (i:LA) (r0:LA→O R)=>(O5 N r0 (fun f e=>(Kv N r0 b c d f e)) d c b i))).1
theorem BD (d c b i r0):(@Hu R N d c b i r0)=(O5 N r0 (fun f e=>(Kv N r0 b c d f e)) d c b i):=by rw[Hu,(Ae _).2]
def EB:Hints:={ H:=(hS hL (hS hL (hS hL (hS hL (hS hL (hS hL (hJ [0,2,4,6,7] hL (hJ [0,2,4,6,7] hL (hJ [0,2,4,6,7] hL hL))))))))) }
def JW:Dg:=[(153,Fj N),(185,My N),(155,Bw N),(186,dD N),(156,D0 N),(187,D_ N)]
def R8 (F:KF R):=Hp Tryz.f157 EB (JW N) [100000] N F
def Dd (F:KF R):LA→O R:=(fun au=>F (.tup []) [(100000,(bQ 0 au))])
def ld (b:Int) (c:Bool) (d e m:LA):St:=⟨[(0,(.optr 100000 0)),(2,(iv b)),(4,(op 0)),(6,(op 1)),(7,(iv 2))],[(100000,(bQ 0 m)),(300000,(bP c 0 d)),(300001,(bP c 0 e))]⟩
def lh (F:KF R):=R8 N F [1,1,1,1,1,1,1,1,1] []
def li (b:Int) (c:Bool) (d e g:LA):St:=⟨[(0,(.optr 100000 0)),(2,(iv b)),(4,(op 0)),(6,(op 1)),(7,(iv 2))],[(100000,(bQ 0 g)),(300000,(bP c 0 d)),(300001,(bP c 0 e))]⟩
def lj (F:KF R):=R8 N F [1,1,1,1,1,1,1,1] []
def lk (b:Int) (c:Bool) (d f e:LA):St:=⟨[(0,(.optr 100000 0)),(2,(iv b)),(4,(op 0)),(6,(op 1)),(7,(iv 2))],[(100000,(bQ 0 f)),(300000,(bP c 0 d)),(300001,(bP c 0 e))]⟩
def lm (F:KF R):=R8 N F [1,1,1,1,1,1,1] []
theorem ZC (F:KF R) (b:Int) (c:Bool) (d e:LA):∀ (m:LA),A9 (lh N F) (ld b c d e m)=(R6 N (Dd F) b c d e m):=by
 intro m
 kernel_rfl
theorem ZD (F:KF R) (b:Int) (c:Bool) (d e:LA):∀ (g:LA),A9 (lj N F) (li b c d e g)=(R7 N (Dd F) b c d e g):=by
 intro g
 exact Eq.trans (by kernel_rfl) (Bm (P3 N (Dd F) b c d e · g) (funext fun m=>(Aq ..).trans (ZC N F b c d e m)):_)
theorem ZE (F:KF R) (b:Int) (c:Bool) (d:LA):∀ (f e:LA),A9 (lm N F) (lk b c d f e)=(Kv N (Dd F) b c d f e):=by
 intro f e
 exact Eq.trans (by kernel_rfl) (Bm (P4 N (Dd F) b c d · f e) (funext fun g=>(Aq ..).trans (ZD N F b c d e g)):_)
theorem EC (d:LA) (c:Bool) (b:Int) (i:LA) (F:KF R):Cd (JW N) EB N 157 [(.optr 100000 0),(.pagg d c),(iv b)] [(100000,(bQ 0 i))] F=(Hu N d c b i (Dd F)):=by
 rw[BD]
 exact Eq.trans (by kernel_rfl) (Bm (O5 N (Dd F) · d c b i) (funext fun f=>funext fun e=>(Aq ..).trans (ZE N F b c d f e)):_)
def BE (a:LA) (h:Ak) (k:KF R):O R :=
 match a,h with
 | [(.optr 100000 0),(.pagg d c),(.int .i64 b)],[(100000,⟨false,false,true,false,0,i,false⟩)]=>(Hu N d c b i (Dd k))
 | _,_=>none
theorem ED:An N 157 @BE:=by
 intro R Q a h k j;unfold BE;split;exact Ax (EC ..) (EC ..) ⟨Fk N,Mz N,Bx N,dE N,D1 N,EA N,trivial⟩;exact Az
def ln:=Ay (ED N)
def lp:=Ca (ED N)
end
end Gx

namespace Gx
open Go Go.Proofs
open IntKind (wrap)
set_option maxRecDepth 100000
noncomputable section
variable {R:Type} (N:Nat)
def Gc (r0:LA→O R) (c:Int) (e:LA) (d:Bool) (b:LA) (k2:Int→Int→O R) (q p:Int):O R :=
 (B9 2 (b.drop 4) fun ba s=>(cond ((decide (p<((s:Nat):Int)))==true) (Ao .i64 (e.drop 3) fun t=>(cond (cond true (t==0) false) (B9 2 (b.drop 4) fun u v=>(cond (Ac p v) (Ao .i64 (u.drop ((p.toNat)*2)) fun w=>(k2 (wrap .i64 (q+w)) (wrap .i64 (p+1)))) none)) (Ao .i64 (e.drop 3) fun x=>(cond ((x != 0)==false) (Ao .i64 (b.drop 3) fun y=>(Ao .i64 (b.drop 2) fun z=>(Ab N (cond false true (q==(wrap .i64 (y - z)))) 3 c 4 4 e (fun aa=>(r0 aa))))) (Ab N true 3 c 4 4 e (fun ab=>(r0 ab))))))) (Ao .i64 (e.drop 3) fun ac=>(cond ((ac != 0)==false) (Ao .i64 (b.drop 3) fun ad=>(Ao .i64 (b.drop 2) fun ae=>(Ab N (cond false true (q==(wrap .i64 (ad - ae)))) 3 c 4 4 e (fun af=>(r0 af))))) (Ab N true 3 c 4 4 e (fun ag=>(r0 ag)))))))
def Dm (r0:LA→O R) (c:Int) (e:LA) (d:Bool) (b:LA):Nat→Int→Int→O R
 | 0,_,_=>none
 | n+1,q,p=>(Gc N r0 c e d b (Dm r0 c e d b n) q p)
def Es (r0:LA→O R) (c:Int) (d:Bool) (b:LA) (k1:Int→LA→O R) (q2:Int→Int→O R) (i:Int) (e:LA):O R :=
 (B9 2 (b.drop 4) fun bb ah=>(cond (decide (i<((ah:Nat):Int))) (B9 2 (b.drop 4) fun ai aj=>(cond (Ac i aj) (Ao .i64 ((ai.drop ((i.toNat)*2)).drop 1) fun ak=>(B9 2 (b.drop 4) fun al am=>(cond (Ac (wrap .i64 (i - 1)) am) (Ao .i64 ((al.drop (((wrap .i64 (i - 1)).toNat)*2)).drop 1) fun an=>(Ab N (decide (ak≥an)) 3 c 4 11 e (fun ao=>(k1 (wrap .i64 (i+1)) ao)))) none))) none)) (q2 0 0)))
def Cx (r0:LA→O R) (c:Int) (d:Bool) (b:LA):Nat→Int→LA→O R
 | 0,_,_=>none
 | n+1,i,e=>(Es N r0 c d b (Cx r0 c d b n) (fun q p=>(Dm N r0 c e d b N q p)) i e)
def Ge (r0:LA→O R) (c:Int) (g:LA) (l:Nat) (d:Bool) (b:LA) (k0:Int→Int→LA→O R) (q1:Int→LA→O R) (m f:Int) (o:LA):O R :=
 (cond (decide (f<m)) (cond (Ac f l) (cond (Nat.ble 2 ((g.drop ((f.toNat)*2)).length)) (cond ((!d)||(A8 ((g.drop ((f.toNat)*2)).take 2))) (cond ((Nat.beq (((g.drop ((f.toNat)*2)).take 2).length) 2)&&((Nat.ble 2 2)&&(!false))) (Ao .i64 (setCells [(.int .i64 0),(.int .i64 0)] 0 ((g.drop ((f.toNat)*2)).take 2)) fun ap=>(Aw N 1 1048576 [(.int .i64 ap)] 1 false true (fun aq=>(cond (aq==true) (Ao .i64 ((setCells [(.int .i64 0),(.int .i64 0)] 0 ((g.drop ((f.toNat)*2)).take 2)).drop 1) fun ar=>(Aw N (-1048576) 1048576 [(.int .i64 ar)] 1 false true (fun au=>(Ab N (cond true au false) 3 c 4 3 o (fun av=>(k0 m (wrap .i64 (f+1)) av)))))) (Ab N false 3 c 4 3 o (fun aw=>(k0 m (wrap .i64 (f+1)) aw))))))) none) none) none) none) (q1 1 o))
def Cy (r0:LA→O R) (c:Int) (g:LA) (l:Nat) (d:Bool) (b:LA):Nat→Int→Int→LA→O R
 | 0,_,_,_=>none
 | n+1,m,f,o=>(Ge N r0 c g l d b (Cy r0 c g l d b n) (fun i e=>(Cx N r0 c d b N i e)) m f o)
def Iu (r0:LA→O R) (q0:LA→Nat→Int→Int→LA→O R) (b:LA) (d:Bool) (c:Int) (r:LA):O R :=
 (B9 2 (b.drop 4) fun bc ax=>(Ab N (decide (((ax:Nat):Int)≤8)) 3 c 4 8 r (fun ay=>(B9 2 (b.drop 4) fun g l=>(q0 g l ((l:Nat):Int) 0 ay)))))
def D2:=(Ae (fun (N:Nat) (b:LA) (d:Bool) (c:Int) (r:LA) (r0:LA→O R)=>(Iu N r0 (fun g l m f o=>(Cy N r0 c g l d b N m f o)) b d c r))).1
theorem S5 (b d c r r0):(@D2 R N b d c r r0)=(Iu N r0 (fun g l m f o=>(Cy N r0 c g l d b N m f o)) b d c r):=by rw[D2,(Ae _).2]
def Vd:Hints:={ H:=(hS hL (hS hL (hS hL (hS (hS hL (hS (hP [0,2,4,6,21,22,23] hL) hL)) (hS (hS hL (hS (hP [0,2,4,6,9] hL) hL)) (hS hL (hS (hS hL (hS (hP [0,2,4,6,10,11] hL) hL)) hL))))))) }
def Wj:Dg:=[(155,Bw N),(156,D0 N)]
def Ll (F:KF R):=Hp Tryz.f188 Vd (Wj N) [100000] N F
def Bt (F:KF R):LA→O R:=(fun az=>F (.tup []) [(100000,(bQ 0 az))])
def UH (c:Int) (e:LA) (d:Bool) (b:LA) (q p:Int):St:=⟨[(0,(.optr 100000 0)),(2,(iv c)),(4,(op 0)),(6,(iv 3)),(10,(iv q)),(11,(iv p))],[(100000,(bQ 0 e)),(300000,(bP d 0 b))]⟩
def UI (F:KF R):=Ll N F [1,1,1,1,1,1,0,1,0] []
def UJ (c:Int) (d:Bool) (b:LA) (i:Int) (e:LA):St:=⟨[(0,(.optr 100000 0)),(2,(iv c)),(4,(op 0)),(6,(iv 3)),(9,(iv i))],[(100000,(bQ 0 e)),(300000,(bP d 0 b))]⟩
def UK (F:KF R):=Ll N F [1,1,1,1,0,1,0] []
def UL (c:Int) (g:LA) (l:Nat) (d:Bool) (b:LA) (m f:Int) (o:LA):St:=⟨[(0,(.optr 100000 0)),(2,(iv c)),(4,(op 0)),(6,(iv 3)),(21,(.imm g l 2 false d)),(22,(iv m)),(23,(iv f))],[(100000,(bQ 0 o)),(300000,(bP d 0 b))]⟩
def UM (F:KF R):=Ll N F [1,1,1,0,1,0] []
theorem P5 (F:KF R) (c:Int) (e:LA) (d:Bool) (b:LA):∀ (n:Nat) (q p:Int),Ap (UI N F) n (UH c e d b q p)=(Dm N (Bt F) c e d b n q p)
 | 0,_,_=>by kernel_rfl
 | n+1,q,p=>Eq.trans (by kernel_rfl) (Bm (Gc N (Bt F) c e d b · q p) (funext fun q=>funext fun p=>(P5 F c e d b n q p)):_)
theorem P6 (F:KF R) (c:Int) (d:Bool) (b:LA):∀ (n:Nat) (i:Int) (e:LA),Ap (UK N F) n (UJ c d b i e)=(Cx N (Bt F) c d b n i e)
 | 0,_,_=>by kernel_rfl
 | n+1,i,e=>Eq.trans (by kernel_rfl) (fQ (Es N (Bt F) c d b · · i e) (funext fun i=>funext fun e=>(P6 F c d b n i e)) (funext fun q=>funext fun p=>(Ai ..).trans (P5 N F c e d b N q p)):_)
theorem P7 (F:KF R) (c:Int) (g:LA) (l:Nat) (d:Bool) (b:LA):∀ (n:Nat) (m f:Int) (o:LA),Ap (UM N F) n (UL c g l d b m f o)=(Cy N (Bt F) c g l d b n m f o)
 | 0,_,_,_=>by kernel_rfl
 | n+1,m,f,o=>Eq.trans (by kernel_rfl) (fQ (Ge N (Bt F) c g l d b · · m f o) (funext fun m=>funext fun f=>funext fun o=>(P7 F c g l d b n m f o)) (funext fun i=>funext fun e=>(Ai ..).trans (P6 N F c d b N i e)):_)
theorem Ve (b:LA) (d:Bool) (c:Int) (r:LA) (F:KF R):Cd (Wj N) Vd N 188 [(.optr 100000 0),(.pagg b d),(iv c)] [(100000,(bQ 0 r))] F=(D2 N b d c r (Bt F)):=by
 rw[S5]
 exact Eq.trans (by kernel_rfl) (Bm (Iu N (Bt F) · b d c r) (funext fun g=>funext fun l=>funext fun m=>funext fun f=>funext fun o=>(Ai ..).trans (P7 N F c g l d b N m f o)):_)
def S6 (a:LA) (h:Ak) (k:KF R):O R :=
 match a,h with
 | [(.optr 100000 0),(.pagg b d),(.int .i64 c)],[(100000,⟨false,false,true,false,0,r,false⟩)]=>(D2 N b d c r (Bt k))
 | _,_=>none
theorem Vf:An N 188 @S6:=by
 intro R Q a h k j;unfold S6;split;exact Ax (Ve ..) (Ve ..) ⟨Bx N,D1 N,trivial⟩;exact Az
def UN:=Ay (Vf N)
def UO:=Ca (Vf N)
def R9 (r0:LA→O R) (b:Int) (c:Bool) (d i:LA):O R :=
 (Ao .i64 (d.drop 19) fun o=>(cond (o==2) (Ao .i64 (d.drop 2) fun p=>(Ao .i64 (d.drop 3) fun q=>(Ao .i64 (d.drop 21) fun r=>(Aw N p q [(.int .i64 r)] 1 false true (fun s=>(Ab N s 3 b 21 3 i (fun t=>(r0 t)))))))) (Ao .i64 (d.drop 21) fun u=>(Ab N (u==0) 3 b 21 3 i (fun v=>(r0 v))))))
def P8 (r0:LA→O R) (b:Int) (c:Bool) (q1:LA→O R) (g d:LA):O R :=
 (Ao .i64 (d.drop 20) fun w=>(Aw N 1 48 [(.int .i64 w)] 1 false true (fun x=>(Ab N x 3 b 20 3 g (fun m=>(Ao .i64 (d.drop 19) fun y=>(cond ((y != 1)==false) (Ao .i64 (d.drop 20) fun z=>(Ao .i64 (d.drop 12) fun aa=>(Ab N (cond false true (decide (z≤aa))) 3 b 20 3 m (fun ab=>(q1 ab))))) (Ab N true 3 b 20 3 m (fun ac=>(q1 ac))))))))))
def Kw (r0:LA→O R) (b:Int) (c:Bool) (g d:LA):O R:=(P8 N r0 b c (fun i=>(R9 N r0 b c d i)) g d)
def O6 (r0:LA→O R) (q0:LA→LA→O R) (f:LA) (c:Bool) (b:Int) (l:LA):O R :=
 (B9 22 (f.drop 4) fun e ad=>(cond (Ac b ad) (cond (Nat.ble 22 ((e.drop ((b.toNat)*22)).length)) (cond ((Nat.beq 0 0)&&((Nat.beq (((e.drop ((b.toNat)*22)).take 22).length) 22)&&(Nat.beq 22 22))) (cond (Nat.ble 8 (f.length)) (Cw N (f.take 8) c 3 b l (fun ae=>(cond (Nat.ble 8 (f.length)) (Ao .i64 (((e.drop ((b.toNat)*22)).take 22).drop 1) fun af=>(Eu N (f.take 8) c af 3 b 1 ae (fun ag=>(Ao .i64 (((e.drop ((b.toNat)*22)).take 22).drop 2) fun ah=>(Aw N 0 1048576 [(.int .i64 ah)] 1 false true (fun ai=>(Ab N ai 3 b 2 3 ag (fun aj=>(Ao .i64 (((e.drop ((b.toNat)*22)).take 22).drop 2) fun ak=>(Ao .i64 (((e.drop ((b.toNat)*22)).take 22).drop 3) fun al=>(Aw N ak 1048576 [(.int .i64 al)] 1 false true (fun am=>(Ab N am 3 b 3 3 aj (fun an=>(cond (Nat.ble 22 (((e.drop ((b.toNat)*22)).take 22).length)) (D2 N (((e.drop ((b.toNat)*22)).take 22).take 22) c b an (fun ao=>(Ao .i64 (((e.drop ((b.toNat)*22)).take 22).drop 5) fun ap=>(Aw N 0 1048576 [(.int .i64 ap)] 1 false true (fun aq=>(Ab N aq 3 b 5 3 ao (fun ar=>(Ao .i64 (((e.drop ((b.toNat)*22)).take 22).drop 6) fun au=>(Aw N 0 1048576 [(.int .i64 au)] 1 false true (fun av=>(Ab N av 3 b 6 3 ar (fun aw=>(Ao .i64 (((e.drop ((b.toNat)*22)).take 22).drop 7) fun ax=>(Aw N 0 1048576 [(.int .i64 ax)] 1 false true (fun ay=>(Ab N ay 3 b 7 3 aw (fun az=>(Ao .i64 (((e.drop ((b.toNat)*22)).take 22).drop 2) fun ba=>(Ao .i64 (((e.drop ((b.toNat)*22)).take 22).drop 3) fun bb=>(Ao .i64 (((e.drop ((b.toNat)*22)).take 22).drop 8) fun bc=>(Aw N ba bb [(.int .i64 bc)] 1 false true (fun bd=>(Ab N bd 3 b 8 3 az (fun be=>(Ao .i64 (((e.drop ((b.toNat)*22)).take 22).drop 2) fun bf=>(Ao .i64 (((e.drop ((b.toNat)*22)).take 22).drop 3) fun bg=>(Ao .i64 (((e.drop ((b.toNat)*22)).take 22).drop 9) fun bh=>(Aw N bf bg [(.int .i64 bh)] 1 false true (fun bi=>(Ab N bi 3 b 9 3 be (fun bj=>(Ao .i64 (((e.drop ((b.toNat)*22)).take 22).drop 10) fun bk=>(Aw N 0 24 [(.int .i64 bk)] 1 false true (fun bl=>(Ab N bl 3 b 10 3 bj (fun bm=>(Ao .i64 (((e.drop ((b.toNat)*22)).take 22).drop 11) fun bn=>(Aw N 0 24 [(.int .i64 bn)] 1 false true (fun bo=>(Ab N bo 3 b 11 3 bm (fun bp=>(Ao .i64 (((e.drop ((b.toNat)*22)).take 22).drop 12) fun bq=>(Aw N 0 24 [(.int .i64 bq)] 1 false true (fun br=>(Ab N br 3 b 12 3 bp (fun bs=>(Ao .i64 (((e.drop ((b.toNat)*22)).take 22).drop 13) fun bt=>(Aw N 0 1048576 [(.int .i64 bt)] 1 false true (fun bu=>(Ab N bu 3 b 13 3 bs (fun bv=>(Ao .i64 (((e.drop ((b.toNat)*22)).take 22).drop 14) fun bw=>(Aw N 0 1048576 [(.int .i64 bw)] 1 false true (fun bx=>(Ab N bx 3 b 14 3 bv (fun bz=>(Ao .i64 (((e.drop ((b.toNat)*22)).take 22).drop 15) fun ca=>(Aw N 0 24 [(.int .i64 ca)] 1 false true (fun cb=>(Ab N cb 3 b 15 3 bz (fun cc=>(Ao .i64 (((e.drop ((b.toNat)*22)).take 22).drop 16) fun cd=>(Aw N 0 1048576 [(.int .i64 cd)] 1 false true (fun ce=>(Ab N ce 3 b 16 3 cc (fun cf=>(Ao .i64 (((e.drop ((b.toNat)*22)).take 22).drop 17) fun cg=>(Aw N 0 1048576 [(.int .i64 cg)] 1 false true (fun ch=>(Ab N ch 3 b 17 3 cf (fun ci=>(cond (Nat.ble 8 (f.length)) (B9 1 (((e.drop ((b.toNat)*22)).take 22).drop 18) fun cj ck=>(Ht N (f.take 8) c cj ck false c 3 b 18 ci (fun cl=>(Ao .i64 (((e.drop ((b.toNat)*22)).take 22).drop 19) fun cm=>(Aw N 0 2 [(.int .i64 cm)] 1 false true (fun cn=>(Ab N cn 3 b 19 12 cl (fun n=>(Ao .i64 (((e.drop ((b.toNat)*22)).take 22).drop 19) fun co=>(cond ((co != 1)==false) (Ao .i64 (((e.drop ((b.toNat)*22)).take 22).drop 12) fun cp=>(Ab N (cond false true (decide (cp>0))) 3 b 19 16 n (fun cq=>(q0 cq ((e.drop ((b.toNat)*22)).take 22))))) (Ab N true 3 b 19 16 n (fun cr=>(q0 cr ((e.drop ((b.toNat)*22)).take 22)))))))))))))) none)))))))))))))))))))))))))))))))))))))))))))))))))))))))))))))))))))))))) none))))))))))))))) none))) none) none) none) none))
def Hv:=(Ae (fun (N:Nat) (f:LA) (c:Bool) (b:Int) (l:LA) (r0:LA→O R)=>(O6 N r0 (fun g d=>(Kw N r0 b c g d)) f c b l))).1
theorem BF (f c b l r0):(@Hv R N f c b l r0)=(O6 N r0 (fun g d=>(Kw N r0 b c g d)) f c b l):=by rw[Hv,(Ae _).2]
def EE:Hints:={ H:=(hS hL (hS hL (hS hL (hS hL (hS hL (hS hL (hS hL (hS hL (hS hL (hS hL (hS hL (hS hL (hS hL (hS hL (hS hL (hS hL (hS hL (hS hL (hS hL (hS hL (hS hL (hS hL (hJ [0,2,6,7] hL (hS hL (hJ [0,2,6,7] hL hL))))))))))))))))))))))))) }
def JX:Dg:=[(153,Fj N),(185,My N),(156,D0 N),(155,Bw N),(188,UN N),(187,D_ N)]
def EF (F:KF R):=Hp Tryz.f158 EE (JX N) [100000] N F
def Fl (F:KF R):LA→O R:=(fun cs=>F (.tup []) [(100000,(bQ 0 cs))])
def lq (b:Int) (c:Bool) (d i:LA):St:=⟨[(0,(.optr 100000 0)),(2,(iv b)),(6,(op 0)),(7,(iv 3))],[(100000,(bQ 0 i)),(300000,(bP c 0 d))]⟩
def lw (F:KF R):=EF N F [1,1,1,1,1,1,1,1,1,1,1,1,1,1,1,1,1,1,1,1,1,1,1,1,1] []
def mA (b:Int) (c:Bool) (g d:LA):St:=⟨[(0,(.optr 100000 0)),(2,(iv b)),(6,(op 0)),(7,(iv 3))],[(100000,(bQ 0 g)),(300000,(bP c 0 d))]⟩
def mB (F:KF R):=EF N F [1,1,1,1,1,1,1,1,1,1,1,1,1,1,1,1,1,1,1,1,1,1,1] []
theorem ZF (F:KF R) (b:Int) (c:Bool) (d:LA):∀ (i:LA),A9 (lw N F) (lq b c d i)=(R9 N (Fl F) b c d i):=by
 intro i
 kernel_rfl
theorem ZG (F:KF R) (b:Int) (c:Bool):∀ (g d:LA),A9 (mB N F) (mA b c g d)=(Kw N (Fl F) b c g d):=by
 intro g d
 exact Eq.trans (by kernel_rfl) (Bm (P8 N (Fl F) b c · g d) (funext fun i=>(Aq ..).trans (ZF N F b c d i)):_)
theorem EG (f:LA) (c:Bool) (b:Int) (l:LA) (F:KF R):Cd (JX N) EE N 158 [(.optr 100000 0),(.pagg f c),(iv b)] [(100000,(bQ 0 l))] F=(Hv N f c b l (Fl F)):=by
 rw[BF]
 exact Eq.trans (by kernel_rfl) (Bm (O6 N (Fl F) · f c b l) (funext fun g=>funext fun d=>(Aq ..).trans (ZG N F b c g d)):_)
def BG (a:LA) (h:Ak) (k:KF R):O R :=
 match a,h with
 | [(.optr 100000 0),(.pagg f c),(.int .i64 b)],[(100000,⟨false,false,true,false,0,l,false⟩)]=>(Hv N f c b l (Fl k))
 | _,_=>none
theorem EH:An N 158 @BG:=by
 intro R Q a h k j;unfold BG;split;exact Ax (EG ..) (EG ..) ⟨Fk N,Mz N,D1 N,Bx N,UO N,EA N,trivial⟩;exact Az
def mC:=Ay (EH N)
def mD:=Ca (EH N)
def Uc (d:LA) (e:Bool) (b:Int) (f:LA) (r0:LA→O R):O R :=
 (B9 9 (d.drop 5) fun c i=>(cond (Ac b i) (cond (Nat.ble 9 ((c.drop ((b.toNat)*9)).length)) (cond ((Nat.beq 0 0)&&((Nat.beq (((c.drop ((b.toNat)*9)).take 9).length) 9)&&(Nat.beq 9 9))) (cond (Nat.ble 8 (d.length)) (Cw N (d.take 8) e 4 b f (fun l=>(cond (Nat.ble 8 (d.length)) (Ao .i64 (((c.drop ((b.toNat)*9)).take 9).drop 1) fun m=>(Eu N (d.take 8) e m 4 b 1 l (fun n=>(Ao .i64 (((c.drop ((b.toNat)*9)).take 9).drop 2) fun o=>(Aw N 0 1048576 [(.int .i64 o)] 1 false true (fun p=>(Ab N p 4 b 2 3 n (fun q=>(Ao .i64 (((c.drop ((b.toNat)*9)).take 9).drop 2) fun r=>(Ao .i64 (((c.drop ((b.toNat)*9)).take 9).drop 3) fun s=>(Aw N 0 r [(.int .i64 s)] 1 false true (fun t=>(Ab N t 4 b 3 3 q (fun u=>(Ao .i64 (((c.drop ((b.toNat)*9)).take 9).drop 2) fun v=>(Ao .i64 (((c.drop ((b.toNat)*9)).take 9).drop 4) fun w=>(Aw N 0 v [(.int .i64 w)] 1 false true (fun x=>(Ab N x 4 b 4 3 u (fun y=>(Ao .i64 (((c.drop ((b.toNat)*9)).take 9).drop 5) fun z=>(Aw N 0 1048576 [(.int .i64 z)] 1 false true (fun aa=>(Ab N aa 4 b 5 3 y (fun ab=>(Ao .i64 (((c.drop ((b.toNat)*9)).take 9).drop 6) fun ac=>(Aw N 0 1048576 [(.int .i64 ac)] 1 false true (fun ad=>(Ab N ad 4 b 6 3 ab (fun g=>(cond (Nat.ble 2 ((((c.drop ((b.toNat)*9)).take 9).drop 7).length)) (cond ((!e)||(A8 ((((c.drop ((b.toNat)*9)).take 9).drop 7).take 2))) (Jr N ((((c.drop ((b.toNat)*9)).take 9).drop 7).take 2) false (fun ae=>(cond (ae==true) (Ao .i64 (((c.drop ((b.toNat)*9)).take 9).drop 7) fun af=>(cond ((cond true (decide (af>0)) false)==true) (Ao .i64 (((c.drop ((b.toNat)*9)).take 9).drop 7) fun ag=>(Ao .i64 (((c.drop ((b.toNat)*9)).take 9).drop 8) fun ah=>(Ab N (cond true (decide (ag≤ah)) false) 4 b 7 3 g (fun ai=>(r0 ai))))) (Ab N false 4 b 7 3 g (fun aj=>(r0 aj))))) (Ab N false 4 b 7 3 g (fun ak=>(r0 ak)))))) none) none))))))))))))))))))))))))))))))) none))) none) none) none) none))
def Js:=(Ae (@Uc R)).1
theorem Xk:@Js R=@Uc R:=(Ae _).2
def mE:Dg:=[(153,Fj N),(185,My N),(156,D0 N),(155,Bw N),(186,dD N)]
def BH (F:KF R):LA→O R:=(fun al=>F (.tup []) [(100000,(bQ 0 al))])
theorem BI (d:LA) (e:Bool) (b:Int) (f:LA) (F:KF R):Cd (mE N) C6 N 159 [(.optr 100000 0),(.pagg d e),(iv b)] [(100000,(bQ 0 f))] F=(Js N d e b f (BH F)):=by
 rw[Xk]
 kernel_rfl
def Xl (a:LA) (h:Ak) (k:KF R):O R :=
 match a,h with
 | [(.optr 100000 0),(.pagg d e),(.int .i64 b)],[(100000,⟨false,false,true,false,0,f,false⟩)]=>(Js N d e b f (BH k))
 | _,_=>none
theorem BJ:An N 159 @Xl:=by
 intro R Q a h k j;unfold Xl;split;exact Ax (BI ..) (BI ..) ⟨Fk N,Mz N,D1 N,Bx N,dE N,trivial⟩;exact Az
def jA:=Ay (BJ N)
def jB:=Ca (BJ N)
def Yq (c:LA) (d:Bool) (b:Int) (e:LA) (r0:LA→O R):O R :=
 (B9 5 (c.drop 6) fun f g=>(cond (Ac b g) (cond (Nat.ble 5 ((f.drop ((b.toNat)*5)).length)) (cond ((Nat.beq 0 0)&&((Nat.beq (((f.drop ((b.toNat)*5)).take 5).length) 5)&&(Nat.beq 5 5))) (cond (Nat.ble 8 (c.length)) (Cw N (c.take 8) d 5 b e (fun i=>(cond (Nat.ble 8 (c.length)) (Ao .i64 (((f.drop ((b.toNat)*5)).take 5).drop 1) fun l=>(Eu N (c.take 8) d l 5 b 1 i (fun m=>(cond (Nat.ble 8 (c.length)) (B9 1 (((f.drop ((b.toNat)*5)).take 5).drop 2) fun n o=>(C1 N (c.take 8) d n o false d 0 1048576 5 b 2 m (fun p=>(cond (Nat.ble 8 (c.length)) (B9 1 (((f.drop ((b.toNat)*5)).take 5).drop 3) fun q r=>(C1 N (c.take 8) d q r false d 0 1048576 5 b 3 p (fun s=>(cond (Nat.ble 8 (c.length)) (B9 1 (((f.drop ((b.toNat)*5)).take 5).drop 4) fun t u=>(C1 N (c.take 8) d t u false d (-1048576) 1048576 5 b 4 s (fun v=>(r0 v)))) none)))) none)))) none)))) none))) none) none) none) none))
def N1:=(Ae (@Yq R)).1
theorem EI:@N1 R=@Yq R:=(Ae _).2
def vC:Dg:=[(153,Fj N),(185,My N),(154,Ol N)]
def JY (F:KF R):LA→O R:=(fun w=>F (.tup []) [(100000,(bQ 0 w))])
theorem JZ (c:LA) (d:Bool) (b:Int) (e:LA) (F:KF R):Cd (vC N) C6 N 160 [(.optr 100000 0),(.pagg c d),(iv b)] [(100000,(bQ 0 e))] F=(N1 N c d b e (JY F)):=by
 rw[EI]
 kernel_rfl
def EJ (a:LA) (h:Ak) (k:KF R):O R :=
 match a,h with
 | [(.optr 100000 0),(.pagg c d),(.int .i64 b)],[(100000,⟨false,false,true,false,0,e,false⟩)]=>(N1 N c d b e (JY k))
 | _,_=>none
theorem J_:An N 160 @EJ:=by
 intro R Q a h k j;unfold EJ;split;exact Ax (JZ ..) (JZ ..) ⟨Fk N,Mz N,Om N,trivial⟩;exact Az
def rL:=Ay (J_ N)
def rM:=Ca (J_ N)
def Hg (r0:LA→O R) (b:Int) (l:LA) (o:Nat) (c:Bool) (k2:Int→Int→LA→O R) (r f:Int) (s:LA):O R :=
 (cond (decide (f<r)) (cond (Ac f o) (cond (Nat.ble 3 ((l.drop ((f.toNat)*3)).length)) (cond ((!c)||(A8 ((l.drop ((f.toNat)*3)).take 3))) (cond ((Nat.beq (((l.drop ((f.toNat)*3)).take 3).length) 3)&&((Nat.ble 3 3)&&(!false))) (Ao .i64 ((setCells [(.int .i64 0),(.int .i64 0),(.int .i64 0)] 0 ((l.drop ((f.toNat)*3)).take 3)).drop 1) fun z=>(Ao .i64 ((setCells [(.int .i64 0),(.int .i64 0),(.int .i64 0)] 0 ((l.drop ((f.toNat)*3)).take 3)).drop 2) fun aa=>(Aw N 0 1048576 [(.int .i64 z),(.int .i64 aa)] 2 false true (fun ab=>(Ab N ab 6 b 3 3 s (fun ac=>(k2 r (wrap .i64 (f+1)) ac))))))) none) none) none) none) (r0 s))
def El (r0:LA→O R) (b:Int) (l:LA) (o:Nat) (c:Bool):Nat→Int→Int→LA→O R
 | 0,_,_,_=>none
 | n+1,r,f,s=>(Hg N r0 b l o c (El r0 b l o c n) r f s)
def Hh (r0:LA→O R) (b:Int) (m:LA) (p:Nat) (c:Bool) (t d e:LA) (k1:Nat→Int→Int→LA→O R) (q2:LA→Nat→Int→Int→LA→O R) (g:Nat) (u i:Int) (q:LA):O R :=
 (cond (decide (i<u)) (cond (Ac i p) (cond (Nat.ble 3 ((m.drop ((i.toNat)*3)).length)) (cond ((!c)||(A8 ((m.drop ((i.toNat)*3)).take 3))) (cond ((Nat.beq (((m.drop ((i.toNat)*3)).take 3).length) 3)&&((Nat.ble 3 3)&&(!false))) (Ao .i64 (setCells [(.int .i64 0),(.int .i64 0),(.int .i64 0)] 0 ((m.drop ((i.toNat)*3)).take 3)) fun ad=>(cond ((Nat.ble (g+1) 140737488355328)&&(Nat.ble ((g+1)*8) 140737488355328)) (k1 (g+1) u (wrap .i64 (i+1)) ((q.take (g*1))++[(.int .i64 ad)])) none)) none) none) none) none) (B9 22 (d.drop 4) fun be ae=>(Aw N 0 (wrap .i64 (((ae:Nat):Int) - 1)) (q.take (g*1)) g false true (fun af=>(Ab N af 6 b 3 12 t (fun ag=>(P0 N (q.take (g*1)) g false true (fun ah=>(Ab N ah 6 b 3 11 ag (fun ai=>(B9 3 (e.drop 3) fun l o=>(q2 l o ((o:Nat):Int) 0 ai))))))))))))
def Em (r0:LA→O R) (b:Int) (m:LA) (p:Nat) (c:Bool) (t d e:LA):Nat→Nat→Int→Int→LA→O R
 | 0,_,_,_,_=>none
 | n+1,g,u,i,q=>(Hh N r0 b m p c t d e (Em r0 b m p c t d e n) (fun l o r f s=>(El N r0 b l o c N r f s)) g u i q)
def M0 (r0:LA→O R) (b:Int) (c:Bool) (d:LA) (q1:LA→Nat→LA→Nat→Int→Int→LA→O R) (v e:LA):O R :=
 (B9 3 (e.drop 3) fun bf aj=>(Ab N (decide (((aj:Nat):Int)≤16)) 6 b 3 8 v (fun t=>(B9 3 (e.drop 3) fun m p=>(q1 m p t 0 ((p:Nat):Int) 0 [])))))
def Iv (r0:LA→O R) (b:Int) (c:Bool) (d:LA) (v e:LA):O R:=(M0 N r0 b c d (fun m p t g u i q=>(Em N r0 b m p c t d e N g u i q)) v e)
def Kx (r0:LA→O R) (q0:LA→LA→O R) (d:LA) (c:Bool) (b:Int) (w:LA):O R :=
 (B9 4 (d.drop 7) fun x ak=>(cond (Ac b ak) (cond (Nat.ble 4 ((x.drop ((b.toNat)*4)).length)) (cond ((Nat.beq 0 0)&&((Nat.beq (((x.drop ((b.toNat)*4)).take 4).length) 4)&&(Nat.beq 4 4))) (cond (Nat.ble 8 (d.length)) (Cw N (d.take 8) c 6 b w (fun al=>(B9 1 (((x.drop ((b.toNat)*4)).take 4).drop 1) fun bg am=>(Aw N 1 2 [(.int .i64 ((am:Nat):Int))] 1 false true (fun an=>(Ab N an 6 b 1 4 al (fun ao=>(B9 12 (d.drop 3) fun bh ap=>(B9 1 (((x.drop ((b.toNat)*4)).take 4).drop 1) fun aq ar=>(Aw N 0 (wrap .i64 (((ap:Nat):Int) - 1)) aq ar false c (fun au=>(Ab N au 6 b 1 12 ao (fun av=>(B9 1 (((x.drop ((b.toNat)*4)).take 4).drop 1) fun aw ax=>(P0 N aw ax false c (fun ay=>(Ab N ay 6 b 1 11 av (fun y=>(RW (((x.drop ((b.toNat)*4)).take 4).drop 2) fun az=>(cond (az==false) (B9 3 (((x.drop ((b.toNat)*4)).take 4).drop 3) fun bi ba=>(Ab N (cond false true (((ba:Nat):Int)==0)) 6 b 3 16 y (fun bb=>(q0 bb ((x.drop ((b.toNat)*4)).take 4))))) (Ab N true 6 b 3 16 y (fun bc=>(q0 bc ((x.drop ((b.toNat)*4)).take 4)))))))))))))))))))))))) none) none) none) none))
def F4:=(Ae (fun (N:Nat) (d:LA) (c:Bool) (b:Int) (w:LA) (r0:LA→O R)=>(Kx N r0 (fun v e=>(Iv N r0 b c d v e)) d c b w))).1
theorem Wk (d c b w r0):(@F4 R N d c b w r0)=(Kx N r0 (fun v e=>(Iv N r0 b c d v e)) d c b w):=by rw[F4,(Ae _).2]
def Xm:Hints:={ H:=(hS hL (hS hL (hS hL (hS hL (hS hL (hS hL (hJ [0,2,4,6,7] hL (hS hL (hS hL (hS (hS hL (hS (hP [0,2,4,6,7,8,71,72,73] hL) hL)) (hS hL (hS hL (hS hL (hS (hP [0,2,7,100,101,102] hL) hL)))))))))))))),nils:=[(8,1)] }
def BK:Dg:=[(153,Fj N),(156,D0 N),(155,Bw N),(189,oh N)]
def On (F:KF R):=Hp Tryz.f161 Xm (BK N) [100000] N F
def Ce (F:KF R):LA→O R:=(fun bd=>F (.tup []) [(100000,(bQ 0 bd))])
def eT (b:Int) (l:LA) (o:Nat) (c:Bool) (r f:Int) (s:LA):St:=⟨[(0,(.optr 100000 0)),(2,(iv b)),(7,(iv 6)),(100,(.imm l o 3 false c)),(101,(iv r)),(102,(iv f))],[(100000,(bQ 0 s))]⟩
def eV (F:KF R):=On N F [1,1,1,1,1,1,1,1,1,1,1,1,1,0] []
def eX (b:Int) (m:LA) (p:Nat) (c:Bool) (t d e:LA) (g:Nat) (u i:Int) (q:LA):St:=⟨[(0,(.optr 100000 0)),(2,(iv b)),(4,(op 0)),(6,(op 1)),(7,(iv 6)),(8,(.own 300002 0 g)),(71,(.imm m p 3 false c)),(72,(iv u)),(73,(iv i))],[(100000,(bQ 0 t)),(300000,(bP c 0 d)),(300001,(bP c 0 e)),(300002,(bQ 1 q))]⟩
def eY (F:KF R):=On N F [1,1,1,1,1,1,1,1,1,0,1,0] []
def eZ (b:Int) (c:Bool) (d v e:LA):St:=⟨[(0,(.optr 100000 0)),(2,(iv b)),(4,(op 0)),(6,(op 1)),(7,(iv 6))],[(100000,(bQ 0 v)),(300000,(bP c 0 d)),(300001,(bP c 0 e))]⟩
def e9 (F:KF R):=On N F [1,1,1,1,1,1,1] []
theorem S7 (F:KF R) (b:Int) (l:LA) (o:Nat) (c:Bool):∀ (n:Nat) (r f:Int) (s:LA),Ap (eV N F) n (eT b l o c r f s)=(El N (Ce F) b l o c n r f s)
 | 0,_,_,_=>by kernel_rfl
 | n+1,r,f,s=>Eq.trans (by kernel_rfl) (Bm (Hg N (Ce F) b l o c · r f s) (funext fun r=>funext fun f=>funext fun s=>(S7 F b l o c n r f s)):_)
theorem S8 (F:KF R) (b:Int) (m:LA) (p:Nat) (c:Bool) (t d e:LA):∀ (n g:Nat) (u i:Int) (q:LA),Ap (eY N F) n (eX b m p c t d e g u i q)=(Em N (Ce F) b m p c t d e n g u i q)
 | 0,_,_,_,_=>by kernel_rfl
 | n+1,g,u,i,q=>Eq.trans (by kernel_rfl) (fQ (Hh N (Ce F) b m p c t d e · · g u i q) (funext fun g=>funext fun u=>funext fun i=>funext fun q=>(S8 F b m p c t d e n g u i q)) (funext fun l=>funext fun o=>funext fun r=>funext fun f=>funext fun s=>(Ai ..).trans (S7 N F b l o c N r f s)):_)
theorem QU (F:KF R) (b:Int) (c:Bool) (d:LA):∀ (v e:LA),A9 (e9 N F) (eZ b c d v e)=(Iv N (Ce F) b c d v e):=by
 intro v e
 exact Eq.trans (by kernel_rfl) (Bm (M0 N (Ce F) b c d · v e) (funext fun m=>funext fun p=>funext fun t=>funext fun g=>funext fun u=>funext fun i=>funext fun q=>(Ai ..).trans (S8 N F b m p c t d e N g u i q)):_)
theorem Xn (d:LA) (c:Bool) (b:Int) (w:LA) (F:KF R):Cd (BK N) Xm N 161 [(.optr 100000 0),(.pagg d c),(iv b)] [(100000,(bQ 0 w))] F=(F4 N d c b w (Ce F)):=by
 rw[Wk]
 exact Eq.trans (by kernel_rfl) (Bm (Kx N (Ce F) · d c b w) (funext fun v=>funext fun e=>(Aq ..).trans (QU N F b c d v e)):_)
def Wl (a:LA) (h:Ak) (k:KF R):O R :=
 match a,h with
 | [(.optr 100000 0),(.pagg d c),(.int .i64 b)],[(100000,⟨false,false,true,false,0,w,false⟩)]=>(F4 N d c b w (Ce k))
 | _,_=>none
theorem Xo:An N 161 @Wl:=by
 intro R Q a h k j;unfold Wl;split;exact Ax (Xn ..) (Xn ..) ⟨Fk N,D1 N,Bx N,oi N,trivial⟩;exact Az
def e_:=Ay (Xo N)
def ee:=Ca (Xo N)
def OR (N:Nat) (r0:Bool→O R) (c:LA) (b:Nat) (e f:Bool) (d:Int) (k0:Int→O R) (g:Int):O R :=
 (cond (decide (g<((b:Nat):Int))) (cond (Ac g b) (Ao .i64 (c.drop ((g.toNat)*1)) fun i=>(cond (i==d) (r0 true) (k0 (wrap .i64 (g+1))))) none) (r0 false))
def Ud (r0:Bool→O R) (c:LA) (b:Nat) (e f:Bool) (d:Int):Nat→Int→O R
 | 0,_=>none
 | n+1,g=>(OR N r0 c b e f d (Ud r0 c b e f d n) g)
def vD (N:Nat) (r0:Bool→O R) (q0:Int→O R) (c:LA) (b:Nat) (e f:Bool) (d:Int):O R :=
 (q0 0)
def OS:=(Ae (fun (N:Nat) (c:LA) (b:Nat) (e f:Bool) (d:Int) (r0:Bool→O R)=>(vD N r0 (fun g=>(Ud N r0 c b e f d N g)) c b e f d))).1
theorem Ac7 (c b e f d r0):(@OS R N c b e f d r0)=(vD N r0 (fun g=>(Ud N r0 c b e f d N g)) c b e f d):=by rw[OS,(Ae _).2]
def Apj:Hints:={ H:=(hS hL (hS (hS hL (hS (hP [0,1,5] hL) hL)) hL)) }
def Bai (F:KF R):=Hp Tryz.f163 Apj [] [] N F
def KA (F:KF R):Bool→O R:=(fun l=>F (.bool l) [])
def Baj (c:LA) (b:Nat) (e f:Bool) (d g:Int):St:=⟨[(0,(.imm c b 1 e f)),(1,(iv d)),(5,(iv g))],[]⟩
def Bak (F:KF R):=Bai N F [1,0,1,0] []
theorem om (F:KF R) (c:LA) (b:Nat) (e f:Bool) (d:Int):∀ (n:Nat) (g:Int),Ap (Bak N F) n (Baj c b e f d g)=(Ud N (KA F) c b e f d n g)
 | 0,_=>by kernel_rfl
 | n+1,g=>Eq.trans (by kernel_rfl) (Bm (OR N (KA F) c b e f d · g) (funext fun g=>(om F c b e f d n g)):_)
theorem Apk (c:LA) (b:Nat) (e f:Bool) (d:Int) (F:KF R):Cd [] Apj N 163 [(.imm c b 1 e f),(iv d)] [] F=(OS N c b e f d (KA F)):=by
 rw[Ac7]
 exact Eq.trans (by kernel_rfl) (Bm (vD N (KA F) · c b e f d) (funext fun g=>(Ai ..).trans (om N F c b e f d N g)):_)
def Ac8 (a:LA) (h:Ak) (k:KF R):O R :=
 match a,h with
 | [(.imm c b 1 e f),(.int .i64 d)],[]=>(OS N c b e f d (KA k))
 | _,_=>none
theorem Apl:An N 163 @Ac8:=by
 intro R Q a h k j;unfold Ac8;split;exact Ax (Apk ..) (Apk ..) trivial;exact Az
def rN:=Ay (Apl N)
def rO:=Ca (Apl N)
def O7 (r0:Nat→LA→O R) (c:Int) (d:Bool) (b:LA) (k0:Nat→Int→LA→O R) (e:Nat) (f:Int) (g:LA):O R :=
 (B9 12 (b.drop 3) fun t i=>(cond (decide (f<((i:Nat):Int))) (B9 12 (b.drop 3) fun l m=>(cond (Ac f m) (B9 1 ((l.drop ((f.toNat)*12)).drop 11) fun o p=>(OS N o p false d c (fun q=>(cond (!q) (cond ((Nat.ble (e+1) 140737488355328)&&(Nat.ble ((e+1)*8) 140737488355328)) (k0 (e+1) (wrap .i64 (f+1)) ((g.take (e*1))++[(.int .i64 f)])) none) (k0 e (wrap .i64 (f+1)) g))))) none)) (r0 e g)))
def F5 (r0:Nat→LA→O R) (c:Int) (d:Bool) (b:LA):Nat→Nat→Int→LA→O R
 | 0,_,_,_=>none
 | n+1,e,f,g=>(O7 N r0 c d b (F5 r0 c d b n) e f g)
def Wm (N:Nat) (r0:Nat→LA→O R) (q0:Nat→Int→LA→O R) (b:LA) (d:Bool) (c:Int):O R :=
 (q0 0 0 [])
def Of:=(Ae (fun (N:Nat) (b:LA) (d:Bool) (c:Int) (r0:Nat→LA→O R)=>(Wm N r0 (fun e f g=>(F5 N r0 c d b N e f g)) b d c))).1
theorem OT (b d c r0):(@Of R N b d c r0)=(Wm N r0 (fun e f g=>(F5 N r0 c d b N e f g)) b d c):=by rw[Of,(Ae _).2]
def UP:Hints:={ H:=(hS hL (hS hL (hS (hS hL (hS (hP [1,2,5,6] hL) hL)) hL))),nils:=[(4,1),(5,1)],modes:=[(2,1)] }
def dF:Dg:=[(163,rN N)]
def yc (F:KF R):=Hp Tryz.f190 UP (dF N) [] N F
def Lm (F:KF R):Nat→LA→O R:=(fun r s=>F (.own 300000 0 r) (hq [(bQ 1 s)]))
def yd (c:Int) (d:Bool) (b:LA) (e:Nat) (f:Int) (g:LA):St:=⟨[(1,(iv c)),(2,(op 0)),(5,(.own 300001 0 e)),(6,(iv f))],(hq [(bP d 0 b),(bQ 1 g)])⟩
def ye (F:KF R):=yc N F [1,1,0,1,0] []
theorem EK (F:KF R) (c:Int) (d:Bool) (b:LA):∀ (n e:Nat) (f:Int) (g:LA),Ap (ye N F) n (yd c d b e f g)=(F5 N (Lm F) c d b n e f g)
 | 0,_,_,_=>by kernel_rfl
 | n+1,e,f,g=>Eq.trans (by kernel_rfl) (Bm (O7 N (Lm F) c d b · e f g) (funext fun e=>funext fun f=>funext fun g=>(EK F c d b n e f g)):_)
theorem UQ (b:LA) (d:Bool) (c:Int) (F:KF R):Cd (dF N) UP N 190 [(.pagg b d),(iv c)] [] F=(Of N b d c (Lm F)):=by
 rw[OT]
 exact Eq.trans (by kernel_rfl) (Bm (Wm N (Lm F) · b d c) (funext fun e=>funext fun f=>funext fun g=>(Ai ..).trans (EK N F c d b N e f g)):_)
def OU (a:LA) (h:Ak) (k:KF R):O R :=
 match a,h with
 | [(.pagg b d),(.int .i64 c)],[]=>(Of N b d c (Lm k))
 | _,_=>none
theorem UR:An N 190 @OU:=by
 intro R Q a h k j;unfold OU;split;exact Ax (UQ ..) (UQ ..) ⟨rO N,trivial⟩;exact Az
def yf:=Ay (UR N)
def yg:=Ca (UR N)
end
end Gx

namespace Gx
open Go Go.Proofs
open IntKind (wrap)
set_option maxRecDepth 100000
noncomputable section
variable {R:Type} (N:Nat)
def Zs (N:Nat) (r0:Nat→Nat→LA→LA→O R) (d:Nat) (c:Bool) (b g:LA) (k0:Nat→Int→Int→LA→O R) (e:Nat) (i f:Int) (l:LA):O R :=
 (cond (decide (f<i)) (cond (Ac f d) (Ao .i64 (g.drop (0+((f.toNat)*1))) fun o=>(B9 12 (b.drop 3) fun p q=>(cond (Ac o q) (Ao .i64 ((p.drop ((o.toNat)*12)).drop 1) fun r=>(B9 12 (b.drop 3) fun s t=>(cond (Ac o t) (Ao .i64 ((s.drop ((o.toNat)*12)).drop 2) fun u=>(cond ((Nat.ble (e+1) 140737488355328)&&(Nat.ble ((e+1)*16) 140737488355328)) (k0 (e+1) i (wrap .i64 (f+1)) ((l.take (e*2))++[(.int .i64 r),(.int .i64 u)])) none)) none))) none))) none) (r0 e d l g))
def M5 (r0:Nat→Nat→LA→LA→O R) (d:Nat) (c:Bool) (b g:LA):Nat→Nat→Int→Int→LA→O R
 | 0,_,_,_,_=>none
 | n+1,e,i,f,l=>(Zs N r0 d c b g (M5 r0 d c b g n) e i f l)
def ZH (r0:Nat→Nat→LA→LA→O R) (q0:Nat→LA→Nat→Int→Int→LA→O R) (b:LA) (c:Bool) (m:Int):O R :=
 (cond (Nat.ble 8 (b.length)) (Of N (b.take 8) c m (fun d g=>(q0 d g 0 ((d:Nat):Int) 0 []))) none)
def GS:=(Ae (fun (N:Nat) (b:LA) (c:Bool) (m:Int) (r0:Nat→Nat→LA→LA→O R)=>(ZH N r0 (fun d g e i f l=>(M5 N r0 d c b g N e i f l)) b c m))).1
theorem oq (b c m r0):(@GS R N b c m r0)=(ZH N r0 (fun d g e i f l=>(M5 N r0 d c b g N e i f l)) b c m):=by rw[GS,(Ae _).2]
def vE:Hints:={ H:=(hS hL (hS hL (hS hL (hS (hS hL (hS (hP [2,6,7,13,14,15] hL) hL)) hL)))),nils:=[(4,2),(5,1),(7,2)],modes:=[(2,2),(2,1)] }
def Ac9:Dg:=[(190,yf N)]
def A1e (F:KF R):=Hp Tryz.f162 vE (Ac9 N) [] N F
def Wn (F:KF R):Nat→Nat→LA→LA→O R:=(fun v w x y=>F (.tup [(.own 300000 0 v),(.own 300001 0 w)]) (hq [(bQ 2 x),(bQ 1 y)]))
def A1f (d:Nat) (c:Bool) (b g:LA) (e:Nat) (i f:Int) (l:LA):St:=⟨[(2,(op 0)),(6,(.own 300001 0 d)),(7,(.own 300002 0 e)),(13,(.own 300001 0 d)),(14,(iv i)),(15,(iv f))],(hq [(bP c 0 b),(bQ 1 g),(bQ 2 l)])⟩
def A1g (F:KF R):=A1e N F [1,1,1,0,1,0] []
theorem dG (F:KF R) (d:Nat) (c:Bool) (b g:LA):∀ (n e:Nat) (i f:Int) (l:LA),Ap (A1g N F) n (A1f d c b g e i f l)=(M5 N (Wn F) d c b g n e i f l)
 | 0,_,_,_,_=>by kernel_rfl
 | n+1,e,i,f,l=>Eq.trans (by kernel_rfl) (Bm (Zs N (Wn F) d c b g · e i f l) (funext fun e=>funext fun i=>funext fun f=>funext fun l=>(dG F d c b g n e i f l)):_)
theorem vF (b:LA) (c:Bool) (m:Int) (F:KF R):Cd (Ac9 N) vE N 162 [(.pagg b c),(iv m)] [] F=(GS N b c m (Wn F)):=by
 rw[oq]
 exact Eq.trans (by kernel_rfl) (Bm (ZH N (Wn F) · b c m) (funext fun d=>funext fun g=>funext fun e=>funext fun i=>funext fun f=>funext fun l=>(Ai ..).trans (dG N F d c b g N e i f l)):_)
def ot (a:LA) (h:Ak) (k:KF R):O R :=
 match a,h with
 | [(.pagg b c),(.int .i64 m)],[]=>(GS N b c m (Wn k))
 | _,_=>none
theorem vG:An N 162 @ot:=by
 intro R Q a h k j;unfold ot;split;exact Ax (vF ..) (vF ..) ⟨yg N,trivial⟩;exact Az
def A1h:=Ay (vG N)
def A1i:=Ca (vG N)
def Tp (N:Nat) (k1:Bool→LA→O R) (r0:Nat→LA→O R) (b:LA) (d:Nat) (f e:Bool) (c:Nat) (k2:Bool→Int→Int→LA→O R) (s:Bool) (p g:Int) (l:LA):O R :=
 (cond (decide (g<p)) (cond (Ac g d) (cond (Nat.ble 2 ((b.drop ((g.toNat)*2)).length)) (cond ((!e)||(A8 ((b.drop ((g.toNat)*2)).take 2))) (cond ((Nat.beq (((b.drop ((g.toNat)*2)).take 2).length) 2)&&((Nat.ble 2 2)&&(!false))) (Ao .i64 (setCells [(.int .i64 0),(.int .i64 0)] 0 ((b.drop ((g.toNat)*2)).take 2)) fun ab=>(cond (Ac ab c) (Ao .i64 (l.drop (0+((ab.toNat)*1))) fun t=>(Ao .i64 ((setCells [(.int .i64 0),(.int .i64 0)] 0 ((b.drop ((g.toNat)*2)).take 2)).drop 1) fun ac=>(cond (Ac ac c) (Ao .i64 (l.drop (0+((ac.toNat)*1))) fun u=>(cond (s==false) (Ao .i64 (setCells [(.int .i64 0),(.int .i64 0)] 0 ((b.drop ((g.toNat)*2)).take 2)) fun ad=>(cond (Ac ad c) (Ao .i64 (l.drop (0+((ad.toNat)*1))) fun af=>(cond ((cond false true (af != (By t u)))==false) (Ao .i64 ((setCells [(.int .i64 0),(.int .i64 0)] 0 ((b.drop ((g.toNat)*2)).take 2)).drop 1) fun ae=>(cond (Ac ae c) (Ao .i64 (l.drop (0+((ae.toNat)*1))) fun ag=>(Ao .i64 (setCells [(.int .i64 0),(.int .i64 0)] 0 ((b.drop ((g.toNat)*2)).take 2)) fun v=>(Ao .i64 ((setCells [(.int .i64 0),(.int .i64 0)] 0 ((b.drop ((g.toNat)*2)).take 2)).drop 1) fun y=>(cond (Ac v c) (cond ((Nat.beq 1 1)&&((Nat.ble ((0+((v.toNat)*1))+1) (l.length))&&(!false))) (cond (Ac y c) (cond ((Nat.beq 1 1)&&((Nat.ble ((0+((y.toNat)*1))+1) ((l.set (0+((v.toNat)*1)) (.int .i64 (By t u))).length))&&(!false))) (k2 (cond false true (ag != (By t u))) p (wrap .i64 (g+1)) ((l.set (0+((v.toNat)*1)) (.int .i64 (By t u))).set (0+((y.toNat)*1)) (.int .i64 (By t u)))) none) none) none) none)))) none)) (Ao .i64 (setCells [(.int .i64 0),(.int .i64 0)] 0 ((b.drop ((g.toNat)*2)).take 2)) fun w=>(Ao .i64 ((setCells [(.int .i64 0),(.int .i64 0)] 0 ((b.drop ((g.toNat)*2)).take 2)).drop 1) fun z=>(cond (Ac w c) (cond ((Nat.beq 1 1)&&((Nat.ble ((0+((w.toNat)*1))+1) (l.length))&&(!false))) (cond (Ac z c) (cond ((Nat.beq 1 1)&&((Nat.ble ((0+((z.toNat)*1))+1) ((l.set (0+((w.toNat)*1)) (.int .i64 (By t u))).length))&&(!false))) (k2 true p (wrap .i64 (g+1)) ((l.set (0+((w.toNat)*1)) (.int .i64 (By t u))).set (0+((z.toNat)*1)) (.int .i64 (By t u)))) none) none) none) none))))) none)) (Ao .i64 (setCells [(.int .i64 0),(.int .i64 0)] 0 ((b.drop ((g.toNat)*2)).take 2)) fun x=>(Ao .i64 ((setCells [(.int .i64 0),(.int .i64 0)] 0 ((b.drop ((g.toNat)*2)).take 2)).drop 1) fun aa=>(cond (Ac x c) (cond ((Nat.beq 1 1)&&((Nat.ble ((0+((x.toNat)*1))+1) (l.length))&&(!false))) (cond (Ac aa c) (cond ((Nat.beq 1 1)&&((Nat.ble ((0+((aa.toNat)*1))+1) ((l.set (0+((x.toNat)*1)) (.int .i64 (By t u))).length))&&(!false))) (k2 true p (wrap .i64 (g+1)) ((l.set (0+((x.toNat)*1)) (.int .i64 (By t u))).set (0+((aa.toNat)*1)) (.int .i64 (By t u)))) none) none) none) none))))) none))) none)) none) none) none) none) (k1 s l))
def Io (k1:Bool→LA→O R) (r0:Nat→LA→O R) (b:LA) (d:Nat) (f e:Bool) (c:Nat):Nat→Bool→Int→Int→LA→O R
 | 0,_,_,_,_=>none
 | n+1,s,p,g,l=>(Tp N k1 r0 b d f e c (Io k1 r0 b d f e c n) s p g l)
def Tq (N:Nat) (r0:Nat→LA→O R) (b:LA) (d:Nat) (f e:Bool) (c:Nat) (k1:Bool→LA→O R) (q2:Bool→Int→Int→LA→O R) (q:Bool) (o:LA):O R :=
 (cond q (q2 false ((d:Nat):Int) 0 o) (r0 c o))
def D3 (r0:Nat→LA→O R) (b:LA) (d:Nat) (f e:Bool) (c:Nat):Nat→Bool→LA→O R
 | 0,_,_=>none
 | n+1,q,o=>(Tq N r0 b d f e c (D3 r0 b d f e c n) (fun s p g l=>(Io N (D3 r0 b d f e c n) r0 b d f e c N s p g l)) q o)
def Tr (N:Nat) (r0:Nat→LA→O R) (i:Int) (b:LA) (d:Nat) (f e:Bool) (k0:Nat→Int→LA→O R) (q1:Bool→LA→O R) (c:Nat) (m:Int) (r:LA):O R :=
 (cond (decide (m<i)) (cond (Ac m c) (cond ((Nat.beq 1 1)&&((Nat.ble ((0+((m.toNat)*1))+1) (r.length))&&(!false))) (k0 c (wrap .i64 (m+1)) (r.set (0+((m.toNat)*1)) (.int .i64 m))) none) none) (q1 true r))
def Ip (r0:Nat→LA→O R) (i:Int) (b:LA) (d:Nat) (f e:Bool):Nat→Nat→Int→LA→O R
 | 0,_,_,_=>none
 | n+1,c,m,r=>(Tr N r0 i b d f e (Ip r0 i b d f e n) (fun q o=>(D3 N r0 b d f e c N q o)) c m r)
def FR (N:Nat) (r0:Nat→LA→O R) (q0:Nat→Int→LA→O R) (i:Int) (b:LA) (d:Nat) (f e:Bool):O R :=
 (cond ((decide (0≤i))&&((decide (i≤i))&&((decide (i≤140737488355328))&&(decide ((i*((8:Nat):Int))≤140737488355328))))) (q0 (i.toNat) 0 (List.replicate (i.toNat) (.int .i64 0))) none)
def P9:=(Ae (fun (N:Nat) (i:Int) (b:LA) (d:Nat) (f e:Bool) (r0:Nat→LA→O R)=>(FR N r0 (fun c m r=>(Ip N r0 i b d f e N c m r)) i b d f e))).1
theorem dH (i b d f e r0):(@P9 R N i b d f e r0)=(FR N r0 (fun c m r=>(Ip N r0 i b d f e N c m r)) i b d f e):=by rw[P9,(Ae _).2]
def jC:Hints:={ H:=(hS hL (hS hL (hS (hS hL (hS (hP [0,1,5,6] hL) hL)) (hS (hS hL (hS (hP [1,5,7] (hS hL (hS (hS hL (hS hL (hS (hP [1,5,7,23,24,25] hL) hL))) hL))) hL)) hL)))),nils:=[(4,1)],modes:=[(2,1)] }
def KB (F:KF R):=Hp Tryz.f192 jC [] [] N F
def Et (F:KF R):Nat→LA→O R:=(fun ah ai=>F (.own 300000 0 ah) (hq [(bQ 1 ai)]))
def Apm (b:LA) (d:Nat) (f e:Bool) (c:Nat) (s:Bool) (p g:Int) (l:LA):St:=⟨[(1,(.imm b d 2 f e)),(5,(.own 300000 0 c)),(7,(.bool s)),(23,(.imm b d 2 f e)),(24,(iv p)),(25,(iv g))],(hq [(bQ 1 l)])⟩
def Apn (F:KF R) (Q1:St→O R):=KB N F [1,1,1,0,1,0,0,1,0,1,1,0] [Q1]
def KC (b:LA) (d:Nat) (f e:Bool) (c:Nat) (q:Bool) (o:LA):St:=⟨[(1,(.imm b d 2 f e)),(5,(.own 300000 0 c)),(7,(.bool q))],(hq [(bQ 1 o)])⟩
def jD (F:KF R):=KB N F [1,1,1,0,1,0] []
def Apo (i:Int) (b:LA) (d:Nat) (f e:Bool) (c:Nat) (m:Int) (r:LA):St:=⟨[(0,(iv i)),(1,(.imm b d 2 f e)),(5,(.own 300000 0 c)),(6,(iv m))],(hq [(bQ 1 r)])⟩
def App (F:KF R):=KB N F [1,1,0,1,0] []
theorem OV (Q1:St→O R) (F:KF R) (b:LA) (d:Nat) (f e:Bool) (c:Nat):∀ (n:Nat) (s:Bool) (p g:Int) (l:LA),Ap (Apn N F Q1) n (Apm b d f e c s p g l)=(Io N (fun q o=>Q1 (KC b d f e c q o)) (Et F) b d f e c n s p g l)
 | 0,_,_,_,_=>by kernel_rfl
 | n+1,s,p,g,l=>Eq.trans (by kernel_rfl) (Bm (Tp N (fun q o=>Q1 (KC b d f e c q o)) (Et F) b d f e c · s p g l) (funext fun s=>funext fun p=>funext fun g=>funext fun l=>(OV Q1 F b d f e c n s p g l)):_)
theorem OW (F:KF R) (b:LA) (d:Nat) (f e:Bool) (c:Nat):∀ (n:Nat) (q:Bool) (o:LA),Ap (jD N F) n (KC b d f e c q o)=(D3 N (Et F) b d f e c n q o)
 | 0,_,_=>by kernel_rfl
 | n+1,q,o=>have e0:=(funext fun q=>funext fun o=>(OW F b d f e c n q o))
  Eq.trans (by kernel_rfl) (fQ (Tq N (Et F) b d f e c · · q o) e0 (funext fun s=>funext fun p=>funext fun g=>funext fun l=>(Ai ..).trans ((OV N (Ap (jD N F) n) F b d f e c N s p g l).trans (Bm (Io N · (Et F) b d f e c N s p g l) e0))):_)
theorem OX (F:KF R) (i:Int) (b:LA) (d:Nat) (f e:Bool):∀ (n c:Nat) (m:Int) (r:LA),Ap (App N F) n (Apo i b d f e c m r)=(Ip N (Et F) i b d f e n c m r)
 | 0,_,_,_=>by kernel_rfl
 | n+1,c,m,r=>Eq.trans (by kernel_rfl) (fQ (Tr N (Et F) i b d f e · · c m r) (funext fun c=>funext fun m=>funext fun r=>(OX F i b d f e n c m r)) (funext fun q=>funext fun o=>(Ai ..).trans (OW N F b d f e c N q o)):_)
theorem jE (i:Int) (b:LA) (d:Nat) (f e:Bool) (F:KF R):Cd [] jC N 192 [(iv i),(.imm b d 2 f e)] [] F=(P9 N i b d f e (Et F)):=by
 rw[dH]
 exact Eq.trans (by kernel_rfl) (Bm (FR N (Et F) · i b d f e) (funext fun c=>funext fun m=>funext fun r=>(Ai ..).trans (OX N F i b d f e N c m r)):_)
def dI (a:LA) (h:Ak) (k:KF R):O R :=
 match a,h with
 | [(.int .i64 i),(.imm b d 2 f e)],[]=>(P9 N i b d f e (Et k))
 | _,_=>none
theorem jF:An N 192 @dI:=by
 intro R Q a h k j;unfold dI;split;exact Ax (jE ..) (jE ..) trivial;exact Az
def Apq:=Ay (jF N)
def Apr:=Ca (jF N)
def Zt (N:Nat) (r0:Int→O R) (c:LA) (b:Nat) (d e:Bool) (k0:Int→Int→O R) (g f:Int):O R :=
 (cond (decide (f<((b:Nat):Int))) (cond (Ac f b) (Ao .i64 (c.drop ((f.toNat)*1)) fun i=>(cond (i==f) (k0 (wrap .i64 (g+1)) (wrap .i64 (f+1))) (k0 g (wrap .i64 (f+1))))) none) (r0 g))
def M6 (r0:Int→O R) (c:LA) (b:Nat) (d e:Bool):Nat→Int→Int→O R
 | 0,_,_=>none
 | n+1,g,f=>(Zt N r0 c b d e (M6 r0 c b d e n) g f)
def ZI (N:Nat) (r0:Int→O R) (q0:Int→Int→O R) (c:LA) (b:Nat) (d e:Bool):O R :=
 (q0 0 0)
def Yr:=(Ae (fun (N:Nat) (c:LA) (b:Nat) (d e:Bool) (r0:Int→O R)=>(ZI N r0 (fun g f=>(M6 N r0 c b d e N g f)) c b d e))).1
theorem ou (c b d e r0):(@Yr R N c b d e r0)=(ZI N r0 (fun g f=>(M6 N r0 c b d e N g f)) c b d e):=by rw[Yr,(Ae _).2]
def vH:Hints:={ H:=(hS hL (hS hL (hS (hS hL (hS (hP [0,3,4] hL) hL)) hL))) }
def A1j (F:KF R):=Hp Tryz.f191 vH [] [] N F
def Wo (F:KF R):Int→O R:=(fun l=>F (iv l) [])
def A1k (c:LA) (b:Nat) (d e:Bool) (g f:Int):St:=⟨[(0,(.imm c b 1 d e)),(3,(iv g)),(4,(iv f))],[]⟩
def A1l (F:KF R):=A1j N F [1,1,0,1,0] []
theorem dJ (F:KF R) (c:LA) (b:Nat) (d e:Bool):∀ (n:Nat) (g f:Int),Ap (A1l N F) n (A1k c b d e g f)=(M6 N (Wo F) c b d e n g f)
 | 0,_,_=>by kernel_rfl
 | n+1,g,f=>Eq.trans (by kernel_rfl) (Bm (Zt N (Wo F) c b d e · g f) (funext fun g=>funext fun f=>(dJ F c b d e n g f)):_)
theorem vI (c:LA) (b:Nat) (d e:Bool) (F:KF R):Cd [] vH N 191 [(.imm c b 1 d e)] [] F=(Yr N c b d e (Wo F)):=by
 rw[ou]
 exact Eq.trans (by kernel_rfl) (Bm (ZI N (Wo F) · c b d e) (funext fun g=>funext fun f=>(Ai ..).trans (dJ N F c b d e N g f)):_)
def ov (a:LA) (h:Ak) (k:KF R):O R :=
 match a,h with
 | [(.imm c b 1 d e)],[]=>(Yr N c b d e (Wo k))
 | _,_=>none
theorem vJ:An N 191 @ov:=by
 intro R Q a h k j;unfold ov;split;exact Ax (vI ..) (vI ..) trivial;exact Az
def A1m:=Ay (vJ N)
def A1n:=Ca (vJ N)
def O8 (r0:Bool→O R) (d:Int) (b:LA) (c:Nat) (m e:Bool) (f:LA) (g:Nat) (o i:Bool) (k0:Nat→Int→LA→O R) (p:Nat) (l:Int) (q:LA):O R :=
 (cond (decide (l<((c:Nat):Int))) (OS N f g false i l (fun t=>(cond (!t) (cond (Ac l c) (cond (Nat.ble 2 ((b.drop ((l.toNat)*2)).length)) (cond ((!e)||(A8 ((b.drop ((l.toNat)*2)).take 2))) (cond ((Nat.beq (((b.drop ((l.toNat)*2)).take 2).length) 2)&&(Nat.ble 2 2)) (cond ((Nat.ble (p+1) 140737488355328)&&(Nat.ble ((p+1)*16) 140737488355328)) (k0 (p+1) (wrap .i64 (l+1)) ((q.take (p*2))++((setCells [(.int .i64 0),(.int .i64 0)] 0 ((b.drop ((l.toNat)*2)).take 2)).take 2))) none) none) none) none) none) (k0 p (wrap .i64 (l+1)) q)))) (P9 N d (q.take (p*2)) p false true (fun r u=>(Yr N (u.take (r*1)) r false true (fun v=>(P9 N d b c false e (fun s w=>(Yr N (w.take (s*1)) s false true (fun x=>(r0 (decide (v>x))))))))))))
def F6 (r0:Bool→O R) (d:Int) (b:LA) (c:Nat) (m e:Bool) (f:LA) (g:Nat) (o i:Bool):Nat→Nat→Int→LA→O R
 | 0,_,_,_=>none
 | n+1,p,l,q=>(O8 N r0 d b c m e f g o i (F6 r0 d b c m e f g o i n) p l q)
def Wp (N:Nat) (r0:Bool→O R) (q0:Nat→Int→LA→O R) (d:Int) (b:LA) (c:Nat) (m e:Bool) (f:LA) (g:Nat) (o i:Bool):O R :=
 (q0 0 0 [])
def Og:=(Ae (fun (N:Nat) (d:Int) (b:LA) (c:Nat) (m e:Bool) (f:LA) (g:Nat) (o i:Bool) (r0:Bool→O R)=>(Wp N r0 (fun p l q=>(F6 N r0 d b c m e f g o i N p l q)) d b c m e f g o i))).1
theorem OY (d b c m e f g o i r0):(@Og R N d b c m e f g o i r0)=(Wp N r0 (fun p l q=>(F6 N r0 d b c m e f g o i N p l q)) d b c m e f g o i):=by rw[Og,(Ae _).2]
def US:Hints:={ H:=(hS hL (hS hL (hS (hS hL (hS (hP [0,1,2,7,8] hL) hL)) hL))),nils:=[(7,2)] }
def dK:Dg:=[(163,rN N),(192,Apq N),(191,A1m N)]
def yh (F:KF R):=Hp Tryz.f164 US (dK N) [] N F
def Ln (F:KF R):Bool→O R:=(fun y=>F (.bool y) [])
def yi (d:Int) (b:LA) (c:Nat) (m e:Bool) (f:LA) (g:Nat) (o i:Bool) (p:Nat) (l:Int) (q:LA):St:=⟨[(0,(iv d)),(1,(.imm b c 2 m e)),(2,(.imm f g 1 o i)),(7,(.own 300000 0 p)),(8,(iv l))],(hq [(bQ 2 q)])⟩
def yj (F:KF R):=yh N F [1,1,0,1,0] []
theorem EL (F:KF R) (d:Int) (b:LA) (c:Nat) (m e:Bool) (f:LA) (g:Nat) (o i:Bool):∀ (n p:Nat) (l:Int) (q:LA),Ap (yj N F) n (yi d b c m e f g o i p l q)=(F6 N (Ln F) d b c m e f g o i n p l q)
 | 0,_,_,_=>by kernel_rfl
 | n+1,p,l,q=>Eq.trans (by kernel_rfl) (Bm (O8 N (Ln F) d b c m e f g o i · p l q) (funext fun p=>funext fun l=>funext fun q=>(EL F d b c m e f g o i n p l q)):_)
theorem UT (d:Int) (b:LA) (c:Nat) (m e:Bool) (f:LA) (g:Nat) (o i:Bool) (F:KF R):Cd (dK N) US N 164 [(iv d),(.imm b c 2 m e),(.imm f g 1 o i)] [] F=(Og N d b c m e f g o i (Ln F)):=by
 rw[OY]
 exact Eq.trans (by kernel_rfl) (Bm (Wp N (Ln F) · d b c m e f g o i) (funext fun p=>funext fun l=>funext fun q=>(Ai ..).trans (EL N F d b c m e f g o i N p l q)):_)
def OZ (a:LA) (h:Ak) (k:KF R):O R :=
 match a,h with
 | [(.int .i64 d),(.imm b c 2 m e),(.imm f g 1 o i)],[]=>(Og N d b c m e f g o i (Ln k))
 | _,_=>none
theorem UU:An N 164 @OZ:=by
 intro R Q a h k j;unfold OZ;split;exact Ax (UT ..) (UT ..) ⟨rO N,Apr N,A1n N,trivial⟩;exact Az
def yk:=Ay (UU N)
def ym:=Ca (UU N)
end
end Gx

namespace Gx
open Go Go.Proofs
open IntKind (wrap)
set_option maxRecDepth 100000
noncomputable section
variable {R:Type} (N:Nat)
def Wq (k0:Int→LA→O R) (r0:LA→Int→O R) (c:Bool) (b:LA) (w:Int) (al:LA):O R :=
 (cond (Nat.ble 8 (b.length)) (Cw N (b.take 8) c 1 w al (fun am=>(cond (Nat.ble 8 (b.length)) (B9 3 (b.drop 2) fun an ao=>(cond (Ac w ao) (B9 1 ((an.drop ((w.toNat)*3)).drop 1) fun ap aq=>(C1 N (b.take 8) c ap aq false c 0 1048576 1 w 1 am (fun ar=>(B9 3 (b.drop 2) fun au av=>(cond (Ac w av) (Ao .i64 ((au.drop ((w.toNat)*3)).drop 2) fun aw=>(Aw N 0 1048576 [(.int .i64 aw)] 1 false true (fun ax=>(Ab N ax 1 w 2 3 ar (fun ay=>(k0 (wrap .i64 (w+1)) ay)))))) none))))) none)) none))) none)
def Wr (k7:Int→LA→O R) (k9:Int→Int→LA→O R) (r0:LA→Int→O R) (e f:Nat) (c:Bool) (b g i:LA) (k10:Int→Int→Nat→Int→LA→LA→O R) (v p:Int) (m:Nat) (q:Int) (x y:LA):O R :=
 (cond (decide (q<((f:Nat):Int))) (B9 4 (b.drop 7) fun az ba=>(cond (Ac p ba) (B9 1 ((az.drop ((p.toNat)*4)).drop 1) fun bb bc=>(cond (Ac q f) (Ao .i64 (i.drop (0+((q.toNat)*1))) fun bd=>(OS N bb bc false c bd (fun be=>(cond be (cond ((Nat.ble (m+1) 140737488355328)&&(Nat.ble ((m+1)*8) 140737488355328)) (k10 v p (m+1) (wrap .i64 (q+1)) x ((y.take (m*1))++[(.int .i64 q)])) none) (k10 v p m (wrap .i64 (q+1)) x y))))) none)) none)) (B9 3 (b.drop 2) fun ci bf=>(Og N ((bf:Nat):Int) (g.take (e*2)) e false true (y.take (m*1)) m false true (fun bg=>(Ab N (!bg) 6 p v 13 x (fun bh=>(k9 v (wrap .i64 (p+1)) bh)))))))
def Kh (k7:Int→LA→O R) (k9:Int→Int→LA→O R) (r0:LA→Int→O R) (e f:Nat) (c:Bool) (b g i:LA):Nat→Int→Int→Nat→Int→LA→LA→O R
 | 0,_,_,_,_,_,_=>none
 | n+1,v,p,m,q,x,y=>(Wr N k7 k9 r0 e f c b g i (Kh k7 k9 r0 e f c b g i n) v p m q x y)
def Zu (N:Nat) (k7:Int→LA→O R) (r0:LA→Int→O R) (e f:Nat) (c:Bool) (b g i:LA) (k9:Int→Int→LA→O R) (q10:Int→Int→Nat→Int→LA→LA→O R) (r s:Int) (t:LA):O R :=
 (B9 4 (b.drop 7) fun cj bi=>(cond (decide (s<((bi:Nat):Int))) (q10 r s 0 0 t []) (k7 (wrap .i64 (r+1)) t)))
def Jt (k7:Int→LA→O R) (r0:LA→Int→O R) (e f:Nat) (c:Bool) (b g i:LA):Nat→Int→Int→LA→O R
 | 0,_,_,_=>none
 | n+1,r,s,t=>(Zu N k7 r0 e f c b g i (Jt k7 r0 e f c b g i n) (fun v p m q x y=>(Kh N k7 (Jt k7 r0 e f c b g i n) r0 e f c b g i N v p m q x y)) r s t)
def QV (k7:Int→LA→O R) (r0:LA→Int→O R) (c:Bool) (b:LA) (q9:Nat→Nat→LA→LA→Int→Int→LA→O R) (aj:Int) (ak:LA):O R :=
 (cond (Nat.ble 8 (b.length)) (GS N (b.take 8) c aj (fun e f g i=>(q9 e f g i aj 0 ak))) none)
def FS (k7:Int→LA→O R) (r0:LA→Int→O R) (c:Bool) (b:LA) (aj:Int) (ak:LA):O R:=(QV N k7 r0 c b (fun e f g i r s t=>(Jt N k7 r0 e f c b g i N r s t)) aj ak)
def S9 (N:Nat) (r0:LA→Int→O R) (c:Bool) (b:LA) (k7:Int→LA→O R) (q8:Int→LA→O R) (l:Int) (d:LA):O R :=
 (Ao .i64 b fun bj=>(cond ((decide (l<bj))==true) (Ao .i64 (d.drop 3) fun bk=>(cond (cond true (bk==0) false) (q8 l d) (cond (Nat.ble 3 (d.length)) (Ao .i64 (d.drop 3) fun bl=>(cond ((Nat.beq ((d.take 3).length) 3)&&((Nat.ble 3 3)&&(!false))) (cond (Nat.ble 3 ((setCells [(.int .i64 0),(.int .i64 0),(.int .i64 0)] 0 (d.take 3)).length)) (r0 ((setCells [(.int .i64 0),(.int .i64 0),(.int .i64 0)] 0 (d.take 3)).take 3) bl) none) none)) none))) (cond (Nat.ble 3 (d.length)) (Ao .i64 (d.drop 3) fun bm=>(cond ((Nat.beq ((d.take 3).length) 3)&&((Nat.ble 3 3)&&(!false))) (cond (Nat.ble 3 ((setCells [(.int .i64 0),(.int .i64 0),(.int .i64 0)] 0 (d.take 3)).length)) (r0 ((setCells [(.int .i64 0),(.int .i64 0),(.int .i64 0)] 0 (d.take 3)).take 3) bm) none) none)) none)))
def Ev (r0:LA→Int→O R) (c:Bool) (b:LA):Nat→Int→LA→O R
 | 0,_,_=>none
 | n+1,l,d=>(S9 N r0 c b (Ev r0 c b n) (fun aj ak=>(FS N (Ev r0 c b n) r0 c b aj ak)) l d)
def Zv (r0:LA→Int→O R) (c:Bool) (b:LA) (k6:Int→LA→O R) (q7:Int→LA→O R) (ae:Int) (z:LA):O R :=
 (B9 4 (b.drop 7) fun ck bn=>(cond ((decide (ae<((bn:Nat):Int)))==true) (Ao .i64 (z.drop 3) fun bo=>(cond (cond true (bo==0) false) (cond (Nat.ble 8 (b.length)) (F4 N (b.take 8) c ae z (fun bp=>(k6 (wrap .i64 (ae+1)) bp))) none) (q7 0 z))) (q7 0 z)))
def M7 (r0:LA→Int→O R) (c:Bool) (b:LA):Nat→Int→LA→O R
 | 0,_,_=>none
 | n+1,ae,z=>(Zv N r0 c b (M7 r0 c b n) (fun l d=>(Ev N r0 c b N l d)) ae z)
def Zw (r0:LA→Int→O R) (c:Bool) (b:LA) (k5:Int→LA→O R) (q6:Int→LA→O R) (af:Int) (aa:LA):O R :=
 (B9 5 (b.drop 6) fun cl bq=>(cond ((decide (af<((bq:Nat):Int)))==true) (Ao .i64 (aa.drop 3) fun br=>(cond (cond true (br==0) false) (cond (Nat.ble 8 (b.length)) (N1 N (b.take 8) c af aa (fun bs=>(k5 (wrap .i64 (af+1)) bs))) none) (q6 0 aa))) (q6 0 aa)))
def M8 (r0:LA→Int→O R) (c:Bool) (b:LA):Nat→Int→LA→O R
 | 0,_,_=>none
 | n+1,af,aa=>(Zw N r0 c b (M8 r0 c b n) (fun ae z=>(M7 N r0 c b N ae z)) af aa)
def Zx (r0:LA→Int→O R) (c:Bool) (b:LA) (k4:Int→LA→O R) (q5:Int→LA→O R) (ag:Int) (ab:LA):O R :=
 (B9 9 (b.drop 5) fun cm bt=>(cond ((decide (ag<((bt:Nat):Int)))==true) (Ao .i64 (ab.drop 3) fun bu=>(cond (cond true (bu==0) false) (cond (Nat.ble 8 (b.length)) (Js N (b.take 8) c ag ab (fun bv=>(k4 (wrap .i64 (ag+1)) bv))) none) (q5 0 ab))) (q5 0 ab)))
def M9 (r0:LA→Int→O R) (c:Bool) (b:LA):Nat→Int→LA→O R
 | 0,_,_=>none
 | n+1,ag,ab=>(Zx N r0 c b (M9 r0 c b n) (fun af aa=>(M8 N r0 c b N af aa)) ag ab)
def Zy (r0:LA→Int→O R) (c:Bool) (b:LA) (k3:Int→LA→O R) (q4:Int→LA→O R) (ah:Int) (ac:LA):O R :=
 (B9 22 (b.drop 4) fun cn bw=>(cond ((decide (ah<((bw:Nat):Int)))==true) (Ao .i64 (ac.drop 3) fun bx=>(cond (cond true (bx==0) false) (cond (Nat.ble 8 (b.length)) (Hv N (b.take 8) c ah ac (fun bz=>(k3 (wrap .i64 (ah+1)) bz))) none) (q4 0 ac))) (q4 0 ac)))
def Na (r0:LA→Int→O R) (c:Bool) (b:LA):Nat→Int→LA→O R
 | 0,_,_=>none
 | n+1,ah,ac=>(Zy N r0 c b (Na r0 c b n) (fun ag ab=>(M9 N r0 c b N ag ab)) ah ac)
def Zz (r0:LA→Int→O R) (c:Bool) (b:LA) (k2:Int→LA→O R) (q3:Int→LA→O R) (ai:Int) (ad:LA):O R :=
 (B9 12 (b.drop 3) fun co ca=>(cond ((decide (ai<((ca:Nat):Int)))==true) (Ao .i64 (ad.drop 3) fun cb=>(cond (cond true (cb==0) false) (cond (Nat.ble 8 (b.length)) (Hu N (b.take 8) c ai ad (fun cc=>(k2 (wrap .i64 (ai+1)) cc))) none) (q3 0 ad))) (q3 0 ad)))
def Nb (r0:LA→Int→O R) (c:Bool) (b:LA):Nat→Int→LA→O R
 | 0,_,_=>none
 | n+1,ai,ad=>(Zz N r0 c b (Nb r0 c b n) (fun ah ac=>(Na N r0 c b N ah ac)) ai ad)
def Z0 (N:Nat) (r0:LA→Int→O R) (c:Bool) (b:LA) (k0:Int→LA→O R) (q1:Int→LA→O R) (q2:Int→LA→O R) (u:Int) (o:LA):O R :=
 (B9 3 (b.drop 2) fun cp cd=>(cond ((decide (u<((cd:Nat):Int)))==true) (Ao .i64 (o.drop 3) fun ce=>(cond (cond true (ce==0) false) (q1 u o) (q2 0 o))) (q2 0 o)))
def Ju (r0:LA→Int→O R) (c:Bool) (b:LA):Nat→Int→LA→O R
 | 0,_,_=>none
 | n+1,u,o=>(Z0 N r0 c b (Ju r0 c b n) (fun w al=>(Wq N (Ju r0 c b n) r0 c b w al)) (fun ai ad=>(Nb N r0 c b N ai ad)) u o)
def ZJ (r0:LA→Int→O R) (q0:Int→LA→O R) (b:LA) (c:Bool):O R :=
 (cond (Nat.ble 8 (b.length)) (Gu N (b.take 8) c [(.int .i64 0),(.int .i64 0),(.int .i64 0),(.int .i64 0)] (fun cf=>(q0 0 cf))) none)
def GT:=(Ae (fun (N:Nat) (b:LA) (c:Bool) (r0:LA→Int→O R)=>(ZJ N r0 (fun u o=>(Ju N r0 c b N u o)) b c))).1
theorem ow (b c r0):(@GT R N b c r0)=(ZJ N r0 (fun u o=>(Ju N r0 c b N u o)) b c):=by rw[GT,(Ae _).2]
def vK:Hints:={ H:=(hS hL (hS hL (hS hL (hS (hS hL (hS (hP [1,2,4,5] (hJ [1,2,4,5] hL hL)) hL)) (hS (hS hL (hS (hP [1,2,4,6] hL) hL)) (hS (hS hL (hS (hP [1,2,4,7] hL) hL)) (hS (hS hL (hS (hP [1,2,4,8] hL) hL)) (hS (hS hL (hS (hP [1,2,4,9] hL) hL)) (hS (hS hL (hS (hP [1,2,4,10] hL) hL)) (hS (hS hL (hS (hP [1,2,4,11] (hJ [1,2,4,11] hL (hS (hS (hS hL (hS hL (hS (hP [1,2,4,11,12,13,14] (hS hL (hS (hS (hS hL (hS (hS hL (hS (hP [1,2,4,11,12,13,14,15,16] hL) hL)) hL)) hL) hL))) hL))) hL) hL))) hL)) hL)))))))))),nils:=[(15,1)],modes:=[(3,0),(0,0)] }
def Ada:Dg:=[(152,ip N),(153,Fj N),(154,Ol N),(156,D0 N),(155,Bw N),(157,ln N),(158,mC N),(159,jA N),(160,rL N),(161,e_ N),(162,A1h N),(163,rN N),(164,yk N)]
def Ff (F:KF R):=Hp Tryz.f112 vK (Ada N) [] N F
def Ba (F:KF R):LA→Int→O R:=(fun cg ch=>F (.tup [(.pagg cg false),(iv ch)]) [])
def A1o (c:Bool) (b:LA) (w:Int) (al:LA):St:=⟨[(1,(op 0)),(2,(op 1)),(4,(op 2)),(5,(iv w))],(hq [(bP c 0 b),(bQ 0 [(iv 0),(iv 0),(iv 0)]),(bQ 0 al)])⟩
def A1p (F:KF R) (Q0:St→O R):=Ff N F [1,1,1,0,1,0,0,1] [Q0]
def Atp (e f:Nat) (c:Bool) (b g i:LA) (v p:Int) (m:Nat) (q:Int) (x y:LA):St:=⟨[(1,(op 0)),(2,(op 1)),(4,(op 2)),(11,(iv v)),(12,(.own 300003 0 e)),(13,(.own 300004 0 f)),(14,(iv p)),(15,(.own 300005 0 m)),(16,(iv q))],(hq [(bP c 0 b),(bQ 0 [(iv 0),(iv 0),(iv 0)]),(bQ 0 x),(bQ 2 g),(bQ 1 i),(bQ 1 y)])⟩
def Atq (F:KF R) (Q7 Q9:St→O R):=Ff N F [1,1,1,1,1,1,1,1,1,0,1,0,0,1,0,0,1,1,0,0,1,0,0,1,0,1,0] [Q7,Q9]
def ZK (e f:Nat) (c:Bool) (b g i:LA) (r s:Int) (t:LA):St:=⟨[(1,(op 0)),(2,(op 1)),(4,(op 2)),(11,(iv r)),(12,(.own 300003 0 e)),(13,(.own 300004 0 f)),(14,(iv s))],(hq [(bP c 0 b),(bQ 0 [(iv 0),(iv 0),(iv 0)]),(bQ 0 t),(bQ 2 g),(bQ 1 i)])⟩
def vL (F:KF R) (Q7:St→O R):=Ff N F [1,1,1,1,1,1,1,1,1,0,1,0,0,1,0,0,1,1,0] [Q7]
def A1q (c:Bool) (b:LA) (aj:Int) (ak:LA):St:=⟨[(1,(op 0)),(2,(op 1)),(4,(op 2)),(11,(iv aj))],(hq [(bP c 0 b),(bQ 0 [(iv 0),(iv 0),(iv 0)]),(bQ 0 ak)])⟩
def A1r (F:KF R) (Q7:St→O R):=Ff N F [1,1,1,1,1,1,1,1,1,0,1,0,0,1] [Q7]
def Jv (c:Bool) (b:LA) (l:Int) (d:LA):St:=⟨[(1,(op 0)),(2,(op 1)),(4,(op 2)),(11,(iv l))],(hq [(bP c 0 b),(bQ 0 [(iv 0),(iv 0),(iv 0)]),(bQ 0 d)])⟩
def vM (F:KF R):=Ff N F [1,1,1,1,1,1,1,1,1,0,1,0] []
def A1s (c:Bool) (b:LA) (ae:Int) (z:LA):St:=⟨[(1,(op 0)),(2,(op 1)),(4,(op 2)),(10,(iv ae))],(hq [(bP c 0 b),(bQ 0 [(iv 0),(iv 0),(iv 0)]),(bQ 0 z)])⟩
def A1t (F:KF R):=Ff N F [1,1,1,1,1,1,1,1,0,1,0] []
def A1u (c:Bool) (b:LA) (af:Int) (aa:LA):St:=⟨[(1,(op 0)),(2,(op 1)),(4,(op 2)),(9,(iv af))],(hq [(bP c 0 b),(bQ 0 [(iv 0),(iv 0),(iv 0)]),(bQ 0 aa)])⟩
def A1v (F:KF R):=Ff N F [1,1,1,1,1,1,1,0,1,0] []
def A1w (c:Bool) (b:LA) (ag:Int) (ab:LA):St:=⟨[(1,(op 0)),(2,(op 1)),(4,(op 2)),(8,(iv ag))],(hq [(bP c 0 b),(bQ 0 [(iv 0),(iv 0),(iv 0)]),(bQ 0 ab)])⟩
def A1x (F:KF R):=Ff N F [1,1,1,1,1,1,0,1,0] []
def A1y (c:Bool) (b:LA) (ah:Int) (ac:LA):St:=⟨[(1,(op 0)),(2,(op 1)),(4,(op 2)),(7,(iv ah))],(hq [(bP c 0 b),(bQ 0 [(iv 0),(iv 0),(iv 0)]),(bQ 0 ac)])⟩
def A1z (F:KF R):=Ff N F [1,1,1,1,1,0,1,0] []
def A10 (c:Bool) (b:LA) (ai:Int) (ad:LA):St:=⟨[(1,(op 0)),(2,(op 1)),(4,(op 2)),(6,(iv ai))],(hq [(bP c 0 b),(bQ 0 [(iv 0),(iv 0),(iv 0)]),(bQ 0 ad)])⟩
def A11 (F:KF R):=Ff N F [1,1,1,1,0,1,0] []
def vN (c:Bool) (b:LA) (u:Int) (o:LA):St:=⟨[(1,(op 0)),(2,(op 1)),(4,(op 2)),(5,(iv u))],(hq [(bP c 0 b),(bQ 0 [(iv 0),(iv 0),(iv 0)]),(bQ 0 o)])⟩
def vO (F:KF R):=Ff N F [1,1,1,0,1,0] []
theorem Age (Q0:St→O R) (F:KF R) (c:Bool) (b:LA):∀ (w:Int) (al:LA),A9 (A1p N F Q0) (A1o c b w al)=(Wq N (fun u o=>Q0 (vN c b u o)) (Ba F) c b w al):=by
 intro w al
 kernel_rfl
theorem UV (Q7 Q9:St→O R) (F:KF R) (e f:Nat) (c:Bool) (b g i:LA):∀ (n:Nat) (v p:Int) (m:Nat) (q:Int) (x y:LA),Ap (Atq N F Q7 Q9) n (Atp e f c b g i v p m q x y)=(Kh N (fun l d=>Q7 (Jv c b l d)) (fun r s t=>Q9 (ZK e f c b g i r s t)) (Ba F) e f c b g i n v p m q x y)
 | 0,_,_,_,_,_,_=>by kernel_rfl
 | n+1,v,p,m,q,x,y=>Eq.trans (by kernel_rfl) (Bm (Wr N (fun l d=>Q7 (Jv c b l d)) (fun r s t=>Q9 (ZK e f c b g i r s t)) (Ba F) e f c b g i · v p m q x y) (funext fun v=>funext fun p=>funext fun m=>funext fun q=>funext fun x=>funext fun y=>(UV Q7 Q9 F e f c b g i n v p m q x y)):_)
theorem dL (Q7:St→O R) (F:KF R) (e f:Nat) (c:Bool) (b g i:LA):∀ (n:Nat) (r s:Int) (t:LA),Ap (vL N F Q7) n (ZK e f c b g i r s t)=(Jt N (fun l d=>Q7 (Jv c b l d)) (Ba F) e f c b g i n r s t)
 | 0,_,_,_=>by kernel_rfl
 | n+1,r,s,t=>have e0:=(funext fun r=>funext fun s=>funext fun t=>(dL Q7 F e f c b g i n r s t))
  Eq.trans (by kernel_rfl) (fQ (Zu N (fun l d=>Q7 (Jv c b l d)) (Ba F) e f c b g i · · r s t) e0 (funext fun v=>funext fun p=>funext fun m=>funext fun q=>funext fun x=>funext fun y=>(Ai ..).trans ((UV N Q7 (Ap (vL N F Q7) n) F e f c b g i N v p m q x y).trans (Bm (Kh N (fun l d=>Q7 (Jv c b l d)) · (Ba F) e f c b g i N v p m q x y) e0))):_)
theorem Agf (Q7:St→O R) (F:KF R) (c:Bool) (b:LA):∀ (aj:Int) (ak:LA),A9 (A1r N F Q7) (A1q c b aj ak)=(FS N (fun l d=>Q7 (Jv c b l d)) (Ba F) c b aj ak):=by
 intro aj ak
 exact Eq.trans (by kernel_rfl) (Bm (QV N (fun l d=>Q7 (Jv c b l d)) (Ba F) c b · aj ak) (funext fun e=>funext fun f=>funext fun g=>funext fun i=>funext fun r=>funext fun s=>funext fun t=>(Ai ..).trans (dL N Q7 F e f c b g i N r s t)):_)
theorem dM (F:KF R) (c:Bool) (b:LA):∀ (n:Nat) (l:Int) (d:LA),Ap (vM N F) n (Jv c b l d)=(Ev N (Ba F) c b n l d)
 | 0,_,_=>by kernel_rfl
 | n+1,l,d=>have e0:=(funext fun l=>funext fun d=>(dM F c b n l d))
  Eq.trans (by kernel_rfl) (fQ (S9 N (Ba F) c b · · l d) e0 (funext fun aj=>funext fun ak=>(Aq ..).trans ((Agf N (Ap (vM N F) n) F c b aj ak).trans (Bm (FS N · (Ba F) c b aj ak) e0))):_)
theorem dN (F:KF R) (c:Bool) (b:LA):∀ (n:Nat) (ae:Int) (z:LA),Ap (A1t N F) n (A1s c b ae z)=(M7 N (Ba F) c b n ae z)
 | 0,_,_=>by kernel_rfl
 | n+1,ae,z=>Eq.trans (by kernel_rfl) (fQ (Zv N (Ba F) c b · · ae z) (funext fun ae=>funext fun z=>(dN F c b n ae z)) (funext fun l=>funext fun d=>(Ai ..).trans (dM N F c b N l d)):_)
theorem dO (F:KF R) (c:Bool) (b:LA):∀ (n:Nat) (af:Int) (aa:LA),Ap (A1v N F) n (A1u c b af aa)=(M8 N (Ba F) c b n af aa)
 | 0,_,_=>by kernel_rfl
 | n+1,af,aa=>Eq.trans (by kernel_rfl) (fQ (Zw N (Ba F) c b · · af aa) (funext fun af=>funext fun aa=>(dO F c b n af aa)) (funext fun ae=>funext fun z=>(Ai ..).trans (dN N F c b N ae z)):_)
theorem dP (F:KF R) (c:Bool) (b:LA):∀ (n:Nat) (ag:Int) (ab:LA),Ap (A1x N F) n (A1w c b ag ab)=(M9 N (Ba F) c b n ag ab)
 | 0,_,_=>by kernel_rfl
 | n+1,ag,ab=>Eq.trans (by kernel_rfl) (fQ (Zx N (Ba F) c b · · ag ab) (funext fun ag=>funext fun ab=>(dP F c b n ag ab)) (funext fun af=>funext fun aa=>(Ai ..).trans (dO N F c b N af aa)):_)
theorem dQ (F:KF R) (c:Bool) (b:LA):∀ (n:Nat) (ah:Int) (ac:LA),Ap (A1z N F) n (A1y c b ah ac)=(Na N (Ba F) c b n ah ac)
 | 0,_,_=>by kernel_rfl
 | n+1,ah,ac=>Eq.trans (by kernel_rfl) (fQ (Zy N (Ba F) c b · · ah ac) (funext fun ah=>funext fun ac=>(dQ F c b n ah ac)) (funext fun ag=>funext fun ab=>(Ai ..).trans (dP N F c b N ag ab)):_)
theorem dR (F:KF R) (c:Bool) (b:LA):∀ (n:Nat) (ai:Int) (ad:LA),Ap (A11 N F) n (A10 c b ai ad)=(Nb N (Ba F) c b n ai ad)
 | 0,_,_=>by kernel_rfl
 | n+1,ai,ad=>Eq.trans (by kernel_rfl) (fQ (Zz N (Ba F) c b · · ai ad) (funext fun ai=>funext fun ad=>(dR F c b n ai ad)) (funext fun ah=>funext fun ac=>(Ai ..).trans (dQ N F c b N ah ac)):_)
theorem dS (F:KF R) (c:Bool) (b:LA):∀ (n:Nat) (u:Int) (o:LA),Ap (vO N F) n (vN c b u o)=(Ju N (Ba F) c b n u o)
 | 0,_,_=>by kernel_rfl
 | n+1,u,o=>have e0:=(funext fun u=>funext fun o=>(dS F c b n u o))
  Eq.trans (by kernel_rfl) (Bmu (Z0 N (Ba F) c b · · · u o) e0 (funext fun w=>funext fun al=>(Aq ..).trans ((Age N (Ap (vO N F) n) F c b w al).trans (Bm (Wq N · (Ba F) c b w al) e0))) (funext fun ai=>funext fun ad=>(Ai ..).trans (dR N F c b N ai ad)):_)
theorem vP (b:LA) (c:Bool) (F:KF R):Cd (Ada N) vK N 112 [(.pagg b c)] [] F=(GT N b c (Ba F)):=by
 rw[ow]
 exact Eq.trans (by kernel_rfl) (Bm (ZJ N (Ba F) · b c) (funext fun u=>funext fun o=>(Ai ..).trans (dS N F c b N u o)):_)
def oz (a:LA) (h:Ak) (k:KF R):O R :=
 match a,h with
 | [(.pagg b c)],[]=>(GT N b c (Ba k))
 | _,_=>none
theorem vQ:An N 112 @oz:=by
 intro R Q a h k j;unfold oz;split;exact Ax (vP ..) (vP ..) ⟨iq N,Fk N,Om N,D1 N,Bx N,lp N,mD N,jB N,rM N,ee N,A1i N,rO N,ym N,trivial⟩;exact Az
def A12:=Ay (vQ N)
def A13:=Ca (vQ N)
end
end Gx

namespace Gx
open Go Go.Proofs
open IntKind (wrap)
set_option maxRecDepth 100000
noncomputable section
variable {R:Type} (N:Nat)
def ZL (k2:Int→Int→Nat→LA→O R) (r0:LA→O R) (m:Int) (b:LA) (c:Nat) (d:Bool) (f:Int) (g e:Nat) (l i:LA) (au av:Int) (an:Nat) (aw:LA):O R :=
 (Ag N m b c false d av (fun bc bq=>(Ag N (wrap .i64 (m - 1)) b c false d bq (fun br bs=>(cond (m==0) none (Rd N ((an:Nat):Int) bc (Int.tmod (wrap .i64 ((wrap .i64 (bc+1))+br)) m) f b c false d bs (fun bd bt=>(cond ((Nat.beq (bd.length) 12)&&(Nat.ble 12 12)) (cond ((Nat.ble (an+1) 140737488355328)&&(Nat.ble ((an+1)*120) 140737488355328)) (k2 (wrap .i64 (au - 1)) bt (an+1) ((aw.take (an*12))++((setCells [(.str ([]:List UInt8)),(.int .i64 0),(.int .i64 0),(.int .i64 0),(.int .i64 0),(.int .i64 0),(.int .i64 0),(.int .i64 0),(.int .i64 0),(.int .i64 0),(.int .i64 0),.nsl] 0 bd).take 12))) none) none))))))))
def ZM (k7:Int→Int→Nat→LA→O R) (r0:LA→O R) (b:LA) (c:Nat) (d:Bool) (f:Int) (g e p o s u:Nat) (l i q r t v:LA) (ar ax:Int) (w:Nat) (ao:LA):O R :=
 (Lk N ((w:Nat):Int) ((p:Nat):Int) ((o:Nat):Int) b c false d ax (fun az be=>(cond ((Nat.beq 0 0)&&((Nat.beq (az.length) 4)&&(Nat.beq 4 4))) (cond ((Nat.ble (0+w) 140737488355328)&&(Nat.ble ((0+w)*72) 140737488355328)) (cond (Nat.ble 4 (az.length)) (cond ((Nat.beq ((az.take 4).length) 4)&&(Nat.ble 4 4)) (cond ((Nat.ble ((0+w)+1) 140737488355328)&&(Nat.ble (((0+w)+1)*72) 140737488355328)) (GT N [(.int .i64 f),(.imm (l.take (g*1)) g 1 false true),(.imm (i.take (e*3)) e 3 false true),(.imm (q.take (p*12)) p 12 false true),(.imm (r.take (o*22)) o 22 false true),(.imm (t.take (s*9)) s 9 false true),(.imm (v.take (u*5)) u 5 false true),(.imm (List.take (((0+w)+1)*4) (((ao.take (w*4)).take ((0+w)*4))++((setCells [(.str ([]:List UInt8)),.nsl,(.bool false),.nsl] 0 (az.take 4)).take 4))) ((0+w)+1) 4 false true)] true (fun bu bv=>(cond ((Nat.beq (bu.length) 3)&&((Nat.ble 3 3)&&(!false))) (cond (bv==0) (k7 (wrap .i64 (ar - 1)) be ((0+w)+1) (((ao.take (w*4)).take ((0+w)*4))++((setCells [(.str ([]:List UInt8)),.nsl,(.bool false),.nsl] 0 (az.take 4)).take 4))) (k7 (wrap .i64 (ar - 1)) be w ao)) none))) none) none) none) none) none)))
def BL (N:Nat) (r0:LA→O R) (b:LA) (c:Nat) (d:Bool) (f:Int) (g e p o s u:Nat) (l i q r t v:LA) (k7:Int→Int→Nat→LA→O R) (q8:Int→Int→Nat→LA→O R) (ae ai:Int) (x:Nat) (z:LA):O R :=
 (cond ((decide (ae>0))==true) (cond (cond true (decide (((p:Nat):Int)>0)) false) (q8 ae ai x z) (r0 [(.int .i64 f),(.imm (l.take (g*1)) g 1 false false),(.imm (i.take (e*3)) e 3 false false),(.imm (q.take (p*12)) p 12 false false),(.imm (r.take (o*22)) o 22 false false),(.imm (t.take (s*9)) s 9 false false),(.imm (v.take (u*5)) u 5 false false),(.imm (z.take (x*4)) x 4 false false)])) (r0 [(.int .i64 f),(.imm (l.take (g*1)) g 1 false false),(.imm (i.take (e*3)) e 3 false false),(.imm (q.take (p*12)) p 12 false false),(.imm (r.take (o*22)) o 22 false false),(.imm (t.take (s*9)) s 9 false false),(.imm (v.take (u*5)) u 5 false false),(.imm (z.take (x*4)) x 4 false false)]))
def Iq (r0:LA→O R) (b:LA) (c:Nat) (d:Bool) (f:Int) (g e p o s u:Nat) (l i q r t v:LA):Nat→Int→Int→Nat→LA→O R
 | 0,_,_,_,_=>none
 | n+1,ae,ai,x,z=>(BL N r0 b c d f g e p o s u l i q r t v (Iq r0 b c d f g e p o s u l i q r t v n) (fun ar ax w ao=>(ZM N (Iq r0 b c d f g e p o s u l i q r t v n) r0 b c d f g e p o s u l i q r t v ar ax w ao)) ae ai x z)
def jG (r0:LA→O R) (b:LA) (c:Nat) (d:Bool) (f:Int) (g e p o s:Nat) (l i q r t:LA) (q7:Int→Int→Nat→LA→O R) (ap:Int) (u:Nat) (v:LA):O R :=
 (Ag N 4 b c false d ap (fun bw bx=>(q7 bw bx 0 [])))
def ZN (r0:LA→O R) (b:LA) (c:Nat) (d:Bool) (f:Int) (g e p o s:Nat) (l i q r t:LA) (ap:Int) (u:Nat) (v:LA):O R:=(jG N r0 b c d f g e p o s l i q r t (fun ae ai x z=>(Iq N r0 b c d f g e p o s u l i q r t v N ae ai x z)) ap u v)
def O_ (r0:LA→O R) (m:Int) (b:LA) (c:Nat) (d:Bool) (f:Int) (g e p o:Nat) (l i q r:LA) (q6:Int→Nat→LA→O R) (aq:Int) (s:Nat) (t:LA):O R :=
 (Ag N 3 b c false d aq (fun bz bf=>(cond (bz==2) (Ag N m b c false d bf (fun ca cb=>(E5 N f 12 b c false d cb (fun bg cc cd=>(E5 N f 12 b c false d cc (fun bh ce cf=>(E5 N f 40 b c false d ce (fun bi cg ch=>(q6 cg 1 [(.str ([116,48]:List UInt8)),(.int .i64 ca),(.imm (cd.take (bg*1)) bg 1 false false),(.imm (cf.take (bh*1)) bh 1 false false),(.imm (ch.take (bi*1)) bi 1 false false)]))))))))) (q6 bf 0 []))))
def KD (r0:LA→O R) (m:Int) (b:LA) (c:Nat) (d:Bool) (f:Int) (g e p o:Nat) (l i q r:LA) (aq:Int) (s:Nat) (t:LA):O R:=(O_ N r0 m b c d f g e p o l i q r (fun ap u v=>(ZN N r0 b c d f g e p o s l i q r t ap u v)) aq s t)
def BM (r0:LA→O R) (m:Int) (b:LA) (c:Nat) (d:Bool) (f:Int) (g e:Nat) (l i:LA) (k4:Int→Int→Nat→Nat→LA→LA→O R) (q5:Int→Nat→LA→O R) (aj ak:Int) (p o:Nat) (q r:LA):O R :=
 (cond (decide (aj>0)) (Rf N ((o:Nat):Int) m f b c false d ak (fun bj ci=>(cond ((Nat.beq (bj.length) 22)&&(Nat.ble 22 22)) (cond ((Nat.ble (o+1) 140737488355328)&&(Nat.ble ((o+1)*216) 140737488355328)) (k4 (wrap .i64 (aj - 1)) ci p (o+1) q ((r.take (o*22))++((setCells [(.str ([]:List UInt8)),(.int .i64 0),(.int .i64 0),(.int .i64 0),.nsl,(.int .i64 0),(.int .i64 0),(.int .i64 0),(.int .i64 0),(.int .i64 0),(.int .i64 0),(.int .i64 0),(.int .i64 0),(.int .i64 0),(.int .i64 0),(.int .i64 0),(.int .i64 0),(.int .i64 0),.nsl,(.int .i64 0),(.int .i64 0),(.int .i64 0)] 0 bj).take 22))) none) none))) (Ag N 3 b c false d ak (fun cj bk=>(cond (cj==2) (Ag N m b c false d bk (fun ck cl=>(Ag N 20 b c false d cl (fun bb cm=>(Ag N 8 b c false d cm (fun cn co=>(Ag N 8 b c false d co (fun cp cq=>(Ag N 4 b c false d cq (fun cr cs=>(Ag N (wrap .i64 (bb+1)) b c false d cs (fun ct cu=>(Ag N (wrap .i64 (bb+1)) b c false d cu (fun cv cw=>(q5 cw 1 [(.str ([115,48]:List UInt8)),(.int .i64 ck),(.int .i64 bb),(.int .i64 ct),(.int .i64 cv),(.int .i64 cn),(.int .i64 cp),(.int .i64 (wrap .i64 (1+cr))),(.int .i64 4)]))))))))))))))) (q5 bk 0 [])))))
def Qa (r0:LA→O R) (m:Int) (b:LA) (c:Nat) (d:Bool) (f:Int) (g e:Nat) (l i:LA):Nat→Int→Int→Nat→Nat→LA→LA→O R
 | 0,_,_,_,_,_,_=>none
 | n+1,aj,ak,p,o,q,r=>(BM N r0 m b c d f g e l i (Qa r0 m b c d f g e l i n) (fun aq s t=>(KD N r0 m b c d f g e p o l i q r aq s t)) aj ak p o q r)
def BN (r0:LA→O R) (m:Int) (b:LA) (c:Nat) (d:Bool) (f:Int) (g e:Nat) (l i:LA) (k2:Int→Int→Nat→LA→O R) (q3:Int→Int→Nat→LA→O R) (q4:Int→Int→Nat→Nat→LA→LA→O R) (af aa:Int) (ab:Nat) (ac:LA):O R :=
 (cond ((decide (af>0))==true) (cond (cond true (decide (m>1)) false) (q3 af aa ab ac) (Ag N 3 b c false d aa (fun cx cy=>(q4 (wrap .i64 (1+cx)) cy ab 0 ac [])))) (Ag N 3 b c false d aa (fun cz da=>(q4 (wrap .i64 (1+cz)) da ab 0 ac []))))
def Qb (r0:LA→O R) (m:Int) (b:LA) (c:Nat) (d:Bool) (f:Int) (g e:Nat) (l i:LA):Nat→Int→Int→Nat→LA→O R
 | 0,_,_,_,_=>none
 | n+1,af,aa,ab,ac=>(BN N r0 m b c d f g e l i (Qb r0 m b c d f g e l i n) (fun au av an aw=>(ZL N (Qb r0 m b c d f g e l i n) r0 m b c d f g e l i au av an aw)) (fun aj ak p o q r=>(Qa N r0 m b c d f g e l i N aj ak p o q r)) af aa ab ac)
def O' (r0:LA→O R) (b:LA) (c:Nat) (d:Bool) (f:Int) (g e:Nat) (l i:LA) (k1:Int→Int→Int→Nat→LA→O R) (q2:Int→Int→Nat→LA→O R) (m ag al:Int) (y:Nat) (am:LA):O R :=
 (cond (decide (ag<m)) (Ag N ag b c false d al (fun db dc=>(Rd N ((y:Nat):Int) db ag f b c false d dc (fun bl dd=>(cond ((Nat.beq (bl.length) 12)&&(Nat.ble 12 12)) (cond ((Nat.ble (y+1) 140737488355328)&&(Nat.ble ((y+1)*120) 140737488355328)) (k1 m (wrap .i64 (ag+1)) dd (y+1) ((am.take (y*12))++((setCells [(.str ([]:List UInt8)),(.int .i64 0),(.int .i64 0),(.int .i64 0),(.int .i64 0),(.int .i64 0),(.int .i64 0),(.int .i64 0),(.int .i64 0),(.int .i64 0),(.int .i64 0),.nsl] 0 bl).take 12))) none) none))))) (Ag N 5 b c false d al (fun de df=>(q2 de df y am))))
def Ys (r0:LA→O R) (b:LA) (c:Nat) (d:Bool) (f:Int) (g e:Nat) (l i:LA):Nat→Int→Int→Int→Nat→LA→O R
 | 0,_,_,_,_,_=>none
 | n+1,m,ag,al,y,am=>(O' N r0 b c d f g e l i (Ys r0 b c d f g e l i n) (fun af aa ab ac=>(Qb N r0 m b c d f g e l i N af aa ab ac)) m ag al y am)
def BO (r0:LA→O R) (b:LA) (c:Nat) (d:Bool) (g:Nat) (l:LA) (k0:Int→Int→Int→Nat→LA→O R) (q1:Int→Int→Int→Nat→LA→O R) (ad ah f:Int) (e:Nat) (i:LA):O R :=
 (cond (decide (ad>0)) (OI N ([98]:List UInt8) ((e:Nat):Int) (fun bm=>(E5 N f 14 b c false d ah (fun ba dg bn=>(Ag N 2 b c false d dg (fun dh bo=>(cond (dh==1) (Ag N 200 b c false d bo (fun di dj=>(cond ((Nat.ble (e+1) 140737488355328)&&(Nat.ble ((e+1)*48) 140737488355328)) (k0 (wrap .i64 (ad - 1)) dj f (e+1) ((i.take (e*3))++[(.str bm),(.imm (bn.take (ba*1)) ba 1 false false),(.int .i64 (wrap .i64 (100+di)))])) none))) (cond ((Nat.ble (e+1) 140737488355328)&&(Nat.ble ((e+1)*48) 140737488355328)) (k0 (wrap .i64 (ad - 1)) bo f (e+1) ((i.take (e*3))++[(.str bm),(.imm (bn.take (ba*1)) ba 1 false false),(.int .i64 0)])) none)))))))) (q1 ((e:Nat):Int) 1 ah 0 []))
def Nc (r0:LA→O R) (b:LA) (c:Nat) (d:Bool) (g:Nat) (l:LA):Nat→Int→Int→Int→Nat→LA→O R
 | 0,_,_,_,_,_=>none
 | n+1,ad,ah,f,e,i=>(BO N r0 b c d g l (Nc r0 b c d g l n) (fun m ag al y am=>(Ys N r0 b c d f g e l i N m ag al y am)) ad ah f e i)
def vR (r0:LA→O R) (q0:Nat→LA→Int→Int→Int→Nat→LA→O R) (b:LA) (c:Nat) (ay d:Bool):O R :=
 (A0z N b c false d (Ag N 3 b c false d 0 (fun bp dk=>(E5 N (wrap .i64 (1+bp)) 5 b c false d dk (fun g dl l=>(Ag N 4 b c false d dl (fun dm dn=>(q0 g l (wrap .i64 (1+dm)) dn (wrap .i64 (1+bp)) 0 []))))))))
def lI:=(Ae (fun (N:Nat) (b:LA) (c:Nat) (ay d:Bool) (r0:LA→O R)=>(vR N r0 (fun g l ad ah f e i=>(Nc N r0 b c d g l N ad ah f e i)) b c ay d))).1
theorem Adb (b c ay d r0):(@lI R N b c ay d r0)=(vR N r0 (fun g l ad ah f e i=>(Nc N r0 b c d g l N ad ah f e i)) b c ay d):=by rw[lI,(Ae _).2]
def Aps:Hints:={ H:=(hS hL (hS hL (hS hL (hS hL (hS (hS hL (hS (hP [2,3,4,5] hL) hL)) (hS hL (hS (hS hL (hS (hP [2,3,4,7,8] hL) hL)) (hS (hS hL (hS (hP [2,3,4,7,9] (hJ [2,3,4,7,9] hL hL)) hL)) (hS (hS hL (hS (hP [2,3,4,7,11] hL) hL)) (hJ [2,3,4,7] hL (hJ [2,3,4] hL (hS (hS hL (hS (hP [2,3,4,13] (hJ [2,3,4,13] hL hL)) hL)) hL)))))))))))),modes:=[(3,0)],cob:=[23,44,192] }
def Axr:Dg:=[(105,Bfy N),(106,Jd N),(107,y_ N),(108,YZ N),(109,Af6 N),(110,Agc N),(111,un N),(112,A12 N)]
def Nd (F:KF R):=Hp Tryz.f61 Aps (Axr N) [] N F
def Cr (F:KF R):LA→O R:=(fun dp=>F (.pagg dp false) [])
def Bal (m:Int) (b:LA) (c:Nat) (d:Bool) (f:Int) (g e:Nat) (l i:LA) (au av:Int) (an:Nat) (aw:LA):St:=⟨[(2,(op 0)),(3,(op 1)),(4,(op 2)),(7,(iv m)),(9,(iv au))],(hq [⟨false,false,false,false,0,[(iv 0),.nsl,.nsl,.nsl,.nsl,.nsl,.nsl,.nsl],false⟩,⟨false,false,false,false,0,[(.imm b c 1 false d),(iv av)],false⟩,⟨false,false,false,false,0,[(iv f),(.own 300003 0 g),(.own 300004 0 e),(.own 300005 0 an),(.own 300006 0 0),(.own 300007 0 0),(.own 300008 0 0),(.own 300009 0 0)],false⟩,(bQ 1 l),(bQ 3 i),(bQ 12 aw),(bQ 22 []),(bQ 9 []),(bQ 5 []),(bQ 4 [])])⟩
def Bam (F:KF R) (Q2:St→O R):=Nd N F [1,1,1,1,1,1,1,0,1,0,0,1] [Q2]
def Ban (b:LA) (c:Nat) (d:Bool) (f:Int) (g e p o s u:Nat) (l i q r t v:LA) (ar ax:Int) (w:Nat) (ao:LA):St:=⟨[(2,(op 0)),(3,(op 1)),(4,(op 2)),(13,(iv ar))],(hq [⟨false,false,false,false,0,[(iv 0),.nsl,.nsl,.nsl,.nsl,.nsl,.nsl,.nsl],false⟩,⟨false,false,false,false,0,[(.imm b c 1 false d),(iv ax)],false⟩,⟨false,false,false,false,0,[(iv f),(.own 300003 0 g),(.own 300004 0 e),(.own 300005 0 p),(.own 300006 0 o),(.own 300007 0 s),(.own 300008 0 u),(.own 300009 0 w)],false⟩,(bQ 1 l),(bQ 3 i),(bQ 12 q),(bQ 22 r),(bQ 9 t),(bQ 5 v),(bQ 4 ao)])⟩
def Bao (F:KF R) (Q7:St→O R):=Nd N F [1,1,1,1,1,1,1,1,1,1,1,0,1,0,0,1] [Q7]
def Apt (b:LA) (c:Nat) (d:Bool) (f:Int) (g e p o s u:Nat) (l i q r t v:LA) (ae ai:Int) (x:Nat) (z:LA):St:=⟨[(2,(op 0)),(3,(op 1)),(4,(op 2)),(13,(iv ae))],(hq [⟨false,false,false,false,0,[(iv 0),.nsl,.nsl,.nsl,.nsl,.nsl,.nsl,.nsl],false⟩,⟨false,false,false,false,0,[(.imm b c 1 false d),(iv ai)],false⟩,⟨false,false,false,false,0,[(iv f),(.own 300003 0 g),(.own 300004 0 e),(.own 300005 0 p),(.own 300006 0 o),(.own 300007 0 s),(.own 300008 0 u),(.own 300009 0 x)],false⟩,(bQ 1 l),(bQ 3 i),(bQ 12 q),(bQ 22 r),(bQ 9 t),(bQ 5 v),(bQ 4 z)])⟩
def Apu (F:KF R):=Nd N F [1,1,1,1,1,1,1,1,1,1,1,0,1,0] []
def Bap (b:LA) (c:Nat) (d:Bool) (f:Int) (g e p o s:Nat) (l i q r t:LA) (ap:Int) (u:Nat) (v:LA):St:=⟨[(2,(op 0)),(3,(op 1)),(4,(op 2))],(hq [⟨false,false,false,false,0,[(iv 0),.nsl,.nsl,.nsl,.nsl,.nsl,.nsl,.nsl],false⟩,⟨false,false,false,false,0,[(.imm b c 1 false d),(iv ap)],false⟩,⟨false,false,false,false,0,[(iv f),(.own 300003 0 g),(.own 300004 0 e),(.own 300005 0 p),(.own 300006 0 o),(.own 300007 0 s),(.own 300008 0 u),(.own 300009 0 0)],false⟩,(bQ 1 l),(bQ 3 i),(bQ 12 q),(bQ 22 r),(bQ 9 t),(bQ 5 v),(bQ 4 [])])⟩
def Baq (F:KF R):=Nd N F [1,1,1,1,1,1,1,1,1,1,1] []
def Bar (m:Int) (b:LA) (c:Nat) (d:Bool) (f:Int) (g e p o:Nat) (l i q r:LA) (aq:Int) (s:Nat) (t:LA):St:=⟨[(2,(op 0)),(3,(op 1)),(4,(op 2)),(7,(iv m))],(hq [⟨false,false,false,false,0,[(iv 0),.nsl,.nsl,.nsl,.nsl,.nsl,.nsl,.nsl],false⟩,⟨false,false,false,false,0,[(.imm b c 1 false d),(iv aq)],false⟩,⟨false,false,false,false,0,[(iv f),(.own 300003 0 g),(.own 300004 0 e),(.own 300005 0 p),(.own 300006 0 o),(.own 300007 0 s),(.own 300008 0 0),(.own 300009 0 0)],false⟩,(bQ 1 l),(bQ 3 i),(bQ 12 q),(bQ 22 r),(bQ 9 t),(bQ 5 []),(bQ 4 [])])⟩
def Bas (F:KF R):=Nd N F [1,1,1,1,1,1,1,1,1,1] []
def Bat (m:Int) (b:LA) (c:Nat) (d:Bool) (f:Int) (g e:Nat) (l i:LA) (aj ak:Int) (p o:Nat) (q r:LA):St:=⟨[(2,(op 0)),(3,(op 1)),(4,(op 2)),(7,(iv m)),(11,(iv aj))],(hq [⟨false,false,false,false,0,[(iv 0),.nsl,.nsl,.nsl,.nsl,.nsl,.nsl,.nsl],false⟩,⟨false,false,false,false,0,[(.imm b c 1 false d),(iv ak)],false⟩,⟨false,false,false,false,0,[(iv f),(.own 300003 0 g),(.own 300004 0 e),(.own 300005 0 p),(.own 300006 0 o),(.own 300007 0 0),(.own 300008 0 0),(.own 300009 0 0)],false⟩,(bQ 1 l),(bQ 3 i),(bQ 12 q),(bQ 22 r),(bQ 9 []),(bQ 5 []),(bQ 4 [])])⟩
def Bau (F:KF R):=Nd N F [1,1,1,1,1,1,1,1,0,1,0] []
def Apv (m:Int) (b:LA) (c:Nat) (d:Bool) (f:Int) (g e:Nat) (l i:LA) (af aa:Int) (ab:Nat) (ac:LA):St:=⟨[(2,(op 0)),(3,(op 1)),(4,(op 2)),(7,(iv m)),(9,(iv af))],(hq [⟨false,false,false,false,0,[(iv 0),.nsl,.nsl,.nsl,.nsl,.nsl,.nsl,.nsl],false⟩,⟨false,false,false,false,0,[(.imm b c 1 false d),(iv aa)],false⟩,⟨false,false,false,false,0,[(iv f),(.own 300003 0 g),(.own 300004 0 e),(.own 300005 0 ab),(.own 300006 0 0),(.own 300007 0 0),(.own 300008 0 0),(.own 300009 0 0)],false⟩,(bQ 1 l),(bQ 3 i),(bQ 12 ac),(bQ 22 []),(bQ 9 []),(bQ 5 []),(bQ 4 [])])⟩
def Apw (F:KF R):=Nd N F [1,1,1,1,1,1,1,0,1,0] []
def Bav (b:LA) (c:Nat) (d:Bool) (f:Int) (g e:Nat) (l i:LA) (m ag al:Int) (y:Nat) (am:LA):St:=⟨[(2,(op 0)),(3,(op 1)),(4,(op 2)),(7,(iv m)),(8,(iv ag))],(hq [⟨false,false,false,false,0,[(iv 0),.nsl,.nsl,.nsl,.nsl,.nsl,.nsl,.nsl],false⟩,⟨false,false,false,false,0,[(.imm b c 1 false d),(iv al)],false⟩,⟨false,false,false,false,0,[(iv f),(.own 300003 0 g),(.own 300004 0 e),(.own 300005 0 y),(.own 300006 0 0),(.own 300007 0 0),(.own 300008 0 0),(.own 300009 0 0)],false⟩,(bQ 1 l),(bQ 3 i),(bQ 12 am),(bQ 22 []),(bQ 9 []),(bQ 5 []),(bQ 4 [])])⟩
def Baw (F:KF R):=Nd N F [1,1,1,1,1,1,0,1,0] []
def Bax (b:LA) (c:Nat) (d:Bool) (g:Nat) (l:LA) (ad ah f:Int) (e:Nat) (i:LA):St:=⟨[(2,(op 0)),(3,(op 1)),(4,(op 2)),(5,(iv ad))],(hq [⟨false,false,false,false,0,[(iv 0),.nsl,.nsl,.nsl,.nsl,.nsl,.nsl,.nsl],false⟩,⟨false,false,false,false,0,[(.imm b c 1 false d),(iv ah)],false⟩,⟨false,false,false,false,0,[(iv f),(.own 300003 0 g),(.own 300004 0 e),(.own 300005 0 0),(.own 300006 0 0),(.own 300007 0 0),(.own 300008 0 0),(.own 300009 0 0)],false⟩,(bQ 1 l),(bQ 3 i),(bQ 12 []),(bQ 22 []),(bQ 9 []),(bQ 5 []),(bQ 4 [])])⟩
def Bay (F:KF R):=Nd N F [1,1,1,1,0,1,0] []
theorem Atr (Q2:St→O R) (F:KF R) (m:Int) (b:LA) (c:Nat) (d:Bool) (f:Int) (g e:Nat) (l i:LA):∀ (au av:Int) (an:Nat) (aw:LA),A9 (Bam N F Q2) (Bal m b c d f g e l i au av an aw)=(ZL N (fun af aa ab ac=>Q2 (Apv m b c d f g e l i af aa ab ac)) (Cr F) m b c d f g e l i au av an aw):=by
 intro au av an aw
 kernel_rfl
theorem Ats (Q7:St→O R) (F:KF R) (b:LA) (c:Nat) (d:Bool) (f:Int) (g e p o s u:Nat) (l i q r t v:LA):∀ (ar ax:Int) (w:Nat) (ao:LA),A9 (Bao N F Q7) (Ban b c d f g e p o s u l i q r t v ar ax w ao)=(ZM N (fun ae ai x z=>Q7 (Apt b c d f g e p o s u l i q r t v ae ai x z)) (Cr F) b c d f g e p o s u l i q r t v ar ax w ao):=by
 intro ar ax w ao
 kernel_rfl
theorem pA (F:KF R) (b:LA) (c:Nat) (d:Bool) (f:Int) (g e p o s u:Nat) (l i q r t v:LA):∀ (n:Nat) (ae ai:Int) (x:Nat) (z:LA),Ap (Apu N F) n (Apt b c d f g e p o s u l i q r t v ae ai x z)=(Iq N (Cr F) b c d f g e p o s u l i q r t v n ae ai x z)
 | 0,_,_,_,_=>by kernel_rfl
 | n+1,ae,ai,x,z=>have e0:=(funext fun ae=>funext fun ai=>funext fun x=>funext fun z=>(pA F b c d f g e p o s u l i q r t v n ae ai x z))
  Eq.trans (by kernel_rfl) (fQ (BL N (Cr F) b c d f g e p o s u l i q r t v · · ae ai x z) e0 (funext fun ar=>funext fun ax=>funext fun w=>funext fun ao=>(Aq ..).trans ((Ats N (Ap (Apu N F) n) F b c d f g e p o s u l i q r t v ar ax w ao).trans (Bm (ZM N · (Cr F) b c d f g e p o s u l i q r t v ar ax w ao) e0))):_)
theorem Att (F:KF R) (b:LA) (c:Nat) (d:Bool) (f:Int) (g e p o s:Nat) (l i q r t:LA):∀ (ap:Int) (u:Nat) (v:LA),A9 (Baq N F) (Bap b c d f g e p o s l i q r t ap u v)=(ZN N (Cr F) b c d f g e p o s l i q r t ap u v):=by
 intro ap u v
 exact Eq.trans (by kernel_rfl) (Bm (jG N (Cr F) b c d f g e p o s l i q r t · ap u v) (funext fun ae=>funext fun ai=>funext fun x=>funext fun z=>(Ai ..).trans (pA N F b c d f g e p o s u l i q r t v N ae ai x z)):_)
theorem Atu (F:KF R) (m:Int) (b:LA) (c:Nat) (d:Bool) (f:Int) (g e p o:Nat) (l i q r:LA):∀ (aq:Int) (s:Nat) (t:LA),A9 (Bas N F) (Bar m b c d f g e p o l i q r aq s t)=(KD N (Cr F) m b c d f g e p o l i q r aq s t):=by
 intro aq s t
 exact Eq.trans (by kernel_rfl) (Bm (O_ N (Cr F) m b c d f g e p o l i q r · aq s t) (funext fun ap=>funext fun u=>funext fun v=>(Aq ..).trans (Att N F b c d f g e p o s l i q r t ap u v)):_)
theorem pB (F:KF R) (m:Int) (b:LA) (c:Nat) (d:Bool) (f:Int) (g e:Nat) (l i:LA):∀ (n:Nat) (aj ak:Int) (p o:Nat) (q r:LA),Ap (Bau N F) n (Bat m b c d f g e l i aj ak p o q r)=(Qa N (Cr F) m b c d f g e l i n aj ak p o q r)
 | 0,_,_,_,_,_,_=>by kernel_rfl
 | n+1,aj,ak,p,o,q,r=>Eq.trans (by kernel_rfl) (fQ (BM N (Cr F) m b c d f g e l i · · aj ak p o q r) (funext fun aj=>funext fun ak=>funext fun p=>funext fun o=>funext fun q=>funext fun r=>(pB F m b c d f g e l i n aj ak p o q r)) (funext fun aq=>funext fun s=>funext fun t=>(Aq ..).trans (Atu N F m b c d f g e p o l i q r aq s t)):_)
theorem pC (F:KF R) (m:Int) (b:LA) (c:Nat) (d:Bool) (f:Int) (g e:Nat) (l i:LA):∀ (n:Nat) (af aa:Int) (ab:Nat) (ac:LA),Ap (Apw N F) n (Apv m b c d f g e l i af aa ab ac)=(Qb N (Cr F) m b c d f g e l i n af aa ab ac)
 | 0,_,_,_,_=>by kernel_rfl
 | n+1,af,aa,ab,ac=>have e0:=(funext fun af=>funext fun aa=>funext fun ab=>funext fun ac=>(pC F m b c d f g e l i n af aa ab ac))
  Eq.trans (by kernel_rfl) (Bmu (BN N (Cr F) m b c d f g e l i · · · af aa ab ac) e0 (funext fun au=>funext fun av=>funext fun an=>funext fun aw=>(Aq ..).trans ((Atr N (Ap (Apw N F) n) F m b c d f g e l i au av an aw).trans (Bm (ZL N · (Cr F) m b c d f g e l i au av an aw) e0))) (funext fun aj=>funext fun ak=>funext fun p=>funext fun o=>funext fun q=>funext fun r=>(Ai ..).trans (pB N F m b c d f g e l i N aj ak p o q r)):_)
theorem pD (F:KF R) (b:LA) (c:Nat) (d:Bool) (f:Int) (g e:Nat) (l i:LA):∀ (n:Nat) (m ag al:Int) (y:Nat) (am:LA),Ap (Baw N F) n (Bav b c d f g e l i m ag al y am)=(Ys N (Cr F) b c d f g e l i n m ag al y am)
 | 0,_,_,_,_,_=>by kernel_rfl
 | n+1,m,ag,al,y,am=>Eq.trans (by kernel_rfl) (fQ (O' N (Cr F) b c d f g e l i · · m ag al y am) (funext fun m=>funext fun ag=>funext fun al=>funext fun y=>funext fun am=>(pD F b c d f g e l i n m ag al y am)) (funext fun af=>funext fun aa=>funext fun ab=>funext fun ac=>(Ai ..).trans (pC N F m b c d f g e l i N af aa ab ac)):_)
theorem pE (F:KF R) (b:LA) (c:Nat) (d:Bool) (g:Nat) (l:LA):∀ (n:Nat) (ad ah f:Int) (e:Nat) (i:LA),Ap (Bay N F) n (Bax b c d g l ad ah f e i)=(Nc N (Cr F) b c d g l n ad ah f e i)
 | 0,_,_,_,_,_=>by kernel_rfl
 | n+1,ad,ah,f,e,i=>Eq.trans (by kernel_rfl) (fQ (BO N (Cr F) b c d g l · · ad ah f e i) (funext fun ad=>funext fun ah=>funext fun f=>funext fun e=>funext fun i=>(pE F b c d g l n ad ah f e i)) (funext fun m=>funext fun ag=>funext fun al=>funext fun y=>funext fun am=>(Ai ..).trans (pD N F b c d f g e l i N m ag al y am)):_)
theorem Apx (b:LA) (c:Nat) (ay d:Bool) (F:KF R):Cd (Axr N) Aps N 61 [(.imm b c 1 ay d)] [] F=(lI N b c ay d (Cr F)):=by
 rw[Adb]
 exact Eq.trans (by kernel_rfl) (Bm (vR N (Cr F) · b c ay d) (funext fun g=>funext fun l=>funext fun ad=>funext fun ah=>funext fun f=>funext fun e=>funext fun i=>(Ai ..).trans (pE N F b c d g l N ad ah f e i)):_)
def Adc (a:LA) (h:Ak) (k:KF R):O R :=
 match a,h with
 | [(.imm b c 1 ay d)],[]=>(lI N b c ay d (Cr k))
 | _,_=>none
theorem Apy:An N 61 @Adc:=by
 intro R Q a h k j;unfold Adc;split;exact Ax (Apx ..) (Apx ..) ⟨Bfz N,Je N,ya N,Y_ N,Af7 N,Agd N,uo N,A13 N,trivial⟩;exact Az
def Baz:=Ay (Apy N)
def Ba0:=Ca (Apy N)
def Apz (b:LA) (c:Nat) (e d:Bool) (r0:LA→Int→O R):O R :=
 (lI N b c false d (fun g=>(cond ((Nat.beq 0 0)&&((Nat.beq (g.length) 8)&&(Nat.beq 8 8))) (B9 22 (g.drop 4) fun f i=>(cond (Ac 0 i) (cond (Nat.ble 22 (f.length)) (Ao .i64 g fun l=>(cond ((Nat.beq 0 0)&&((Nat.beq ((f.take 22).length) 22)&&(Nat.beq 22 22))) (cond (Nat.ble 22 ((f.take 22).length)) (r0 ((f.take 22).take 22) l) none) none)) none) none)) none)))
def vS:=(Ae (@Apz R)).1
theorem Add:@vS R=@Apz R:=(Ae _).2
def Bf2:Dg:=[(61,Baz N)]
def Ap0 (F:KF R):LA→Int→O R:=(fun m n=>F (.tup [(.pagg m false),(iv n)]) [])
theorem Ap1 (b:LA) (c:Nat) (e d:Bool) (F:KF R):Cd (Bf2 N) Bg8 N 27 [(.imm b c 1 e d)] [] F=(vS N b c e d (Ap0 F)):=by
 rw[Add]
 kernel_rfl
def Ade (a:LA) (h:Ak) (k:KF R):O R :=
 match a,h with
 | [(.imm b c 1 e d)],[]=>(vS N b c e d (Ap0 k))
 | _,_=>none
theorem Ap2:An N 27 @Ade:=by
 intro R Q a h k j;unfold Ade;split;exact Ax (Ap1 ..) (Ap1 ..) ⟨Ba0 N,trivial⟩;exact Az
def Ba1:=Ay (Ap2 N)
def Ba2:=Ca (Ap2 N)
def rP (b:LA) (c:Bool) (d:Int) (r0:Bool→O R):O R :=
 (cond (Nat.ble 3 (b.length)) (Cb N d (fun e=>(Fx N (b.take 3) c e false (fun f=>(r0 (decide (f≤0))))))) none)
def Rh:=(Ae (@rP R)).1
theorem pF:@Rh R=@rP R:=(Ae _).2
def A6a:Dg:=[(60,Ga N),(59,Sk N)]
def vT (F:KF R):Bool→O R:=(fun g=>F (.bool g) [])
theorem vU (b:LA) (c:Bool) (d:Int) (F:KF R):Cd (A6a N) C6 N 125 [(.pagg b c),(iv d)] [] F=(Rh N b c d (vT F)):=by
 rw[pF]
 kernel_rfl
def pG (a:LA) (h:Ak) (k:KF R):O R :=
 match a,h with
 | [(.pagg b c),(.int .i64 d)],[]=>(Rh N b c d (vT k))
 | _,_=>none
theorem vV:An N 125 @pG:=by
 intro R Q a h k j;unfold pG;split;exact Ax (vU ..) (vU ..) ⟨Gb N,Sm N,trivial⟩;exact Az
def vW:=Ay (vV N)
def vX:=Ca (vV N)
def KE (d:LA) (i g:Bool) (b:LA) (e:Bool) (c:LA) (f:Bool) (r0:Bool→O R):O R :=
 (cond (!g) (cond (Nat.ble 3 (b.length)) (Ti N (b.take 3) e (fun l=>(cond ((l==0)==true) (cond (Nat.ble 3 (c.length)) (Ti N (c.take 3) f (fun m=>(r0 (cond true (m==0) false)))) none) (r0 false)))) none) (cond (Nat.ble 3 (b.length)) (Ao .i64 (d.drop 2) fun n=>(Cb N n (fun o=>(Fx N (b.take 3) e o false (fun p=>(cond ((decide (p≥0))==true) (cond (Nat.ble 3 (c.length)) (Ao .i64 (d.drop 16) fun q=>(Yh N (c.take 3) f 0 q (fun r=>(cond ((cond true r false)==true) (cond (Nat.ble 3 (b.length)) (cond (Nat.ble 3 (c.length)) (Ok N (b.take 3) e (c.take 3) f (fun s=>(Ao .i64 (d.drop 3) fun t=>(Rh N s false t (fun u=>(r0 (cond true u false))))))) none) none) (r0 false))))) none) (r0 false))))))) none))
def Ta:=(Ae (@KE R)).1
theorem PA:@Ta R=@KE R:=(Ae _).2
def Agg:Dg:=[(95,XG N),(60,Ga N),(59,Sk N),(56,YE N),(81,GM N),(125,vW N)]
def UW (F:KF R):Bool→O R:=(fun v=>F (.bool v) [])
theorem UX (d:LA) (i g:Bool) (b:LA) (e:Bool) (c:LA) (f:Bool) (F:KF R):Cd (Agg N) C6 N 76 [(.pagg d i),(.bool g),(.pagg b e),(.pagg c f)] [] F=(Ta N d i g b e c f (UW F)):=by
 rw[PA]
 kernel_rfl
def PB (a:LA) (h:Ak) (k:KF R):O R :=
 match a,h with
 | [(.pagg d i),(.bool g),(.pagg b e),(.pagg c f)],[]=>(Ta N d i g b e c f (UW k))
 | _,_=>none
theorem UY:An N 76 @PB:=by
 intro R Q a h k j;unfold PB;split;exact Ax (UX ..) (UX ..) ⟨XH N,Gb N,Sm N,YF N,GN N,vX N,trivial⟩;exact Az
def yn:=Ay (UY N)
def yp:=Ca (UY N)
end
end Gx

namespace Gx
open Go Go.Proofs
open IntKind (wrap)
set_option maxRecDepth 100000
noncomputable section
variable {R:Type} (N:Nat)
def Ts (r0:Bool→O R) (f g l:Bool) (c:LA) (e:Bool) (b:LA) (i:Bool) (d m:LA) (n:Bool):O R :=
 (cond n (cond (Nat.ble 3 (m.length)) (cond (Nat.ble 3 (b.length)) (IY N (m.take 3) false (b.take 3) e (fun q=>(Ao .i64 (c.drop 6) fun r=>(Rh N q false r (fun s=>(cond (s==true) (cond (Nat.ble 3 (b.length)) (cond (Nat.ble 3 (d.length)) (IY N (b.take 3) e (d.take 3) i (fun t=>(Ao .i64 (c.drop 7) fun u=>(Rh N t false u (fun v=>(r0 (cond true v false))))))) none) none) (r0 false))))))) none) none) (cond g (cond (Nat.ble 3 (m.length)) (Ao .i64 (c.drop 8) fun w=>(Rh N (m.take 3) false w (fun x=>(r0 x)))) none) (cond f (cond (Nat.ble 3 (b.length)) (Ao .i64 (c.drop 9) fun y=>(Rh N (b.take 3) e y (fun z=>(r0 z)))) none) (r0 true))))
def Z1 (r0:Bool→O R) (q0:LA→Bool→O R) (c:LA) (l f g:Bool) (b:LA) (e:Bool) (d:LA) (i:Bool) (o:LA) (p:Bool):O R :=
 (cond (Nat.ble 3 (d.length)) (cond (Nat.ble 3 (o.length)) (Ok N (d.take 3) i (o.take 3) p (fun m=>(cond ((Nat.beq 0 0)&&((Nat.beq (m.length) 3)&&(Nat.beq 3 3))) (cond (g==true) (q0 m (cond true f false)) (q0 m false)) none))) none) none)
def Ri:=(Ae (fun (N:Nat) (c:LA) (l f g:Bool) (b:LA) (e:Bool) (d:LA) (i:Bool) (o:LA) (p:Bool) (r0:Bool→O R)=>(Z1 N r0 (fun m n=>(Ts N r0 f g l c e b i d m n)) c l f g b e d i o p))).1
theorem UZ (c l f g b e d i o p r0):(@Ri R N c l f g b e d i o p r0)=(Z1 N r0 (fun m n=>(Ts N r0 f g l c e b i d m n)) c l f g b e d i o p):=by rw[Ri,(Ae _).2]
def dT:Hints:={ H:=(hS hL (hS hL (hS (hS (hJ [1,2,6,9,10,13,17] hL hL) hL) hL))) }
def jH:Dg:=[(81,GM N),(83,yJ N),(125,vW N)]
def Agh (F:KF R):=Hp Tryz.f77 dT (jH N) [] N F
def Tt (F:KF R):Bool→O R:=(fun aa=>F (.bool aa) [])
def Agi (f g l:Bool) (c:LA) (e:Bool) (b:LA) (i:Bool) (d m:LA) (n:Bool):St:=⟨[(1,(.bool f)),(2,(.bool g)),(6,(op 0)),(9,(op 1)),(10,(op 2)),(13,(op 3)),(17,(.bool n))],(hq [(bP l 0 c),(bP e 0 b),(bP i 0 d),(bQ 0 m)])⟩
def Agj (F:KF R):=Agh N F [1,1,0,0,1] []
theorem rQ (F:KF R) (f g l:Bool) (c:LA) (e:Bool) (b:LA) (i:Bool) (d m:LA):∀ (n:Bool),A9 (Agj N F) (Agi f g l c e b i d m n)=(Ts N (Tt F) f g l c e b i d m n):=by
 intro n
 kernel_rfl
theorem dU (c:LA) (l f g:Bool) (b:LA) (e:Bool) (d:LA) (i:Bool) (o:LA) (p:Bool) (F:KF R):Cd (jH N) dT N 77 [(.pagg c l),(.bool f),(.bool g),(.pagg b e),(.pagg d i),(.pagg o p)] [] F=(Ri N c l f g b e d i o p (Tt F)):=by
 rw[UZ]
 exact Eq.trans (by kernel_rfl) (Bm (Z1 N (Tt F) · c l f g b e d i o p) (funext fun m=>funext fun n=>(Aq ..).trans (rQ N F f g l c e b i d m n)):_)
def U_ (a:LA) (h:Ak) (k:KF R):O R :=
 match a,h with
 | [(.pagg c l),(.bool f),(.bool g),(.pagg b e),(.pagg d i),(.pagg o p)],[]=>(Ri N c l f g b e d i o p (Tt k))
 | _,_=>none
theorem dV:An N 77 @U_:=by
 intro R Q a h k j;unfold U_;split;exact Ax (dU ..) (dU ..) ⟨GN N,yK N,vX N,trivial⟩;exact Az
def Agk:=Ay (dV N)
def Agl:=Ca (dV N)
def PC (k1:Bool→Int→Bool→LA→O R) (r0:Int→Int→O R) (d i l:Int) (o:Bool) (f:Int) (g:Bool) (b:LA) (e:Bool) (c:LA) (m:Bool) (q:LA):O R :=
 (B9 1 c fun y z=>(cond (Ac f z) (Ao .i64 (y.drop ((f.toNat)*1)) fun r=>(cond (Nat.ble 22 (b.length)) (B9 3 (c.drop 1) fun t aa=>(cond (Ac f aa) (cond (Nat.ble 3 ((t.drop ((f.toNat)*3)).length)) (B9 3 (c.drop 2) fun u ab=>(cond (Ac f ab) (cond (Nat.ble 3 ((u.drop ((f.toNat)*3)).length)) (Ta N (b.take 22) g (r==2) ((t.drop ((f.toNat)*3)).take 3) e ((u.drop ((f.toNat)*3)).take 3) e (fun ac=>(cond (!ac) (r0 f 3) (cond (Nat.ble 22 (b.length)) (cond (Nat.ble 3 (q.length)) (B9 3 (c.drop 1) fun v ad=>(cond (Ac f ad) (cond (Nat.ble 3 ((v.drop ((f.toNat)*3)).length)) (B9 3 (c.drop 2) fun w ae=>(cond (Ac f ae) (cond (Nat.ble 3 ((w.drop ((f.toNat)*3)).length)) (Ri N (b.take 22) g o (r==2) (q.take 3) m ((v.drop ((f.toNat)*3)).take 3) e ((w.drop ((f.toNat)*3)).take 3) e (fun af=>(cond (!af) (r0 f 64) (B9 3 (c.drop 1) fun s ag=>(cond (Ac f ag) (cond (Nat.ble 3 ((s.drop ((f.toNat)*3)).length)) (cond ((Nat.beq (((s.drop ((f.toNat)*3)).take 3).length) 3)&&((Nat.ble 3 (q.length))&&(!false))) (k1 (r==2) (wrap .i64 (f+1)) (m||e) (setCells q 0 ((s.drop ((f.toNat)*3)).take 3))) none) none) none))))) none) none)) none) none)) none) none)))) none) none)) none) none)) none)) none))
def FT (N:Nat) (r0:Int→Int→O R) (d i l:Int) (g:Bool) (b:LA) (e:Bool) (c:LA) (k1:Bool→Int→Bool→LA→O R) (q2:LA→O R) (o:Bool) (f:Int) (m:Bool) (p:LA):O R :=
 (cond (decide (f<d)) (cond ((l != 0)==true) (cond (cond true (decide (f≥i)) false) (r0 f 16) (q2 p)) (q2 p)) (r0 d 0))
def L0 (r0:Int→Int→O R) (d i l:Int) (g:Bool) (b:LA) (e:Bool) (c:LA):Nat→Bool→Int→Bool→LA→O R
 | 0,_,_,_,_=>none
 | n+1,o,f,m,p=>(FT N r0 d i l g b e c (L0 r0 d i l g b e c n) (fun q=>(PC N (L0 r0 d i l g b e c n) r0 d i l o f g b e c m q)) o f m p)
def ZO (r0:Int→Int→O R) (d:Int) (g:Bool) (b:LA) (e:Bool) (c:LA) (q1:Int→Int→Bool→Int→Bool→LA→O R):O R :=
 (cond (Nat.ble 22 (b.length)) (B9 1 c fun ah ai=>(FE N (b.take 22) g ah ai false e (fun ar i l au=>(Ao .i64 (b.drop 19) fun aj=>(Ao .i64 (b.drop 21) fun ak=>(Cb N ak (fun x=>(cond ((Nat.beq 0 0)&&((Nat.beq (x.length) 3)&&(Nat.beq 3 3))) (q1 i l (aj==2) 0 false x) none)))))))) none)
def PE (r0:Int→Int→O R) (d:Int) (g:Bool) (b:LA) (e:Bool) (c:LA):O R:=(ZO N r0 d g b e c (fun i l o f m p=>(L0 N r0 d i l g b e c N o f m p)))
def lJ (r0:Int→Int→O R) (q0:O R) (b:LA) (g:Bool) (d:Int) (c:LA) (e:Bool):O R :=
 (cond (Nat.ble 22 (b.length)) (V1 N (b.take 22) g d (fun al=>(cond (!al) (r0 0 1) (B9 1 c fun av am=>(cond ((((am:Nat):Int) != d)==false) (B9 3 (c.drop 1) fun aw an=>(cond ((cond false true (((an:Nat):Int) != d))==false) (B9 3 (c.drop 2) fun ax ao=>(cond (cond false true (((ao:Nat):Int) != d)) (r0 0 4) q0)) (r0 0 4))) (r0 0 4)))))) none)
def BP:=(Ae (fun (N:Nat) (b:LA) (g:Bool) (d:Int) (c:LA) (e:Bool) (r0:Int→Int→O R)=>(lJ N r0 (PE N r0 d g b e c) b g d c e))).1
theorem vY (b g d c e r0):(@BP R N b g d c e r0)=(lJ N r0 (PE N r0 d g b e c) b g d c e):=by rw[BP,(Ae _).2]
def Adf:Hints:={ H:=(hS hL (hS hL (hJ [1,3,5] hL (hS hL (hS hL (hS hL (hS (hS hL (hS (hP [1,3,5,9,10,11,12,52,53] (hS hL (hS hL (hS (hS (hS hL (hJ [1,3,5,9,10,11,12,13,52,53] hL hL)) hL) hL)))) hL)) hL))))))) }
def Ap3:Dg:=[(16,ND N),(64,rA N),(60,Ga N),(76,yn N),(77,Agk N)]
def jI (F:KF R):=Hp Tryz.f38 Adf (Ap3 N) [] N F
def Jw (F:KF R):Int→Int→O R:=(fun ap aq=>F (.tup [(iv ap),(iv aq)]) [])
def A6b (d i l:Int) (o:Bool) (f:Int) (g:Bool) (b:LA) (e:Bool) (c:LA) (m:Bool) (q:LA):St:=⟨[(1,(iv d)),(3,(op 0)),(5,(op 1)),(9,(iv i)),(10,(iv l)),(11,(.bool o)),(12,(op 2)),(13,(iv f)),(52,(iv d)),(53,(iv f))],(hq [(bP g 0 b),(bP e 0 c),(bP m 0 q)])⟩
def A6c (F:KF R) (Q1:St→O R):=jI N F [1,1,1,1,1,1,0,1,0,0,1,1,0,0,1,1] [Q1]
def Adg (d i l:Int) (g:Bool) (b:LA) (e:Bool) (c:LA) (o:Bool) (f:Int) (m:Bool) (p:LA):St:=⟨[(1,(iv d)),(3,(op 0)),(5,(op 1)),(9,(iv i)),(10,(iv l)),(11,(.bool o)),(12,(op 2)),(52,(iv d)),(53,(iv f))],(hq [(bP g 0 b),(bP e 0 c),(bP m 0 p)])⟩
def Adh (F:KF R):=jI N F [1,1,1,1,1,1,0,1,0] []
def A6d (d:Int) (g:Bool) (b:LA) (e:Bool) (c:LA):St:=⟨[(1,(iv d)),(3,(op 0)),(5,(op 1))],(hq [(bP g 0 b),(bP e 0 c)])⟩
def A6e (F:KF R):=jI N F [1,1,1] []
theorem Ap4 (Q1:St→O R) (F:KF R) (d i l:Int) (o:Bool) (f:Int) (g:Bool) (b:LA) (e:Bool) (c:LA) (m:Bool):∀ (q:LA),A9 (A6c N F Q1) (A6b d i l o f g b e c m q)=(PC N (fun o f m p=>Q1 (Adg d i l g b e c o f m p)) (Jw F) d i l o f g b e c m q):=by
 intro q
 kernel_rfl
theorem jJ (F:KF R) (d i l:Int) (g:Bool) (b:LA) (e:Bool) (c:LA):∀ (n:Nat) (o:Bool) (f:Int) (m:Bool) (p:LA),Ap (Adh N F) n (Adg d i l g b e c o f m p)=(L0 N (Jw F) d i l g b e c n o f m p)
 | 0,_,_,_,_=>by kernel_rfl
 | n+1,o,f,m,p=>have e0:=(funext fun o=>funext fun f=>funext fun m=>funext fun p=>(jJ F d i l g b e c n o f m p))
  Eq.trans (by kernel_rfl) (fQ (FT N (Jw F) d i l g b e c · · o f m p) e0 (funext fun q=>(Aq ..).trans ((Ap4 N (Ap (Adh N F) n) F d i l o f g b e c m q).trans (Bm (PC N · (Jw F) d i l o f g b e c m q) e0))):_)
theorem Ap5 (F:KF R) (d:Int) (g:Bool) (b:LA) (e:Bool) (c:LA):A9 (A6e N F) (A6d d g b e c)=(PE N (Jw F) d g b e c):=by
 exact Eq.trans (by kernel_rfl) (Bm (ZO N (Jw F) d g b e c ·) (funext fun i=>funext fun l=>funext fun o=>funext fun f=>funext fun m=>funext fun p=>(Ai ..).trans (jJ N F d i l g b e c N o f m p)):_)
theorem Adi (b:LA) (g:Bool) (d:Int) (c:LA) (e:Bool) (F:KF R):Cd (Ap3 N) Adf N 38 [(.pagg b g),(iv d),(.pagg c e)] [] F=(BP N b g d c e (Jw F)):=by
 rw[vY]
 exact Eq.trans (by kernel_rfl) (Bm (lJ N (Jw F) · b g d c e) ((Aq ..).trans (Ap5 N F d g b e c)):_)
def vZ (a:LA) (h:Ak) (k:KF R):O R :=
 match a,h with
 | [(.pagg b g),(.int .i64 d),(.pagg c e)],[]=>(BP N b g d c e (Jw k))
 | _,_=>none
theorem Adj:An N 38 @vZ:=by
 intro R Q a h k j;unfold vZ;split;exact Ax (Adi ..) (Adi ..) ⟨NE N,rB N,Gb N,yp N,Agl N,trivial⟩;exact Az
def jK:=Ay (Adj N)
def jL:=Ca (Adj N)
def yq (b:LA) (c:Bool) (r0:Int→Int→O R):O R :=
 (cond (Nat.ble 22 (b.length)) (Lg N (b.take 22) c (fun d=>(cond (!d) (r0 0 0) (Ao .i64 (b.drop 11) fun e=>(Ao .i64 (b.drop 15) fun f=>(Ao .i64 (b.drop 10) fun g=>(r0 (Ix (Ix e (wrap .i64 (f+1))) 1) (Ix g 1)))))))) none)
def KG:=(Ae (@yq R)).1
theorem v5:@KG R=@yq R:=(Ae _).2
def Ba3:Dg:=[(52,Q6 N)]
def Adk (F:KF R):Int→Int→O R:=(fun i l=>F (.tup [(iv i),(iv l)]) [])
theorem Adl (b:LA) (c:Bool) (F:KF R):Cd (Ba3 N) C6 N 165 [(.pagg b c)] [] F=(KG N b c (Adk F)):=by
 rw[v5]
 kernel_rfl
def v6 (a:LA) (h:Ak) (k:KF R):O R :=
 match a,h with
 | [(.pagg b c)],[]=>(KG N b c (Adk k))
 | _,_=>none
theorem Adm:An N 165 @v6:=by
 intro R Q a h k j;unfold v6;split;exact Ax (Adl ..) (Adl ..) ⟨Q8 N,trivial⟩;exact Az
def jM:=Ay (Adm N)
def jN:=Ca (Adm N)
def ZP (b:LA) (c:Bool) (r0:LA→O R):O R :=
 (cond (Nat.ble 22 (b.length)) (Lg N (b.take 22) c (fun e=>(cond (!e) (r0 [(.int .i64 0),(.int .i64 0)]) (cond (Nat.ble 22 (b.length)) (KG N (b.take 22) c (fun f g=>(Ao .i64 (b.drop 19) fun d=>(cond (d==0) (Ao .i64 (b.drop 20) fun i=>(r0 [(.int .i64 0),(.int .i64 (By i f))])) (cond (d==2) (Ao .i64 (b.drop 20) fun l=>(r0 [(.int .i64 2),(.int .i64 (By l g))])) (Ao .i64 (b.drop 20) fun m=>(r0 [(.int .i64 1),(.int .i64 m)]))))))) none)))) none)
def L5:=(Ae (@ZP R)).1
theorem dW:@L5 R=@ZP R:=(Ae _).2
def Atv:Dg:=[(52,Q6 N),(165,jM N)]
def jO (F:KF R):LA→O R:=(fun n=>F (.pagg n false) [])
theorem jP (b:LA) (c:Bool) (F:KF R):Cd (Atv N) Lu N 113 [(.pagg b c)] [] F=(L5 N b c (jO F)):=by
 rw[dW]
 kernel_rfl
def dX (a:LA) (h:Ak) (k:KF R):O R :=
 match a,h with
 | [(.pagg b c)],[]=>(L5 N b c (jO k))
 | _,_=>none
theorem jQ:An N 113 @dX:=by
 intro R Q a h k j;unfold dX;split;exact Ax (jP ..) (jP ..) ⟨Q8 N,jN N,trivial⟩;exact Az
def Ws:=Ay (jQ N)
def Wt:=Ca (jQ N)
def Wu (N:Nat) (r0:Nat→LA→O R) (b:Int) (k2:Nat→Int→LA→O R) (f:Nat) (o:Int) (q:LA):O R :=
 (cond (decide (o≤b)) (cond ((Nat.ble (f+1) 140737488355328)&&(Nat.ble ((f+1)*16) 140737488355328)) (k2 (f+1) (wrap .i64 (o+1)) ((q.take (f*2))++[(.int .i64 2),(.int .i64 o)])) none) (r0 f q))
def Oh (r0:Nat→LA→O R) (b:Int):Nat→Nat→Int→LA→O R
 | 0,_,_,_=>none
 | n+1,f,o,q=>(Wu N r0 b (Oh r0 b n) f o q)
def Wv (N:Nat) (r0:Nat→LA→O R) (b:Int) (d:Bool) (c:LA) (k1:Nat→Int→LA→O R) (q2:Nat→Int→LA→O R) (g:Nat) (p:Int) (r:LA):O R :=
 (Ao .i64 (c.drop 12) fun s=>(cond (decide (p≤s)) (cond ((Nat.ble (g+1) 140737488355328)&&(Nat.ble ((g+1)*16) 140737488355328)) (k1 (g+1) (wrap .i64 (p+1)) ((r.take (g*2))++[(.int .i64 1),(.int .i64 p)])) none) (q2 g 1 r)))
def Oi (r0:Nat→LA→O R) (b:Int) (d:Bool) (c:LA):Nat→Nat→Int→LA→O R
 | 0,_,_,_=>none
 | n+1,g,p,r=>(Wv N r0 b d c (Oi r0 b d c n) (fun f o q=>(Oh N r0 b N f o q)) g p r)
def Ww (N:Nat) (r0:Nat→LA→O R) (l b:Int) (d:Bool) (c:LA) (k0:Nat→Int→LA→O R) (q1:Nat→Int→LA→O R) (e:Nat) (i:Int) (m:LA):O R :=
 (cond (decide (i≤l)) (cond ((Nat.ble (e+1) 140737488355328)&&(Nat.ble ((e+1)*16) 140737488355328)) (k0 (e+1) (wrap .i64 (i+1)) ((m.take (e*2))++[(.int .i64 0),(.int .i64 i)])) none) (q1 e 1 m))
def Ki (r0:Nat→LA→O R) (l b:Int) (d:Bool) (c:LA):Nat→Nat→Int→LA→O R
 | 0,_,_,_=>none
 | n+1,e,i,m=>(Ww N r0 l b d c (Ki r0 l b d c n) (fun g p r=>(Oi N r0 b d c N g p r)) e i m)
def PF (r0:Nat→LA→O R) (q0:Int→Int→Nat→Int→LA→O R) (c:LA) (d:Bool):O R :=
 (cond (Nat.ble 22 (c.length)) (KG N (c.take 22) d (fun l b=>(cond (Nat.ble 22 (c.length)) (Lg N (c.take 22) d (fun t=>(cond (!t) (r0 0 []) (q0 l b 0 1 [])))) none))) none)
def Yt:=(Ae (fun (N:Nat) (c:LA) (d:Bool) (r0:Nat→LA→O R)=>(PF N r0 (fun l b e i m=>(Ki N r0 l b d c N e i m)) c d))).1
theorem jR (c d r0):(@Yt R N c d r0)=(PF N r0 (fun l b e i m=>(Ki N r0 l b d c N e i m)) c d):=by rw[Yt,(Ae _).2]
def pH:Hints:={ H:=(hS hL (hS hL (hS hL (hS hL (hS (hS hL (hS (hP [1,3,4,5,6] hL) hL)) (hS (hS hL (hS (hP [1,3,5,7] hL) hL)) (hS (hS hL (hS (hP [3,5,8] hL) hL)) hL))))))),nils:=[(2,2),(3,2)],modes:=[(2,2)] }
def v7:Dg:=[(165,jM N),(52,Q6 N)]
def QW (F:KF R):=Hp Tryz.f199 pH (v7 N) [] N F
def Gf (F:KF R):Nat→LA→O R:=(fun u v=>F (.own 300000 0 u) (hq [(bQ 2 v)]))
def Atw (b:Int) (f:Nat) (o:Int) (q:LA):St:=⟨[(3,(.own 300000 0 f)),(5,(iv b)),(8,(iv o))],(hq [(bQ 2 q)])⟩
def Atx (F:KF R):=QW N F [1,1,1,1,1,1,0,1,0] []
def Aty (b:Int) (d:Bool) (c:LA) (g:Nat) (p:Int) (r:LA):St:=⟨[(1,(op 0)),(3,(.own 300001 0 g)),(5,(iv b)),(7,(iv p))],(hq [(bP d 0 c),(bQ 2 r)])⟩
def Atz (F:KF R):=QW N F [1,1,1,1,1,0,1,0] []
def At0 (l b:Int) (d:Bool) (c:LA) (e:Nat) (i:Int) (m:LA):St:=⟨[(1,(op 0)),(3,(.own 300001 0 e)),(4,(iv l)),(5,(iv b)),(6,(iv i))],(hq [(bP d 0 c),(bQ 2 m)])⟩
def At1 (F:KF R):=QW N F [1,1,1,1,0,1,0] []
theorem VA (F:KF R) (b:Int):∀ (n f:Nat) (o:Int) (q:LA),Ap (Atx N F) n (Atw b f o q)=(Oh N (Gf F) b n f o q)
 | 0,_,_,_=>by kernel_rfl
 | n+1,f,o,q=>Eq.trans (by kernel_rfl) (Bm (Wu N (Gf F) b · f o q) (funext fun f=>funext fun o=>funext fun q=>(VA F b n f o q)):_)
theorem VB (F:KF R) (b:Int) (d:Bool) (c:LA):∀ (n g:Nat) (p:Int) (r:LA),Ap (Atz N F) n (Aty b d c g p r)=(Oi N (Gf F) b d c n g p r)
 | 0,_,_,_=>by kernel_rfl
 | n+1,g,p,r=>Eq.trans (by kernel_rfl) (fQ (Wv N (Gf F) b d c · · g p r) (funext fun g=>funext fun p=>funext fun r=>(VB F b d c n g p r)) (funext fun f=>funext fun o=>funext fun q=>(Ai ..).trans (VA N F b N f o q)):_)
theorem VC (F:KF R) (l b:Int) (d:Bool) (c:LA):∀ (n e:Nat) (i:Int) (m:LA),Ap (At1 N F) n (At0 l b d c e i m)=(Ki N (Gf F) l b d c n e i m)
 | 0,_,_,_=>by kernel_rfl
 | n+1,e,i,m=>Eq.trans (by kernel_rfl) (fQ (Ww N (Gf F) l b d c · · e i m) (funext fun e=>funext fun i=>funext fun m=>(VC F l b d c n e i m)) (funext fun g=>funext fun p=>funext fun r=>(Ai ..).trans (VB N F b d c N g p r)):_)
theorem pI (c:LA) (d:Bool) (F:KF R):Cd (v7 N) pH N 199 [(.pagg c d)] [] F=(Yt N c d (Gf F)):=by
 rw[jR]
 exact Eq.trans (by kernel_rfl) (Bm (PF N (Gf F) · c d) (funext fun l=>funext fun b=>funext fun e=>funext fun i=>funext fun m=>(Ai ..).trans (VC N F l b d c N e i m)):_)
def jS (a:LA) (h:Ak) (k:KF R):O R :=
 match a,h with
 | [(.pagg c d)],[]=>(Yt N c d (Gf k))
 | _,_=>none
theorem pJ:An N 199 @jS:=by
 intro R Q a h k j;unfold jS;split;exact Ax (pI ..) (pI ..) ⟨jN N,Q8 N,trivial⟩;exact Az
def At2:=Ay (pJ N)
def At3:=Ca (pJ N)
def Rj (N:Nat) (r0:Int→O R) (f:Nat) (c:Bool) (b e:LA) (k0:Int→O R) (d:Int):O R :=
 (cond (decide (d<((f:Nat):Int))) (cond (Ac d f) (cond (Nat.ble 2 ((e.drop (0+((d.toNat)*2))).length)) (cond (Nat.ble 2 (b.length)) (cond ((!c)||(A8 (b.take 2))) (cond ((Nat.ble 1 2)&&((Nat.beq (((e.drop (0+((d.toNat)*2))).take 2).length) 2)&&((Nat.beq ((b.take 2).length) 2)&&(true&&(!false))))) (Ao .i64 ((e.drop (0+((d.toNat)*2))).take 2) fun l=>(Ao .i64 (b.take 2) fun m=>(Ao .i64 (((e.drop (0+((d.toNat)*2))).take 2).drop 1) fun o=>(Ao .i64 ((b.take 2).drop 1) fun p=>(cond ((l==m)&&((o==p)&&true)) (r0 d) (k0 (wrap .i64 (d+1)))))))) none) none) none) none) none) (r0 (-1)))
def G5 (r0:Int→O R) (f:Nat) (c:Bool) (b e:LA):Nat→Int→O R
 | 0,_=>none
 | n+1,d=>(Rj N r0 f c b e (G5 r0 f c b e n) d)
def Z2 (r0:Int→O R) (q0:Nat→LA→Int→O R) (g:LA) (i:Bool) (b:LA) (c:Bool):O R :=
 (cond (Nat.ble 22 (g.length)) (Yt N (g.take 22) i (fun f e=>(q0 f e 0))) none)
def Wx:=(Ae (fun (N:Nat) (g:LA) (i:Bool) (b:LA) (c:Bool) (r0:Int→O R)=>(Z2 N r0 (fun f e d=>(G5 N r0 f c b e N d)) g i b c))).1
theorem VD (g i b c r0):(@Wx R N g i b c r0)=(Z2 N r0 (fun f e d=>(G5 N r0 f c b e N d)) g i b c):=by rw[Wx,(Ae _).2]
def dY:Hints:={ H:=(hS hL (hS hL (hS (hS hL (hS (hP [3,5,6] hL) hL)) hL))) }
def jT:Dg:=[(199,At2 N)]
def Agm (F:KF R):=Hp Tryz.f193 dY (jT N) [] N F
def N2 (F:KF R):Int→O R:=(fun q=>F (iv q) [])
def Agn (f:Nat) (c:Bool) (b e:LA) (d:Int):St:=⟨[(3,(op 0)),(5,(.own 300001 0 f)),(6,(iv d))],(hq [(bP c 0 b),(bQ 2 e)])⟩
def Ago (F:KF R):=Agm N F [1,1,0,1,0] []
theorem KH (F:KF R) (f:Nat) (c:Bool) (b e:LA):∀ (n:Nat) (d:Int),Ap (Ago N F) n (Agn f c b e d)=(G5 N (N2 F) f c b e n d)
 | 0,_=>by kernel_rfl
 | n+1,d=>Eq.trans (by kernel_rfl) (Bm (Rj N (N2 F) f c b e · d) (funext fun d=>(KH F f c b e n d)):_)
theorem dZ (g:LA) (i:Bool) (b:LA) (c:Bool) (F:KF R):Cd (jT N) dY N 193 [(.pagg g i),(.pagg b c)] [] F=(Wx N g i b c (N2 F)):=by
 rw[VD]
 exact Eq.trans (by kernel_rfl) (Bm (Z2 N (N2 F) · g i b c) (funext fun f=>funext fun e=>funext fun d=>(Ai ..).trans (KH N F f c b e N d)):_)
def VE (a:LA) (h:Ak) (k:KF R):O R :=
 match a,h with
 | [(.pagg g i),(.pagg b c)],[]=>(Wx N g i b c (N2 k))
 | _,_=>none
theorem d5:An N 193 @VE:=by
 intro R Q a h k j;unfold VE;split;exact Ax (dZ ..) (dZ ..) ⟨At3 N,trivial⟩;exact Az
def Agp:=Ay (d5 N)
def Agq:=Ca (d5 N)
def A14 (c:LA) (d:Bool) (b:LA) (e:Bool) (r0:Bool→O R):O R :=
 (cond (Nat.ble 22 (c.length)) (cond (Nat.ble 2 (b.length)) (cond ((!e)||(A8 (b.take 2))) (Wx N (c.take 22) d (b.take 2) false (fun f=>(r0 (decide (f≥0))))) none) none) none)
def Ap6:=(Ae (@A14 R)).1
theorem Ap7:@Ap6 R=@A14 R:=(Ae _).2
def Bid:Dg:=[(193,Agp N)]
def Axs (F:KF R):Bool→O R:=(fun g=>F (.bool g) [])
theorem Axt (c:LA) (d:Bool) (b:LA) (e:Bool) (F:KF R):Cd (Bid N) C6 N 166 [(.pagg c d),(.pagg b e)] [] F=(Ap6 N c d b e (Axs F)):=by
 rw[Ap7]
 kernel_rfl
def Ap8 (a:LA) (h:Ak) (k:KF R):O R :=
 match a,h with
 | [(.pagg c d),(.pagg b e)],[]=>(Ap6 N c d b e (Axs k))
 | _,_=>none
theorem Axu:An N 166 @Ap8:=by
 intro R Q a h k j;unfold Ap8;split;exact Ax (Axt ..) (Axt ..) ⟨Agq N,trivial⟩;exact Az
def Bf3:=Ay (Axu N)
def Bf4:=Ca (Axu N)
def yr (c:LA) (d:Bool) (b:LA) (e:Bool) (r0:Nat→LA→O R):O R :=
 (cond (Nat.ble 22 (c.length)) (cond (Nat.ble 2 (b.length)) (cond ((!e)||(A8 (b.take 2))) (Ap6 N (c.take 22) d (b.take 2) false (fun n=>(cond (!n) (r0 0 []) (cond (Nat.ble 22 (c.length)) (KG N (c.take 22) d (fun f i=>(Ao .i64 b fun l=>(cond (l==0) (Ao .i64 (b.drop 1) fun g=>(Ao .i64 (b.drop 1) fun o=>(Ao .i64 (c.drop 11) fun p=>(cond (decide (o<p)) (r0 1 [(.int .i64 0),(.int .i64 (By (wrap .i64 (g+1)) f))]) (Ao .i64 (c.drop 12) fun q=>(cond (decide (q>0)) (r0 2 [(.int .i64 0),(.int .i64 (By (wrap .i64 (g+1)) f)),(.int .i64 1),(.int .i64 1)]) (r0 2 [(.int .i64 0),(.int .i64 (By (wrap .i64 (g+1)) f)),(.int .i64 2),(.int .i64 1)]))))))) (cond (l==1) (Ao .i64 (b.drop 1) fun r=>(Ao .i64 (c.drop 12) fun s=>(cond (decide (r<s)) (Ao .i64 (b.drop 1) fun t=>(r0 1 [(.int .i64 1),(.int .i64 (wrap .i64 (t+1)))])) (r0 1 [(.int .i64 2),(.int .i64 1)])))) (Ao .i64 (b.drop 1) fun m=>(Ao .i64 (b.drop 1) fun u=>(Ao .i64 (c.drop 10) fun v=>(cond (decide (u≥v)) (r0 2 [(.int .i64 0),(.int .i64 1),(.int .i64 2),(.int .i64 (By (wrap .i64 (m+1)) i))]) (r0 1 [(.int .i64 2),(.int .i64 (By (wrap .i64 (m+1)) i))])))))))))) none)))) none) none) none)
def KI:=(Ae (@yr R)).1
theorem v8:@KI R=@yr R:=(Ae _).2
def A6f:Hints:={ H:=hL,nils:=[(4,2)],modes:=[(2,2)] }
def Ba4:Dg:=[(166,Bf3 N),(165,jM N)]
def Adn (F:KF R):Nat→LA→O R:=(fun w x=>F (.own 300000 0 w) (hq [(bQ 2 x)]))
theorem Ado (c:LA) (d:Bool) (b:LA) (e:Bool) (F:KF R):Cd (Ba4 N) A6f N 114 [(.pagg c d),(.pagg b e)] [] F=(KI N c d b e (Adn F)):=by
 rw[v8]
 kernel_rfl
def v9 (a:LA) (h:Ak) (k:KF R):O R :=
 match a,h with
 | [(.pagg c d),(.pagg b e)],[]=>(KI N c d b e (Adn k))
 | _,_=>none
theorem Adp:An N 114 @v9:=by
 intro R Q a h k j;unfold v9;split;exact Ax (Ado ..) (Ado ..) ⟨Bf4 N,jN N,trivial⟩;exact Az
def jU:=Ay (Adp N)
def jV:=Ca (Adp N)
def ZQ (c:LA) (d:Bool) (e b:Int) (r0:Bool→O R):O R :=
 (cond ((b==0)==false) (cond ((b==1)==false) (cond ((cond false true (b==2))==true) (B9 1 (c.drop 18) fun f g=>(qU N f g false d e (fun i=>(r0 (cond false true (cond true (!i) false)))))) (r0 false)) (B9 1 (c.drop 18) fun l m=>(qU N l m false d e (fun n=>(r0 (cond false true (cond true (!n) false))))))) (r0 true))
def Vg:=(Ae (@ZQ R)).1
theorem d6:@Vg R=@ZQ R:=(Ae _).2
def At4:Dg:=[(45,Beb N)]
def jW (F:KF R):Bool→O R:=(fun o=>F (.bool o) [])
theorem jX (c:LA) (d:Bool) (e b:Int) (F:KF R):Cd (At4 N) C6 N 115 [(.pagg c d),(iv e),(iv b)] [] F=(Vg N c d e b (jW F)):=by
 rw[d6]
 kernel_rfl
def d7 (a:LA) (h:Ak) (k:KF R):O R :=
 match a,h with
 | [(.pagg c d),(.int .i64 e),(.int .i64 b)],[]=>(Vg N c d e b (jW k))
 | _,_=>none
theorem jY:An N 115 @d7:=by
 intro R Q a h k j;unfold d7;split;exact Ax (jX ..) (jX ..) ⟨Bec N,trivial⟩;exact Az
def jZ:=Ay (jY N)
def j0:=Ca (jY N)
def FU (r0:LA→Bool→O R) (f c:Int) (i:Nat) (d:Bool) (b g:LA) (k0:Int→O R) (e:Int):O R :=
 (cond (decide (e<((i:Nat):Int))) (cond (Ac e i) (Ao .i64 (g.drop (0+((e.toNat)*2))) fun o=>(cond ((o==c)==true) (cond (Nat.ble 22 (b.length)) (Vg N (b.take 22) d f c (fun p=>(cond (cond true p false) (cond (Ac e i) (cond (Nat.ble 2 ((g.drop (0+((e.toNat)*2))).length)) (cond ((Nat.beq (((g.drop (0+((e.toNat)*2))).take 2).length) 2)&&((Nat.ble 2 2)&&(!false))) (cond (Nat.ble 2 ((setCells [(.int .i64 0),(.int .i64 0)] 0 ((g.drop (0+((e.toNat)*2))).take 2)).length)) (r0 ((setCells [(.int .i64 0),(.int .i64 0)] 0 ((g.drop (0+((e.toNat)*2))).take 2)).take 2) true) none) none) none) none) (k0 (wrap .i64 (e+1)))))) none) (k0 (wrap .i64 (e+1))))) none) (r0 [(.int .i64 0),(.int .i64 0)] false))
def Qc (r0:LA→Bool→O R) (f c:Int) (i:Nat) (d:Bool) (b g:LA):Nat→Int→O R
 | 0,_=>none
 | n+1,e=>(FU N r0 f c i d b g (Qc r0 f c i d b g n) e)
def lK (r0:LA→Bool→O R) (q0:Nat→LA→Int→O R) (b:LA) (d:Bool) (f:Int) (l:LA) (m:Bool) (c:Int):O R :=
 (cond (Nat.ble 22 (b.length)) (cond (Nat.ble 2 (l.length)) (cond ((!m)||(A8 (l.take 2))) (KI N (b.take 22) d (l.take 2) false (fun i g=>(q0 i g 0))) none) none) none)
def KJ:=(Ae (fun (N:Nat) (b:LA) (d:Bool) (f:Int) (l:LA) (m:Bool) (c:Int) (r0:LA→Bool→O R)=>(lK N r0 (fun i g e=>(Qc N r0 f c i d b g N e)) b d f l m c))).1
theorem v_ (b d f l m c r0):(@KJ R N b d f l m c r0)=(lK N r0 (fun i g e=>(Qc N r0 f c i d b g N e)) b d f l m c):=by rw[KJ,(Ae _).2]
def Adq:Hints:={ H:=(hS hL (hS hL (hS (hS hL (hS (hP [1,3,4,8,10,11] hL) hL)) hL))),modes:=[(3,0),(0,0)] }
def Ap9:Dg:=[(114,jU N),(115,jZ N)]
def A6g (F:KF R):=Hp Tryz.f121 Adq (Ap9 N) [] N F
def BQ (F:KF R):LA→Bool→O R:=(fun q r=>F (.tup [(.pagg q false),(.bool r)]) [])
def A6h (f c:Int) (i:Nat) (d:Bool) (b g:LA) (e:Int):St:=⟨[(1,(iv f)),(3,(iv c)),(4,(op 0)),(8,(op 1)),(10,(.own 300002 0 i)),(11,(iv e))],(hq [(bP d 0 b),(bQ 0 [(iv 0),(iv 0)]),(bQ 2 g)])⟩
def A6i (F:KF R):=A6g N F [1,1,0,1,0] []
theorem j1 (F:KF R) (f c:Int) (i:Nat) (d:Bool) (b g:LA):∀ (n:Nat) (e:Int),Ap (A6i N F) n (A6h f c i d b g e)=(Qc N (BQ F) f c i d b g n e)
 | 0,_=>by kernel_rfl
 | n+1,e=>Eq.trans (by kernel_rfl) (Bm (FU N (BQ F) f c i d b g · e) (funext fun e=>(j1 F f c i d b g n e)):_)
theorem Adr (b:LA) (d:Bool) (f:Int) (l:LA) (m:Bool) (c:Int) (F:KF R):Cd (Ap9 N) Adq N 121 [(.pagg b d),(iv f),(.pagg l m),(iv c)] [] F=(KJ N b d f l m c (BQ F)):=by
 rw[v_]
 exact Eq.trans (by kernel_rfl) (Bm (lK N (BQ F) · b d f l m c) (funext fun i=>funext fun g=>funext fun e=>(Ai ..).trans (j1 N F f c i d b g N e)):_)
def va (a:LA) (h:Ak) (k:KF R):O R :=
 match a,h with
 | [(.pagg b d),(.int .i64 f),(.pagg l m),(.int .i64 c)],[]=>(KJ N b d f l m c (BQ k))
 | _,_=>none
theorem Ads:An N 121 @va:=by
 intro R Q a h k j;unfold va;split;exact Ax (Adr ..) (Adr ..) ⟨jV N,j0 N,trivial⟩;exact Az
def Adt:=Ay (Ads N)
def Adu:=Ca (Ads N)
def j2 (d:LA) (i:Bool) (e:LA) (c:Bool) (b:Int) (r0:Bool→O R):O R :=
 (B9 3 (e.drop 1) fun f l=>(cond (Ac b l) (cond (Nat.ble 3 ((f.drop ((b.toNat)*3)).length)) (B9 3 (e.drop 2) fun g m=>(cond (Ac b m) (cond (Nat.ble 3 ((g.drop ((b.toNat)*3)).length)) (cond ((Nat.beq 0 0)&&((Nat.beq (((f.drop ((b.toNat)*3)).take 3).length) 3)&&(Nat.beq 3 3))) (cond ((Nat.beq 0 0)&&((Nat.beq (((g.drop ((b.toNat)*3)).take 3).length) 3)&&(Nat.beq 3 3))) (B9 1 e fun n o=>(cond (Ac b o) (Ao .i64 (n.drop ((b.toNat)*1)) fun p=>(cond (p != 2) (cond (Nat.ble 3 (((f.drop ((b.toNat)*3)).take 3).length)) (AR N (((f.drop ((b.toNat)*3)).take 3).take 3) c (fun q=>(cond ((q==0)==true) (cond (Nat.ble 3 (((g.drop ((b.toNat)*3)).take 3).length)) (AR N (((g.drop ((b.toNat)*3)).take 3).take 3) c (fun r=>(r0 (cond true (r==0) false)))) none) (r0 false)))) none) (cond (Nat.ble 3 (((f.drop ((b.toNat)*3)).take 3).length)) (Ao .i64 (d.drop 2) fun s=>(Be N s (fun t=>(Cn N (((f.drop ((b.toNat)*3)).take 3).take 3) c t false (fun u=>(cond ((decide (u≥0))==true) (cond (Nat.ble 3 (((g.drop ((b.toNat)*3)).take 3).length)) (Ao .i64 (d.drop 16) fun v=>(JN N (((g.drop ((b.toNat)*3)).take 3).take 3) c 0 v (fun w=>(cond ((cond true w false)==true) (cond (Nat.ble 3 (((f.drop ((b.toNat)*3)).take 3).length)) (cond (Nat.ble 3 (((g.drop ((b.toNat)*3)).take 3).length)) (Kq N (((f.drop ((b.toNat)*3)).take 3).take 3) c (((g.drop ((b.toNat)*3)).take 3).take 3) c (fun x=>(Ao .i64 (d.drop 3) fun y=>(Be N y (fun z=>(Cn N x false z false (fun aa=>(r0 (cond true (decide (aa≤0)) false))))))))) none) none) (r0 false))))) none) (r0 false))))))) none))) none)) none) none) none) none)) none) none))
def KK:=(Ae (@j2 R)).1
theorem j3:@KK R=@j2 R:=(Ae _).2
def A15:Dg:=[(34,Ab8 N),(20,Gj N),(25,Ld N),(36,Atc N),(32,Pk N)]
def pK (F:KF R):Bool→O R:=(fun ab=>F (.bool ab) [])
theorem pL (d:LA) (i:Bool) (e:LA) (c:Bool) (b:Int) (F:KF R):Cd (A15 N) C6 N 126 [(.pagg d i),(.pagg e c),(iv b)] [] F=(KK N d i e c b (pK F)):=by
 rw[j3]
 kernel_rfl
def j4 (a:LA) (h:Ak) (k:KF R):O R :=
 match a,h with
 | [(.pagg d i),(.pagg e c),(.int .i64 b)],[]=>(KK N d i e c b (pK k))
 | _,_=>none
theorem pM:An N 126 @j4:=by
 intro R Q a h k j;unfold j4;split;exact Ax (pL ..) (pL ..) ⟨Ab9 N,Gk N,Le N,Atd N,Pl N,trivial⟩;exact Az
def At5:=Ay (pM N)
def At6:=Ca (pM N)
def j5 (c:LA) (f:Bool) (d:LA) (e:Bool) (b:Int) (r0:Bool→LA→Bool→O R):O R :=
 (cond (b==0) (Ao .i64 (c.drop 19) fun l=>(Ao .i64 (c.drop 21) fun m=>(Be N m (fun i=>(cond ((Nat.beq 0 0)&&((Nat.beq (i.length) 3)&&(Nat.beq 3 3))) (cond (Nat.ble 3 (i.length)) (r0 (l==2) (i.take 3) false) none) none))))) (B9 1 d fun n o=>(cond (Ac (wrap .i64 (b - 1)) o) (Ao .i64 (n.drop (((wrap .i64 (b - 1)).toNat)*1)) fun p=>(B9 3 (d.drop 1) fun g q=>(cond (Ac (wrap .i64 (b - 1)) q) (cond (Nat.ble 3 ((g.drop (((wrap .i64 (b - 1)).toNat)*3)).length)) (cond ((Nat.beq 0 0)&&((Nat.beq (((g.drop (((wrap .i64 (b - 1)).toNat)*3)).take 3).length) 3)&&(Nat.beq 3 3))) (cond (Nat.ble 3 (((g.drop (((wrap .i64 (b - 1)).toNat)*3)).take 3).length)) (r0 (p==2) (((g.drop (((wrap .i64 (b - 1)).toNat)*3)).take 3).take 3) e) none) none) none) none))) none)))
def KL:=(Ae (@j5 R)).1
theorem j6:@KL R=@j5 R:=(Ae _).2
def At7:Hints:={ H:=hL,modes:=[(0,0),(3,0)] }
def A16:Dg:=[(20,Gj N)]
def pN (F:KF R):Bool→LA→Bool→O R:=(fun r s t=>F (.tup [(.bool r),(.pagg s t)]) [])
theorem pO (c:LA) (f:Bool) (d:LA) (e:Bool) (b:Int) (F:KF R):Cd (A16 N) At7 N 169 [(.pagg c f),(.pagg d e),(iv b)] [] F=(KL N c f d e b (pN F)):=by
 rw[j6]
 kernel_rfl
def j7 (a:LA) (h:Ak) (k:KF R):O R :=
 match a,h with
 | [(.pagg c f),(.pagg d e),(.int .i64 b)],[]=>(KL N c f d e b (pN k))
 | _,_=>none
theorem pP:An N 169 @j7:=by
 intro R Q a h k j;unfold j7;split;exact Ax (pO ..) (pO ..) ⟨Gk N,trivial⟩;exact Az
def At8:=Ay (pP N)
def At9:=Ca (pP N)
end
end Gx

namespace Gx
open Go Go.Proofs
section
variable {R:Type}
structure StD where
 k:Int
 h:Int
def StD.av (s:StD):LA:=[.int .i64 s.k,.int .i64 s.h]
def Kj (u:UnitD):Int:=Ix (Ix u.downTime (u.hotHours+1)) 1
def KM (u:UnitD):Int:=Ix u.upTime 1
def Gv (u:UnitD) (s:StD):List StD :=
 cond (s.k==0) (⟨0,By (s.h+1) (Kj u)⟩::cond (decide (s.h<u.downTime)) [] (cond (decide (u.startTime>0)) [⟨1,1⟩] [⟨2,1⟩]))
  (cond (s.k==1) (cond (decide (s.h<u.startTime)) [⟨1,s.h+1⟩] [⟨2,1⟩]) (cond (decide (s.h≥u.upTime)) [⟨0,1⟩,⟨2,By (s.h+1) (KM u)⟩] [⟨2,By (s.h+1) (KM u)⟩]))
def Sa (u:UnitD) (s:StD):Prop:=1≤s.h∧((s.k=0∧s.h≤Kj u)∨(s.k=1∧s.h≤u.startTime)∨(s.k=2∧s.h≤KM u))
theorem Jx (a b:Int):By a b=min a b:=by unfold By;by_cases h:b<a<;>simp[h]<;>omega
theorem Tu (a b:Int):Ix a b=max a b:=by unfold Ix;by_cases h:b>a<;>simp[h]<;>omega
theorem Rk {u:UnitD} (h:Cq u=true):(0≤u.upTime∧u.upTime≤24)∧(0≤u.downTime∧u.downTime≤24)∧(0≤u.startTime∧u.startTime≤24)∧(0≤u.hotHours∧u.hotHours≤24)∧(u.state=0∨u.state=1∨u.state=2)∧(1≤u.hours∧u.hours≤48)∧(u.state=1→u.hours≤u.startTime):=by
 simp[Cq,Ft] at h;omega
theorem ZR {u:UnitD} (h:Cq u=true):1≤Kj u∧Kj u≤25∧1≤KM u∧KM u≤24:=by
 have:=Rk h
 simp only[Kj,KM,Tu];omega
theorem yu {u:UnitD} {s:StD} (h:Cq u=true) (hs:Sa u s):1≤s.h∧s.h≤25∧(s.k=0∨s.k=1∨s.k=2):=by
 have:=Rk h;have:=ZR h;unfold Sa at hs;omega
theorem j8 {u:UnitD} {s:StD} (h:Cq u=true) (hs:Sa u s):∀ t ∈ Gv u s,Sa u t:=by
 intro t k
 have I:=Rk h;have L:=ZR h;have F:=yu h hs
 have G:KM u=max u.upTime 1:=by rw[KM,Tu]
 unfold Sa at hs ⊢
 unfold Gv at k
 rcases F.2.2 with D | D | D<;>simp only[D,Jx] at k hs
 ·by_cases C:s.h<u.downTime<;>by_cases hq:u.startTime>0<;>simp[C,hq] at k<;>first | (subst k;simp;omega) | (rcases k with rfl | rfl<;>simp<;>omega)
 ·by_cases C:s.h<u.startTime<;>simp[C] at k<;>(subst k;simp;omega)
 ·by_cases C:u.upTime≤s.h<;>simp[C] at k<;>first | (subst k;simp;omega) | (rcases k with rfl | rfl<;>simp<;>omega)
theorem VF {u:UnitD} {s:StD}:(Gv u s).length≤2:=by
 unfold Gv
 cases (s.k==0)<;>cases (s.k==1)<;>cases decide (s.h<u.downTime)<;>cases decide (u.startTime>0)<;>cases decide (s.h<u.startTime)<;>cases decide (s.h≥u.upTime)<;>simp
theorem d8 {s:StD} {f:Int→O R}:Ao .i64 s.av f=f s.k:=A1
theorem KN {s:StD} {f:Int→O R}:Ao .i64 (List.drop 1 s.av) f=f s.h:=A1
theorem eh (s:StD):Nat.ble 2 (List.length s.av)=true:=rfl
theorem Agr (s:StD):List.take 2 s.av=s.av:=rfl
theorem Axv (s t:StD):setCells s.av 0 t.av=t.av:=rfl
theorem Bgm (t:StD):setCells [(.int .i64 0),(.int .i64 0)] 0 t.av=t.av:=rfl
theorem ZS {N:Nat} {u:UnitD} {o:Bool} {K:Int→Int→O R} (hN:64≤N) (hs:Cq u=true):NZ N u.av o K=K (Kj u) (KM u):=by
 rw[gk];unfold uG
 have k:=Rk hs
 rw[Cl,ct,Bg,Od hN,hs,show(!true)=false from rfl,cf,Blm,Bmo,Bmn,i64 (by omega)];rfl
theorem QX {N:Nat} {u:UnitD} {o:Bool} {K:Int→Int→O R} (hs:Cq u=true):KG N u.av o K=K (Kj u) (KM u):=by
 rw[v5];unfold yq
 have k:=Rk hs
 rw[Cl,ct,Bg,Lh,hs,show(!true)=false from rfl,cf,Blm,Bmo,Bmn,i64 (by omega)];rfl
def Br (u:UnitD):StD:=⟨u.state,cond (u.state==0) (By u.hours (Kj u)) (cond (u.state==2) (By u.hours (KM u)) u.hours)⟩
theorem Rl {u:UnitD} (h:Cq u=true):Sa u (Br u):=by
 have C:=Rk h;have D:=ZR h
 unfold Sa Br
 rcases C.2.2.2.2.1 with k | k | k<;>simp only[k,Jx]<;>simp<;>omega
theorem d9 {N:Nat} {u:UnitD} {o:Bool} {K:LA→O R} (hN:64≤N) (hs:Cq u=true):Ub N u.av o K=K (Br u).av:=by
 rw[JE];unfold N_
 rw[Cl,ct,Bg,Od hN,hs,show(!true)=false from rfl,cf,ct,ZS hN hs,Bff,Bnl]
 unfold Br
 cases (u.state==0)<;>cases (u.state==2)<;>rfl
theorem Rm {N:Nat} {u:UnitD} {o:Bool} {K:LA→O R} (hs:Cq u=true):L5 N u.av o K=K (Br u).av:=by
 rw[dW];unfold ZP
 rw[Cl,ct,Bg,Lh,hs,show(!true)=false from rfl,cf,ct,QX hs,Bff]
 have C:=Rk hs
 simp only[Bnl]
 unfold Br
 rcases C.2.2.2.2.1 with k | k | k<;>rw[k]<;>rfl
theorem yv {N:Nat} {u:UnitD} {s:StD} {o o':Bool} (hN:64≤N) (hs:Cq u=true) (C:Sa u s):∃ p:Int,0≤p∧∀ K:Int→O R,Lz N u.av o s.av o' K=K p:=by
 have I:=Rk hs;have L:=ZR hs;have F:=yu hs C
 have key:∀ K:Int→O R,Lz N u.av o s.av o' K=K (cond (s.k==0) (s.h - 1) (cond (s.k==1) (Kj u+s.h - 1) (Kj u+u.startTime+s.h - 1))):=by
  intro K
  rw[CM];unfold V9
  rw[Cl,ct,Bg,Od hN,hs,show((!true)==false)=true from rfl,ct,KN,show decide (s.h<1)=false by simp;omega,Bmw,cf]
  unfold Po Tm
  rw[Cl,ct,Bg,ZS hN hs,d8]
  unfold JG CL JF
  simp only[d8,KN,Bkt]
  unfold Sa at C
  have e1:IntKind.wrap .i64 (s.h - 1)=s.h - 1:=i64 (by omega)
  have G:IntKind.wrap .i64 (IntKind.wrap .i64 (Kj u+s.h) - 1)=Kj u+s.h - 1:=by rw[i64 (a:=Kj u+s.h) (by omega),i64 (by omega)]
  have e3:IntKind.wrap .i64 (IntKind.wrap .i64 (IntKind.wrap .i64 (Kj u+u.startTime)+s.h) - 1)=Kj u+u.startTime+s.h - 1:=by rw[i64 (a:=Kj u+u.startTime) (by omega),i64 (a:=Kj u+u.startTime+s.h) (by omega),i64 (by omega)]
  rw[e1,G,e3]
  rcases F.2.2 with D | D | D<;>rw[D] at C ⊢
  ·rw[show decide (s.h≤Kj u)=true by simp;omega];rfl
  ·rw[show decide (s.h≤u.startTime)=true by simp;omega];rfl
  ·rw[show decide (s.h≤KM u)=true by simp;omega];rfl
 refine⟨_,?_,key⟩
 cases (s.k==0)<;>cases (s.k==1)<;>simp<;>omega
theorem vd {N:Nat} {u:UnitD} {s:StD} {o:Bool} {K:LA→Nat→O R} (hN:64≤N) (hs:Cq u=true) (C:Sa u s):Wa N u.av o s.av false K=K ((Gv u s).flatMap StD.av) (Gv u s).length:=by
 have I:=Rk hs;have L:=ZR hs;have G:=yu hs C
 obtain⟨p,M,e⟩:=yv (R:=R) (o:=o) (o':=false) hN hs C
 rw[gw];unfold gv
 rw[Cl,ct,eh,ct,show((!false)||A8 (List.take 2 s.av))=true from rfl,ct,Bg,Agr,e,show decide (p<0)=false by simp;omega,cf,ct,ZS hN hs]
 simp only[d8,KN,Bmn,Blm,Bkt]
 unfold YI
 simp only[KN,Blm]
 rw[i64 (a:=s.h+1) (by omega)]
 unfold Gv
 rcases G.2.2 with D | D | D<;>rw[D]
 ·by_cases k:s.h<u.downTime
  ·simp[k,show ¬ u.downTime≤s.h by omega,StD.av]
  ·by_cases F:u.startTime>0
   ·simp[k,show u.downTime≤s.h by omega,F,StD.av]
   ·simp[k,show u.downTime≤s.h by omega,F,StD.av]
 ·by_cases k:s.h<u.startTime<;>simp[k,StD.av]
 ·by_cases k:s.h≥u.upTime<;>simp[k,StD.av]
end
end Gx
