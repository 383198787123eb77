/- A part of the proof: what it holds is said by each theorem. -/
import Derived.Test.YtlkhmflligkbkaaGreatP2
set_option linter.unusedVariables false
namespace Gx
open Go Go.Proofs
section
variable {R:Type}
theorem Af8 {N:Nat}:∀ (k fuel n v:Nat),v<2 ^ k→k<fuel→n+k≤1000000000000→∃ b:Nat,b≤k∧v<2 ^ b∧(v≠0→2 ^ b≤2*v)∧(v=0→b=0)∧∀ K:Int→Option R,Le N K fuel (n:Int) (v:Int)=K ((n+b:Nat):Int)
 | 0,fuel+1,n,v,B,_,_=>by
  have A:v=0:=by simpa using B
  subst A
  refine⟨0,by omega,by simp,fun h=>absurd rfl h,fun _=>rfl,fun K=>?_⟩
  rw[Le];unfold T6
  rw[show decide (((0:Nat):Int)>0)=false by rfl,cf];rfl
 | k+1,fuel+1,n,v,B,G,hn=>by
  by_cases A:v=0
  ·subst A
   refine⟨0,by omega,by simp,fun h=>absurd rfl h,fun _=>rfl,fun K=>?_⟩
   rw[Le];unfold T6
   rw[show decide (((0:Nat):Int)>0)=false by rfl,cf];rfl
  ·obtain⟨b,I,L,b3,D,F⟩:=Af8 (N:=N) k fuel (n+1) (v/2) (by rw[Nat.pow_succ] at B;omega) (by omega) (by omega)
   refine⟨b+1,by omega,by rw[Nat.pow_succ];omega,fun _=>?_,fun h=>absurd h A,fun K=>?_⟩
   ·by_cases C:v/2=0
    ·rw[D C];simp;omega
    ·have:=b3 C;rw[Nat.pow_succ];omega
   ·rw[Le];unfold T6
    rw[show decide (((v:Nat):Int)>0)=true by rw[decide_eq_true_eq];omega,ct,wS (by omega),T3 v 1,show v/2 ^ 1=v/2 by rfl,F]
    congr 2;omega
theorem Az5 {N:Nat} {a:List Nat} {n:Nat} {t o:Bool} (hn:n=a.length) (D:Al a) (C:fit a.length N):∃ nb:Nat,nb≤32*a.length∧val a<2 ^ nb∧(val a≠0→2 ^ nb≤2*val a)∧(val a=0→nb=0)∧∀ K:Int→Option R,OE N (Ae a) n t o K=K (nb:Int):=by
 have T:=C.1;have U:=C.2
 have la:=(Bu D).2
 by_cases B:val a=0
 ·refine⟨0,by omega,by rw[B];simp,fun h=>absurd B h,fun _=>rfl,fun K=>?_⟩
  rw[TA];unfold OD
  rw[Dt hn D C,B,Ea];rfl
 ·have I:(Ar (val a)).length≠0:=fun h=>B (By.1 h)
  obtain⟨k,F⟩:∃ k,(Ar (val a)).length=k+1:=⟨(Ar (val a)).length - 1,by omega⟩
  have top:=Bc (Ac (val a)) (show k<(Ar (val a)).length by omega)
  have A:(Ar (val a))[k]'(by omega)≠0:=by
   have:=Aax (val a) (lZ B)
   rw[List.getLast_eq_getElem] at this
   simp only[F,Nat.add_sub_cancel] at this
   exact this
  have tf:=P_ F
  have tl:=UR (Ac (val a)) F
  rw[Aj] at tf tl
  obtain⟨b,V,L,b3,Y,M⟩:=Af8 (R:=R) (N:=N) 32 N (32*k) ((Ar (val a))[k]'(by omega)) (by exact top) (by omega) (by omega)
  have G:(2:Nat) ^ (32*k+b)=4294967296 ^ k*2 ^ b:=by rw[Nat.pow_add,Nat.pow_mul]
  refine⟨32*k+b,by omega,?_,fun _=>?_,fun h=>absurd h B,fun K=>?_⟩
  ·rw[G]
   have:((Ar (val a))[k]'(by omega)+1)*4294967296 ^ k≤2 ^ b*4294967296 ^ k:=Nat.mul_le_mul_right _ L
   rw[Nat.mul_comm (2 ^ b)] at this;omega
  ·rw[G]
   have:=Nat.mul_le_mul_left (4294967296 ^ k) (b3 A)
   rw[Nat.mul_left_comm] at this
   omega
  ·rw[TA];unfold OD
   have O:IntKind.wrap .i64 ((((Ar (val a)).length:Nat):Int) - 1)=((k:Nat):Int):=by rw[i64 (by omega)];omega
   have S:IntKind.wrap .i64 ((32:Int)*((k:Nat):Int))=((32*k:Nat):Int):=by rw[i64 (by omega)];omega
   rw[Dt hn D C,Aj9 I,cf,O,Aa (by omega),ct,oa (by omega),S]
   exact M K
theorem Avl {a:List Nat} {j:Nat} (h:j<a.length):val a=val (a.take j)+4294967296 ^ j*(a[j]+4294967296*val (a.drop (j+1))):=by
 have:=Sb (a.take j) (a.drop j)
 rw[List.take_append_drop,List.length_take,Nat.min_eq_left (by omega),eP h] at this
 exact this
theorem tG (j k:Nat):(2:Nat) ^ (32*j+k)=4294967296 ^ j*2 ^ k:=by rw[Nat.pow_add,Nat.pow_mul]
theorem A82 {a:List Nat} {j k:Nat} (A:Al a) (h:j<a.length) (D:k<32):val a/2 ^ (32*j+k)%2=a[j]/2 ^ k%2:=by
 have tl:=Bm (Co A j)
 rw[List.length_take,Nat.min_eq_left (by omega)] at tl
 have hP:0<4294967296 ^ j:=Nat.pow_pos (by omega)
 have B:0<2 ^ k:=Nat.pow_pos (by omega)
 rw[tG,←Nat.div_div_eq_div_mul,Avl h,Nat.add_mul_div_left _ _ hP,Nat.div_eq_of_lt tl,Nat.zero_add]
 have e:4294967296=2 ^ k*(2*2 ^ (31 - k)):=by rw[←Nat.pow_succ',←Nat.pow_add,show k+(31 - k+1)=32 by omega]
 have C:4294967296*val (a.drop (j+1))=2 ^ k*(2*(2 ^ (31 - k)*val (a.drop (j+1)))):=by
  rw[←Nat.mul_assoc 2,←Nat.mul_assoc,←e]
 rw[C,Nat.add_mul_div_left _ _ B,Nat.add_mul_mod_self_left]
theorem A5f {N:Nat} {a:List Nat} {n:Nat} {t o:Bool} {i:Nat} {K:Int→Option R} (hn:n=a.length) (C:Al a) (hi:i<32*a.length) (hs:a.length≤1000000000):gA N (Ae a) n t o (i:Int) K=K ((val a/2 ^ i%2:Nat):Int):=by
 subst hn
 have A:i/32<a.length:=by omega
 have aj:=Bc C A
 rw[vL];unfold Aa8
 have D:IntKind.wrap .i64 (Int.tdiv ((i:Nat):Int) 32)=((i/32:Nat):Int):=by rw[show(32:Int)=((32:Nat):Int) by rfl,kW,i64 (by omega)]
 have F:IntKind.wrap .u64 (Int.tmod ((i:Nat):Int) 32)=((i%32:Nat):Int):=by rw[show(32:Int)=((32:Nat):Int) by rfl,eO,Jk (by omega)]
 rw[D,F,show decide (((i/32:Nat):Int)≥((a.length:Nat):Int))=false by rw[decide_eq_false_iff_not];omega,cf,Aa A,ct,aH A,show decide (((i%32:Nat):Int)<0)=false by rw[decide_eq_false_iff_not];omega,cf,Int.toNat_natCast,Nat.min_eq_left (by omega),T3]
 have B:a[i/32]/2 ^ (i%32)<4294967296:=Nat.lt_of_le_of_lt (Nat.div_le_self _ _) aj
 have e:=Ayb (k:=.u32) rfl (a:=a[i/32]/2 ^ (i%32)) (b:=1) B (by decide)
 rw[show(1:Int)=((1:Nat):Int) by rfl,e,Nat.and_one_is_mod]
 have:=A82 C A (k:=i%32) (by omega)
 rw[Nat.div_add_mod] at this
 rw[this]
theorem A7i {Q:List Nat} {j k:Nat} (hQ:Al Q) (h:j<Q.length) (C:k<32) (A:2 ^ (32*j+k+1)∣val Q):2 ^ (k+1)∣Q[j]:=by
 have tl:=Bm (Co hQ j)
 rw[List.length_take,Nat.min_eq_left (by omega)] at tl
 have hP:0<4294967296 ^ j:=Nat.pow_pos (by omega)
 rw[Nat.add_assoc,tG,Avl h] at A
 have B:val (Q.take j)=0:=by
  have x1:4294967296 ^ j∣val (Q.take j):=(Nat.dvd_add_left (Nat.dvd_mul_right _ _)).1 (Nat.dvd_trans (Nat.dvd_mul_right _ _) A)
  exact Nat.eq_zero_of_dvd_of_lt x1 tl
 rw[B,Nat.zero_add] at A
 have x2:=Nat.dvd_of_mul_dvd_mul_left hP A
 have x3:2 ^ (k+1)∣4294967296*val (Q.drop (j+1)):=Nat.dvd_trans ⟨2 ^ (31 - k),by rw[←Nat.pow_add,show k+1+(31 - k)=32 by omega]⟩ (Nat.dvd_mul_right _ _)
 exact(Nat.dvd_add_left x3).1 x2
theorem tH {N:Nat} {a b:List Nat} {t o:Bool} {B:Nat} (ha:Al a) (F:b=Ar B) (hB:0<B) (D:fit (a.length+2*b.length+4) N):∀ (i fuel:Nat) (Q:List Nat) (r:Nat),i<fuel→i≤32*a.length→Al Q→Q.length=a.length→r=val a/2 ^ i%B→val Q=val a/2 ^ i/B*2 ^ i →
  ∀ K:Nat→Nat→Bool→LA→LA→Option R,Fx N K (Ae a) a.length t o b.length (Ae b) fuel (Ar r).length ((i:Int) - 1) (Ae Q) (Ae (Ar r))=K (Ar (val a/B)).length (Ar (val a%B)).length true (Ae (Ar (val a/B))) (Ae (Ar (val a%B)))
 | 0,fuel+1,Q,r,_,_,hQ,O,hr,G=>by
  intro K
  rw[Nat.pow_zero,Nat.div_one] at hr G
  rw[Nat.mul_one] at G
  have lr:(Ar r).length≤b.length:=by
   rw[F];apply B9;rw[hr];exact Nat.le_of_lt (Nat.mod_lt _ hB)
  rw[Fx];unfold T7
  rw[show decide ((((0:Nat):Int) - 1)≥0)=false by rfl,cf,Nat.mul_one,List.take_of_length_le (by rw[B7];omega),Dt O.symm hQ (by rw[O];exact D.le (by omega)),Nat.mul_one,List.take_of_length_le (by rw[B7];omega),Dt rfl (Ac _) (D.le (by omega)),Aj,G,hr]
 | i+1,fuel+1,Q,r,hfu,hi,hQ,O,hr,G=>by
  intro K
  have h1:=D.1;have h2:=D.2
  have hrB:r<B:=by rw[hr];exact Nat.mod_lt _ hB
  have lr:(Ar r).length≤b.length:=by rw[F];exact B9 (Nat.le_of_lt hrB)
  have C:val a/2 ^ i=2*(val a/2 ^ (i+1))+val a/2 ^ i%2:=by
   have:=Nat.div_add_mod (val a/2 ^ i) 2
   rw[Nat.div_div_eq_div_mul,←Nat.pow_succ] at this
   exact this.symm
  have hdm:=Nat.div_add_mod (val a/2 ^ (i+1)) B
  have hb2:val a/2 ^ i%2<2:=Nat.mod_lt _ (by omega)
  generalize hH:val a/2 ^ (i+1)=H at *
  generalize S:val a/2 ^ i%2=bt at *
  have A:val a/2 ^ i=B*(2*(H/B))+(2*r+bt):=by
   rw[C,hr,Nat.mul_left_comm];omega
  clear hr hdm C
  have T:i/32<Q.length:=by omega
  have qj:=Bc hQ T
  have U:2 ^ (32*(i/32)+i%32+1)∣val Q:=by rw[Nat.div_add_mod,G];exact Nat.dvd_mul_left _ _
  have I:=A7i hQ T (Nat.mod_lt _ (by omega)) U
  have hpw:2 ^ i=4294967296 ^ (i/32)*2 ^ (i%32):=by rw[←tG,Nat.div_add_mod]
  have V:2 ^ (i%32+1)≤4294967296:=(Nat.pow_le_pow_right (by omega) (show i%32+1≤32 by omega):2 ^ (i%32+1)≤2 ^ 32)
  have Y:Ta .u32 ((Q[i/32]:Nat):Int) (IntKind.wrap .u32 ((1:Int)*2 ^ (min (Int.toNat ((i%32:Nat):Int)) 32)))=((Q[i/32]+2 ^ (i%32):Nat):Int)∧Q[i/32]+2 ^ (i%32)<4294967296:=by
   obtain⟨c,hc⟩:=I
   have hpos:0<2 ^ (i%32):=Nat.pow_pos (by omega)
   have hlt:Q[i/32]+2 ^ (i%32)<4294967296:=by
    obtain⟨w,hw⟩:∃ w,4294967296=2 ^ (i%32+1)*w:=⟨2 ^ (31 - i%32),by rw[←Nat.pow_add,show i%32+1+(31 - i%32)=32 by omega]⟩
    have x1:c<w:=by rw[hc,hw] at qj;exact Nat.lt_of_mul_lt_mul_left qj
    have x2:=Nat.mul_le_mul_left (2 ^ (i%32+1)) (show c+1≤w from x1)
    rw[Nat.mul_add,←hw,←hc,Nat.mul_one,Nat.pow_succ] at x2
    omega
   refine⟨?_,hlt⟩
   rw[Int.toNat_natCast,Nat.min_eq_left (by omega),Int.one_mul,show(2:Int) ^ (i%32)=((2 ^ (i%32):Nat):Int) by simp,A14 (by rw[Nat.pow_succ] at V;omega),Alt (k:=.u32) rfl qj (by show 2 ^ (i%32)<4294967296;rw[Nat.pow_succ] at V;omega)]
   congr 1
   have e:Q[i/32]=c*2 ^ (i%32+1):=by rw[hc,Nat.mul_comm]
   rw[e];exact sJ (by rw[Nat.pow_succ];omega)
  have w1:IntKind.wrap .i64 (Int.tdiv ((i:Nat):Int) 32)=((i/32:Nat):Int):=by rw[show(32:Int)=((32:Nat):Int) by rfl,kW,i64 (by omega)]
  have w2:IntKind.wrap .u64 (Int.tmod ((i:Nat):Int) 32)=((i%32:Nat):Int):=by rw[show(32:Int)=((32:Nat):Int) by rfl,eO,Jk (by omega)]
  have l2:(Ar (2*r+bt)).length≤b.length+1:=by
   apply Es
   have x1:=Bm (Ac B)
   rw[Aj,←F] at x1
   rw[Nat.pow_succ];omega
  have second:M9 N (Fx N K (Ae a) a.length t o b.length (Ae b) fuel) K (Ae a) a.length t o b.length ((i:Nat):Int) (Ae b) (Ae Q) (Ar (2*r+bt)).length (Ae (Ar (2*r+bt)))=K (Ar (val a/B)).length (Ar (val a%B)).length true (Ae (Ar (val a/B))) (Ae (Ar (val a%B))):=by
   unfold M9
   have lb:Al b:=by rw[F];exact Ac _
   have vb:val b=B:=by rw[F,Aj]
   rw[Nat.mul_one,Nat.mul_one,List.take_of_length_le (by rw[B7];omega),List.take_of_length_le (by rw[B7];omega),tF rfl rfl (Ac _) lb (D.le (by omega)),Aj,vb]
   by_cases hge:B≤2*r+bt
   ·have L:val a/2 ^ i/B=2*(H/B)+1:=by
     rw[A,show B*(2*(H/B))+(2*r+bt)=B*(2*(H/B)+1)+(2*r+bt - B) by rw[Nat.mul_add];omega,Nat.mul_add_div hB,Nat.div_eq_of_lt (show 2*r+bt - B<B by omega),Nat.add_zero]
    have M:val a/2 ^ i%B=2*r+bt - B:=by
     rw[A,show B*(2*(H/B))+(2*r+bt)=B*(2*(H/B)+1)+(2*r+bt - B) by rw[Nat.mul_add];omega,Nat.mul_add_mod,Nat.mod_eq_of_lt (by omega)]
    rw[if_pos hge,ct,w1,w2,Aa (by omega),ct,oa T,show decide (((i%32:Nat):Int)<0)=false by rw[decide_eq_false_iff_not];omega,cf,ct,Aln T,ct,Y.1,cQ,i64 (by omega)]
    refine tH ha F hB D i fuel (Q.set (i/32) (Q[i/32]+2 ^ (i%32))) (2*r+bt - B) (by omega) (by omega) (Cx hQ Y.2 _) (by simpa using O) M.symm ?_ K
    have x1:=qD (v:=Q[i/32]+2 ^ (i%32)) T
    rw[Nat.mul_add,←hpw] at x1
    rw[L,Nat.add_mul,Nat.one_mul,Nat.mul_comm 2,Nat.mul_assoc,Nat.mul_comm 2,←Nat.pow_succ,←G]
    omega
   ·have L:val a/2 ^ i/B=2*(H/B):=by rw[A,Nat.mul_add_div hB,Nat.div_eq_of_lt (show 2*r+bt<B by omega),Nat.add_zero]
    have M:val a/2 ^ i%B=2*r+bt:=by rw[A,Nat.mul_add_mod,Nat.mod_eq_of_lt (by omega)]
    rw[if_neg hge,cf,i64 (by omega)]
    refine tH ha F hB D i fuel Q (2*r+bt) (by omega) (by omega) hQ O M.symm ?_ K
    rw[L,Nat.mul_comm 2,Nat.mul_assoc,Nat.mul_comm 2,←Nat.pow_succ,←G]
  rw[Fx];unfold T7
  rw[show(((i+1:Nat):Int) - 1)=((i:Nat):Int) by omega,show decide (((i:Nat):Int)≥0)=true by rw[decide_eq_true_eq];omega,ct,Nat.mul_one,List.take_of_length_le (by rw[B7];omega),tE rfl rfl (Ac _) (Ac _) (D.le (by omega)),Aj,A5f rfl ha (by omega) (by omega),S]
  have l3:(Ar (r+r)).length≤b.length+1:=by
   apply Es
   have x1:=Bm (Ac B)
   rw[Aj,←F] at x1
   rw[Nat.pow_succ];omega
  rcases(show bt=0∨bt=1 by omega) with rfl | rfl
  ·rw[show(((0:Nat):Int)==1)=false by rfl,cf]
   rw[show 2*r+0=r+r by omega] at second
   exact second
  ·rw[show(((1:Nat):Int)==1)=true by rfl,ct,Nat.mul_one,List.take_of_length_le (by rw[B7];omega)]
   have:=tE (R:=R) (N:=N) (a:=Ar (r+r)) (b:=[1]) (n:=(Ar (r+r)).length) (m:=1) (t:=false) (o:=true) (t':=false) (o':=true) (K:=fun af ag=>M9 N (Fx N K (Ae a) a.length t o b.length (Ae b) fuel) K (Ae a) a.length t o b.length ((i:Nat):Int) (Ae b) (Ae Q) af ag) rfl rfl (Ac _) (by intro x hx;simp at hx;omega) (D.le (by simp;omega))
   rw[Aj,show val [1]=1 by rfl,show r+r+1=2*r+1 by omega] at this
   exact this.trans second
end
end Gx

namespace Gx
open Go Go.Proofs
section
variable {R:Type}
theorem UT {N:Nat} {a b:List Nat} {n m:Nat} {t o t' o':Bool} {K:Nat→Nat→Bool→LA→LA→Option R} (hn:n=a.length) (S:m=b.length) (G:Al a) (M:Al b) (D:val b≠0) (C:fit (a.length+2*b.length+4) N) :
  Sf N (Ae a) n t o (Ae b) m t' o' K=K (Ar (val a/val b)).length (Ar (val a%val b)).length true (Ae (Ar (val a/val b))) (Ae (Ar (val a%val b))):=by
 have T:=C.1;have U:=C.2
 have lb:=(Bu M).2
 have I:(Ar (val b)).length≠0:=fun h=>D (By.1 h)
 rw[b7];unfold JE
 dsimp only
 have long:Q4 N K (Ae a) n t o (Ar (val b)).length (Ae (Ar (val b)))=K (Ar (val a/val b)).length (Ar (val a%val b)).length true (Ae (Ar (val a/val b))) (Ae (Ar (val a%val b))):=by
  obtain⟨nb,n1,n2,n3,n4,n5⟩:=Az5 (R:=R) (N:=N) (a:=a) (n:=n) (t:=false) (o:=o) hn G (C.le (by omega))
  unfold Q4 EY
  dsimp only
  rw[n5,hn,A6c (by omega),ct,Da,i64 (by omega)]
  have O:val a/2 ^ nb=0:=Nat.div_eq_of_lt n2
  have:=tH (R:=R) (N:=N) (a:=a) (b:=Ar (val b)) (t:=t) (o:=o) (B:=val b) G rfl (by omega) (C.le (by omega)) nb N (List.replicate a.length 0) 0 (by omega) n1 (Cu _) (by simp) (by rw[O];simp) (by rw[O,Em];simp) K
  exact this
 rw[Dt S M (C.le (by omega)),Aj9 I,cf,US hn G (C.le (by omega)),Nat.mul_one,List.take_of_length_le (by rw[B7];exact Nat.le_refl _)]
 by_cases A:val a<18446744073709551616
 ·rw[if_pos A,US rfl (Ac _) (C.le (by omega)),Aj]
  by_cases k:val b<18446744073709551616
  ·have F:val a/val b<18446744073709551616:=Nat.lt_of_le_of_lt (Nat.div_le_self _ _) A
   have L:val a%val b<18446744073709551616:=Nat.lt_of_le_of_lt (Nat.mod_le _ _) A
   rw[if_pos k,show((true:Bool)==true)=true by rfl,ct,Axi,ct,Aj9 D,cf,kW,Jk F,K_ F (by omega),cf,eO,K_ L (by omega)]
  ·rw[if_neg k,show((true:Bool)==true)=true by rfl,ct,Axi,cf,long]
 ·rw[if_neg A,US rfl (Ac _) (C.le (by omega)),Aj]
  by_cases k:val b<18446744073709551616
  ·rw[if_pos k,show((false:Bool)==true)=false by rfl,cf,long]
  ·rw[if_neg k,show((false:Bool)==true)=false by rfl,cf,long]
theorem A5g {N:Nat}:∀ (k fuel A B:Nat),k<fuel→A*B<2 ^ k→B<A→fit (3*(Ar A).length+4) N→∀ K:Nat→LA→Option R,Eu N K fuel (Ar A).length (Ar B).length (Ae (Ar A)) (Ae (Ar B))=K (Ar (Nat.gcd A B)).length (Ae (Ar (Nat.gcd A B))):=by
 have base:∀ (fuel A:Nat) (K:Nat→LA→Option R),Eu N K (fuel+1) (Ar A).length (Ar 0).length (Ae (Ar A)) (Ae (Ar 0))=K (Ar (Nat.gcd A 0)).length (Ae (Ar (Nat.gcd A 0))):=by
  intro fuel A K
  rw[Eu];unfold Tc
  rw[Ea,show decide ((((([]:List Nat).length:Nat)):Int)>0)=false by decide,cf,Nat.gcd_zero_right]
 intro k
 induction k with
 | zero =>
  intro fuel A B I C D G K
  obtain⟨fuel,rfl⟩:∃ F,fuel=F+1:=⟨fuel - 1,by omega⟩
  have L:B=0:=by
   rcases Nat.eq_zero_or_pos B with h | h
   ·exact h
   ·have Y:=Nat.mul_le_mul_left A (show 1≤B by omega)
    rw[Nat.pow_zero] at C;omega
  subst L
  exact base fuel A K
 | succ k M =>
  intro fuel A B I C D G K
  have h1:=G.1;have h2:=G.2
  obtain⟨fuel,rfl⟩:∃ F,fuel=F+1:=⟨fuel - 1,by omega⟩
  rcases Nat.eq_zero_or_pos B with h | h
  ·subst h;exact base fuel A K
  have O:=B9 (Nat.le_of_lt D)
  have S:(Ar B).length≠0:=fun T=>by have:=By.1 T;omega
  have U:=Nat.mod_lt A h
  have hh:=eR (show 1≤B by omega) (Nat.le_of_lt D)
  have:=M fuel B (A%B) (by omega) (by rw[Nat.pow_succ] at C;omega) U (G.le (by omega)) K
  have V:Nat.gcd B (A%B)=Nat.gcd A B:=by rw[Nat.gcd_comm,←Nat.gcd_rec,Nat.gcd_comm]
  rw[V] at this
  rw[Eu];unfold Tc
  rw[show decide ((((Ar B).length:Nat):Int)>0)=true by rw[decide_eq_true_eq];omega,ct,Nat.mul_one,Nat.mul_one,List.take_of_length_le (by rw[B7];exact Nat.le_refl _),List.take_of_length_le (by rw[B7];exact Nat.le_refl _),UT rfl rfl (Ac _) (Ac _) (by rw[Aj];omega) (G.le (by omega)),Aj,Aj]
  exact this
theorem A5h {N:Nat} {a b:List Nat} {n m:Nat} {t o t' o':Bool} {K:Nat→LA→Option R} (hn:n=a.length) (I:m=b.length) (B:Al a) (C:Al b) (A:fit (3*(a.length+b.length)+4) N) :
  gD N (Ae a) n t o (Ae b) m t' o' K=K (Ar (Nat.gcd (val a) (val b))).length (Ae (Ar (Nat.gcd (val a) (val b)))):=by
 have S:=A.1;have T:=A.2
 have la:=(Bu B).2
 have lb:=(Bu C).2
 have D:val a*val b<2 ^ (32*(a.length+b.length)):=by rw[←Avi];exact Nat.mul_lt_mul'' (Bm B) (Bm C)
 rw[vP];unfold oG
 dsimp only
 rw[Dt hn B (A.le (by omega)),Dt I C (A.le (by omega))]
 obtain⟨F,hF⟩:∃ F,N=F+1:=⟨N - 1,by omega⟩
 rcases Nat.eq_zero_or_pos (val b) with h | h
 ·rw[h,Ea,Nat.gcd_zero_right,hF,Eu];unfold Tc
  rw[show decide ((((([]:List Nat).length:Nat)):Int)>0)=false by decide,cf]
 ·have G:=Nat.mod_lt (val a) h
  have L:(Ar (val b)).length≠0:=fun M=>by have:=By.1 M;omega
  have k:val b*(val a%val b)<2 ^ (32*(a.length+b.length)):=by
   have:val b*(val a%val b)≤val b*val a:=Nat.mul_le_mul_left _ (Nat.mod_le _ _)
   rw[Nat.mul_comm (val b) (val a)] at this;omega
  have:=A5g (R:=R) (N:=N) (32*(a.length+b.length)) F (val b) (val a%val b) (by omega) k G (A.le (by omega)) K
  have O:Nat.gcd (val b) (val a%val b)=Nat.gcd (val a) (val b):=by rw[Nat.gcd_comm,←Nat.gcd_rec,Nat.gcd_comm]
  rw[O] at this
  have e:Eu N K (F+1) (Ar (val a)).length (Ar (val b)).length (Ae (Ar (val a))) (Ae (Ar (val b)))=Eu N K F (Ar (val b)).length (Ar (val a%val b)).length (Ae (Ar (val b))) (Ae (Ar (val a%val b))):=by
   rw[Eu];unfold Tc
   rw[show decide ((((Ar (val b)).length:Nat):Int)>0)=true by rw[decide_eq_true_eq];omega,ct,Nat.mul_one,Nat.mul_one,List.take_of_length_le (by rw[B7];exact Nat.le_refl _),List.take_of_length_le (by rw[B7];exact Nat.le_refl _),UT rfl rfl (Ac _) (Ac _) (by rw[Aj];omega) (A.le (by omega)),Aj,Aj]
  conv=>lhs;rw[show(Eu N K N)=Eu N K (F+1) by rw[←hF]]
  rw[e];exact this
end
end Gx

namespace Gx
open Go Go.Proofs
section
variable {R:Type}
inductive LS where
 | nil
 | of (l:List Nat) (t o:Bool)
def LS.l:LS→List Nat
 | .nil=>[]
 | .of l _ _=>l
def LS.av:LS→AV
 | .nil=>.nsl
 | .of l t o=>.imm (Ae l) l.length 1 t o
theorem Az6 {s:LS} {r:List AV} {f:List AV→Nat→Option R}:Ct 1 (s.av::r) f=f (Ae s.l) s.l.length:=by
 cases s<;>simp[Ct,LS.av,LS.l,A24,Ae]
theorem Bak {b:Bool} {r:List AV} {f:Bool→Option R}:N_ (.bool b::r) f=f b:=by simp[N_,asBool]
def Lc (neg:Bool) (s:LS):List AV:=[.bool neg,s.av]
def A0 (neg:Bool) (s:LS):Int:=if neg then -(val s.l:Int) else (val s.l:Int)
theorem Cz (neg:Bool) (s:LS):(A0 neg s).natAbs=val s.l:=by unfold A0;cases neg<;>simp
theorem Uo {neg:Bool} {s:LS} {f:Bool→Option R}:N_ (Lc neg s) f=f neg:=Bak
theorem Qq {neg:Bool} {s:LS} {f:List AV→Nat→Option R}:Ct 1 (List.drop 1 (Lc neg s)) f=f (Ae s.l) s.l.length:=by rw[Lc,List.drop_succ_cons,List.drop_zero,Az6]
theorem Ox {N:Nat} {c:Bool} {a:Nat} {b:LA} {K:Bool→Option R}:Ir N c a b K=K (c&&decide (0<a)):=by
 rw[jA];unfold li
 cases c<;>simp
theorem EC {z:Int} {c:Bool} {m:Nat} (h:z=if c then -(m:Int) else (m:Int)):(c&&decide (0<(Ar m).length))=decide (z<0)∧z.natAbs=m:=by
 have B:z.natAbs=m:=by rw[h];cases c<;>simp
 refine⟨?_,B⟩
 by_cases A:m=0
 ·subst A;rw[h,Ea];cases c<;>simp
 ·have:0<(Ar m).length:=by
   rcases Nat.eq_zero_or_pos (Ar m).length with k | k
   ·exact absurd (By.1 k) A
   ·exact k
  rw[h];cases c<;>simp[this]<;>omega
theorem Akb {N:Nat} {v:Int} (D:-9223372036854775808≤v∧v≤9223372036854775807) (hN:4≤N):∃ S,Al S∧val S=v.natAbs∧∀ K:Bool→Nat→LA→Option R,Wd N v K=K (decide (v<0)) (Ar v.natAbs).length (Ae S):=by
 have B:v.natAbs<18446744073709551616:=by omega
 obtain⟨S,s1,s2,A⟩:=Lx (R:=R) (N:=N) B hN
 refine⟨S,s1,s2,fun K=>?_⟩
 rw[cG];unfold cF
 by_cases h:v<0
 ·have e:IntKind.wrap .u64 ((0:Int) - IntKind.wrap .u64 v)=(v.natAbs:Int):=by rw[l8,l8];omega
  rw[decide_eq_true h,ct,e,A,Ox]
  have C:v.natAbs≠0:=by omega
  have:0<(Ar v.natAbs).length:=by
   rcases Nat.eq_zero_or_pos (Ar v.natAbs).length with k | k
   ·exact absurd (By.1 k) C
   ·exact k
  simp[this]
 ·have e:IntKind.wrap .u64 v=(v.natAbs:Int):=by rw[l8];omega
  rw[decide_eq_false h,cf,e,A,Ox];rfl
theorem m_ {N:Nat} {neg:Bool} {s:LS} {o:Bool} {K:Int→Option R} (hs:Al s.l) (k:fit s.l.length N):JL N (Lc neg s) o K=K (A0 neg s).sign:=by
 rw[va];unfold Ach
 rw[Qq,Af2 rfl hs k]
 unfold A0
 by_cases h:val s.l=0
 ·rw[h,EA,show((0:Int)==0)=true by rfl,ct];cases neg<;>rfl
 ·have:Ih (val s.l) 0=1:=by unfold Ih;rw[if_neg (by omega),if_pos (by omega)]
  rw[this,show((1:Int)==0)=false by rfl,cf,Uo]
  cases neg
  ·rw[cf];simp only[Bool.false_eq_true,if_false]
   congr 1
   rw[Int.sign_eq_one_of_pos];omega
  ·rw[ct];simp only[if_true]
   congr 1
   rw[Int.sign_eq_neg_one_of_neg];omega
theorem P' {N:Nat} {n1 n2:Bool} {s1 s2:LS} {o1 o2:Bool} (A:Al s1.l) (B:Al s2.l) (C:fit (s1.l.length+s2.l.length) N):∃ S,Al S∧val S=(A0 n1 s1*A0 n2 s2).natAbs∧∀ K:Bool→Nat→LA→Option R,MW N (Lc n1 s1) o1 (Lc n2 s2) o2 K=K (decide (A0 n1 s1*A0 n2 s2<0)) (Ar (A0 n1 s1*A0 n2 s2).natAbs).length (Ae S):=by
 obtain⟨S,a1,a2,a3⟩:=eN (R:=R) (N:=N) (a:=s1.l) (b:=s2.l) (t:=false) (o:=o1) (t':=false) (o':=o2) rfl rfl A B C
 have D:A0 n1 s1*A0 n2 s2=if (!(n1==n2)) then -((val s1.l*val s2.l:Nat):Int) else ((val s1.l*val s2.l:Nat):Int):=by
  unfold A0;cases n1<;>cases n2<;>simp[Int.mul_neg,Int.neg_mul]
 obtain⟨c1,k⟩:=EC D
 refine⟨S,a1,by rw[a2,k],fun K=>?_⟩
 rw[Acx];unfold Ap5
 rw[Uo,Uo,Qq,Qq,a3,Ox,c1,k]
theorem Anr {N:Nat} {n1 n2:Bool} {s1 s2:LS} {o1 o2:Bool} (C:Al s1.l) (D:Al s2.l) (F:fit (s1.l.length+s2.l.length+1) N):∃ S,Al S∧val S=(A0 n1 s1+A0 n2 s2).natAbs∧∀ K:Bool→Nat→LA→Option R,mV N (Lc n1 s1) o1 (Lc n2 s2) o2 K=K (decide (A0 n1 s1+A0 n2 s2<0)) (Ar (A0 n1 s1+A0 n2 s2).natAbs).length (Ae S):=by
 by_cases hn:n1=n2
 ·subst hn
  obtain⟨S,a1,a2,a3⟩:=A65 (R:=R) (N:=N) (a:=s1.l) (b:=s2.l) (t:=false) (o:=o1) (t':=false) (o':=o2) rfl rfl C D F
  have A:A0 n1 s1+A0 n1 s2=if n1 then -((val s1.l+val s2.l:Nat):Int) else ((val s1.l+val s2.l:Nat):Int):=by
   unfold A0;cases n1<;>simp;omega
  obtain⟨c1,k⟩:=EC A
  refine⟨S,a1,by rw[a2,k],fun K=>?_⟩
  rw[TV];unfold pP
  rw[Uo,Uo,show(n1==n1)=true by simp,ct,Uo,Qq,Qq,a3,Ox,c1,k]
 ·have B:(n1==n2)=false:=by simp[hn]
  by_cases G:val s2.l≤val s1.l
  ·obtain⟨S,a1,a2,a3⟩:=Af5 (R:=R) (N:=N) (a:=s1.l) (b:=s2.l) (t:=false) (o:=o1) (t':=false) (o':=o2) rfl rfl C D (F.le (by omega)) G
   have A:A0 n1 s1+A0 n2 s2=if n1 then -((val s1.l - val s2.l:Nat):Int) else ((val s1.l - val s2.l:Nat):Int):=by
    unfold A0;cases n1<;>cases n2<;>simp at hn ⊢<;>omega
   obtain⟨c1,k⟩:=EC A
   refine⟨S,a1,by rw[a2,k],fun K=>?_⟩
   rw[TV];unfold pP
   rw[Uo,Uo,B,cf,Qq,Qq,a3,ct,Uo,Ox,c1,k]
  ·obtain⟨S,a1,a2,a3⟩:=Af5 (R:=R) (N:=N) (a:=s2.l) (b:=s1.l) (t:=false) (o:=o2) (t':=false) (o':=o1) rfl rfl D C (F.le (by omega)) (by omega)
   have A:A0 n1 s1+A0 n2 s2=if n2 then -((val s2.l - val s1.l:Nat):Int) else ((val s2.l - val s1.l:Nat):Int):=by
    unfold A0;cases n1<;>cases n2<;>simp at hn ⊢<;>omega
   obtain⟨c1,k⟩:=EC A
   refine⟨S,a1,by rw[a2,k],fun K=>?_⟩
   rw[TV];unfold pP
   rw[Uo,Uo,B,cf,Qq,Qq,A66 rfl rfl C D (F.le (by omega)) (by omega),cf,Qq,Qq,a3,Uo,Ox,c1,k]
theorem Az7 {N:Nat} {n1:Bool} {s1:LS} {o1:Bool} {K:Bool→Nat→LA→Option R} (k:Al s1.l) (A:fit s1.l.length N):gR N (Lc n1 s1) o1 K=K (decide (A0 n1 s1<0)) (Ar (A0 n1 s1).natAbs).length (Ae (Ar (A0 n1 s1).natAbs)):=by
 obtain⟨c1,B⟩:=EC (z:=A0 n1 s1) (c:=n1) (m:=val s1.l) (by unfold A0;cases n1<;>simp)
 rw[wE];unfold Add
 rw[Uo,Qq,ge rfl k A,Ox,c1,B]
def qI (x y:Int):Int:=if x<y then -1 else if y<x then 1 else 0
theorem A7j (x y:Nat):qI (x:Int) (y:Int)=Ih x y:=by unfold qI Ih;simp
theorem A7k (x y:Nat):qI (-(x:Int)) (-(y:Int))=Ih y x:=by
 unfold qI Ih
 by_cases h:y<x
 ·rw[if_pos (by omega),if_pos h]
 ·rw[if_neg (by omega),if_neg h]
  by_cases k:x<y
  ·rw[if_pos (by omega),if_pos k]
  ·rw[if_neg (by omega),if_neg k]
theorem Akc {N:Nat} {n1 n2:Bool} {s1 s2:LS} {o1 o2:Bool} {K:Int→Option R} (B:Al s1.l) (C:Al s2.l) (A:fit (s1.l.length+s2.l.length) N):Wj N (Lc n1 s1) o1 (Lc n2 s2) o2 K=K (qI (A0 n1 s1) (A0 n2 s2)):=by
 rw[c8];unfold c7
 have l2:∀ n s,List.take 2 (Lc n s)=Lc n s:=fun n s=>rfl
 have l3:∀ n s,Nat.ble 2 (List.length (Lc n s))=true:=fun n s=>rfl
 rw[l2,l2,l3,l3,ct,m_ B (A.le (by omega)),ct,m_ C (A.le (by omega))]
 have sg:∀ z:Int,z.sign=if z<0 then -1 else if 0<z then 1 else 0:=by
  intro z
  rcases Int.lt_trichotomy z 0 with h | h | h
  ·rw[Int.sign_eq_neg_one_of_neg h,if_pos h]
  ·subst h;rfl
  ·rw[Int.sign_eq_one_of_pos h,if_neg (by omega),if_pos h]
 by_cases c1:(A0 n1 s1).sign<(A0 n2 s2).sign
 ·rw[decide_eq_true c1,ct]
  rw[sg,sg] at c1
  unfold qI;rw[if_pos]
  split at c1<;>split at c1<;>(try split at c1)<;>(try split at c1)<;>omega
 ·rw[decide_eq_false c1,cf]
  by_cases k:(A0 n1 s1).sign>(A0 n2 s2).sign
  ·rw[decide_eq_true k,ct]
   rw[sg,sg] at k
   unfold qI;rw[if_neg,if_pos]
   ·split at k<;>split at k<;>(try split at k)<;>(try split at k)<;>omega
   ·split at k<;>split at k<;>(try split at k)<;>(try split at k)<;>omega
  ·rw[decide_eq_false k,cf]
   have F:(A0 n1 s1).sign=(A0 n2 s2).sign:=by omega
   by_cases c3:(A0 n1 s1).sign<0
   ·rw[decide_eq_true c3,ct,Qq,Qq,To rfl rfl C B (A.le (by omega))]
    have p1:A0 n1 s1<0:=by rw[sg] at c3;split at c3;assumption;split at c3<;>omega
    have p2:A0 n2 s2<0:=by rw[F,sg] at c3;split at c3;assumption;split at c3<;>omega
    have e1:A0 n1 s1=-(val s1.l:Int):=by unfold A0 at p1 ⊢;cases n1<;>simp at p1 ⊢;omega
    have D:A0 n2 s2=-(val s2.l:Int):=by unfold A0 at p2 ⊢;cases n2<;>simp at p2 ⊢;omega
    rw[e1,D,A7k]
   ·rw[decide_eq_false c3,cf,Qq,Qq,To rfl rfl B C (A.le (by omega))]
    have p1:0≤A0 n1 s1:=by
     apply Int.not_lt.1;intro h;rw[Int.sign_eq_neg_one_of_neg h] at c3;omega
    have p2:0≤A0 n2 s2:=by
     apply Int.not_lt.1;intro h;rw[F,Int.sign_eq_neg_one_of_neg h] at c3;omega
    have e1:A0 n1 s1=(val s1.l:Int):=by have:=Cz n1 s1;omega
    have D:A0 n2 s2=(val s2.l:Int):=by have:=Cz n2 s2;omega
    rw[e1,D,A7j]
end
end Gx

namespace Gx
open Go Go.Proofs
section
variable {R:Type}
theorem Af9 (z:Int) (d:Nat) (B:d≠0):(mkRat z d).num.natAbs=z.natAbs/Nat.gcd z.natAbs d∧((mkRat z d).num<0↔z<0)∧(mkRat z d).den=d/Nat.gcd z.natAbs d:=by
 have D:0<Nat.gcd z.natAbs d:=Nat.gcd_pos_of_pos_right _ (by omega)
 rw[Rat.num_mkRat,Rat.den_mkRat,if_neg B,if_neg B,Nat.gcd_comm d]
 have k:((Nat.gcd z.natAbs d:Nat):Int)∣z:=Int.dvd_natAbs.1 (Int.natCast_dvd_natCast.2 (Nat.gcd_dvd_left _ _))
 obtain⟨c,C⟩:=k
 have F:z.natAbs.gcd d=Nat.gcd z.natAbs d:=rfl
 generalize Nat.gcd z.natAbs d=g at *
 refine⟨?_,?_,rfl⟩
 ·rw[C,Int.mul_ediv_cancel_left _ (by omega),Int.natAbs_mul,Int.natAbs_natCast,Nat.mul_div_cancel_left _ D]
 ·rw[C,Int.mul_ediv_cancel_left _ (by omega)]
  constructor
  ·intro h;exact Int.mul_neg_of_pos_of_neg (by omega) h
  ·intro h;rcases Int.lt_or_le c 0 with A | A
   ·exact A
   ·have:=Int.mul_nonneg (show(0:Int)≤g by omega) A;omega
structure RatD where
 neg:Bool
 ns:LS
 ds:LS
def RatD.av (x:RatD):List AV:=[.bool x.neg,x.ns.av,x.ds.av]
def RatD.ok (x:RatD):Prop:=Al x.ns.l∧Al x.ds.l
def RatD.m (x:RatD):Nat:=max x.ns.l.length x.ds.l.length
def RatD.q (x:RatD):Rat:=mkRat (A0 x.neg x.ns) (val x.ds.l)
def RatD.can (x:RatD) (q:Rat):Prop:=x.neg=decide (q.num<0)∧x.ns.l=Ar q.num.natAbs∧x.ds.l=Ar q.den
def qm (q:Rat):Nat:=max (Ar q.num.natAbs).length (Ar q.den).length
theorem RatD.can.ok {x:RatD} {q:Rat} (h:x.can q):x.ok:=⟨by rw[h.2.1];exact Ac _,by rw[h.2.2];exact Ac _⟩
theorem RatD.can.m {x:RatD} {q:Rat} (h:x.can q):x.m=qm q:=by unfold RatD.m qm;rw[h.2.1,h.2.2]
theorem RatD.can.q {x:RatD} {q:Rat} (h:x.can q):x.q=q:=by
 unfold RatD.q A0
 rw[h.1,h.2.1,h.2.2,Aj,Aj]
 have:(if decide (q.num<0)=true then -(q.num.natAbs:Int) else (q.num.natAbs:Int))=q.num:=by
  by_cases k:q.num<0
  ·rw[if_pos (by simpa using k)];omega
  ·rw[if_neg (by simpa using k)];omega
 rw[this,Rat.mkRat_self]
theorem Bbc {x:RatD} {f:Bool→Option R}:N_ x.av f=f x.neg:=Bak
theorem A7l {x:RatD} {f:List AV→Nat→Option R}:Ct 1 (List.drop 1 x.av) f=f (Ae x.ns.l) x.ns.l.length:=by rw[RatD.av,List.drop_succ_cons,List.drop_zero,Az6]
theorem Aga {x:RatD} {f:List AV→Nat→Option R}:Ct 1 (List.drop 2 x.av) f=f (Ae x.ds.l) x.ds.l.length:=by rw[RatD.av,List.drop_succ_cons,List.drop_succ_cons,List.drop_zero,Az6]
theorem Ky (x:RatD):Nat.ble 3 (List.length x.av)=true:=rfl
theorem El (x:RatD):List.take 3 x.av=x.av:=rfl
theorem Bal (x:RatD):List.take 2 x.av=Lc x.neg x.ns:=rfl
theorem Bck (x:RatD):Nat.beq (List.length x.av) 3=true:=rfl
theorem kX (n:Bool) (s:LS):((Nat.beq 0 0)&&((Nat.beq (List.length (Lc n s)) 2)&&(Nat.beq 2 2)))=true:=rfl
theorem mb (n:Bool) (s:LS):Nat.ble 2 (List.length (Lc n s))=true:=rfl
theorem Aka (n:Bool) (s:LS):List.take 2 (Lc n s)=Lc n s:=rfl
theorem A7m:([.int .u32 1]:List AV)=Ae [1]:=rfl
theorem A5i:Al [1]:=by intro x k;simp at k;omega
theorem DD:Ar 1=[1]:=by rw[SW (by omega)];simp[Ea]
theorem Ey {v:Nat} {S:List Nat} (k:Al S) (A:val S=v):List.take ((Ar v).length*1) (Ae S)=Ae (Ar v):=by rw[←A,Nc k]
theorem A5j (neg:Bool) (l:List Nat) (t o:Bool):([.bool neg,.imm (Ae l) l.length 1 t o]:List AV)=Lc neg (.of l t o):=rfl
theorem Ka {z:Int} {t o:Bool}:A0 (decide (z<0)) (.of (Ar z.natAbs) t o)=z:=by
 unfold A0 LS.l;rw[Aj]
 by_cases h:z<0
 ·rw[if_pos (by simpa using h)];omega
 ·rw[if_neg (by simpa using h)];omega
theorem Akd {N:Nat} {v:Int} (k:-9223372036854775808≤v∧v≤9223372036854775807) (hN:4≤N):∃ d:RatD,d.can (v:Rat)∧∀ K:LA→Option R,Dr N v K=K d.av:=by
 obtain⟨S,s1,s2,A⟩:=Akb (R:=R) (N:=N) k hN
 refine⟨⟨decide (v<0),.of (Ar v.natAbs) false false,.of (Ar 1) false false⟩,⟨rfl,rfl,rfl⟩,fun K=>?_⟩
 rw[cJ];unfold cI
 rw[A,Ey s1 s2,DD];rfl
theorem Oy {N:Nat} {x:RatD} {o:Bool} (A:x.ok) (D:fit x.m N):∃ (neg:Bool) (s:LS) (l:List Nat) (o1 o2:Bool),Al s.l∧Al l∧val l≠0∧s.l.length≤x.m∧l.length≤max x.m 1∧mkRat (A0 neg s) (val l)=x.q∧∀ K:LA→Bool→LA→Nat→Bool→Option R,Kl N x.av o K=K (Lc neg s) o1 (Ae l) l.length o2:=by
 have B:x.ns.l.length≤x.m:=Nat.le_max_left _ _
 have k:x.ds.l.length≤x.m:=Nat.le_max_right _ _
 by_cases C:val x.ds.l=0
 ·refine⟨false,.nil,[1],false,false,V9,A5i,by decide,by simp[LS.l],by simp;omega,?_,fun K=>?_⟩
  ·unfold RatD.q;rw[C];simp[A0,LS.l,val]
  ·rw[TH];unfold gK
   rw[Aga,Af2 rfl A.2 (D.le k),C,EA];rfl
 ·refine⟨x.neg,x.ns,x.ds.l,o,o,A.1,A.2,C,B,by omega,rfl,fun K=>?_⟩
  have:Ih (val x.ds.l) 0=1:=by unfold Ih;rw[if_neg (by omega),if_pos (by omega)]
  rw[TH];unfold gK
  rw[Aga,Af2 rfl A.2 (D.le k),this,show((1:Int)==0)=false by rfl,cf,show Nat.ble 2 (List.length x.av)=true by rfl,ct,Aga,Bal,kX,ct,mb,ct,Aka]
theorem Bcl (z:Int) (d:Nat) (A:d≠0):(mkRat z d).num.sign=z.sign:=by
 obtain⟨C,B,_⟩:=Af9 z d A
 rcases Int.lt_trichotomy z 0 with h | h | h
 ·rw[Int.sign_eq_neg_one_of_neg h,Int.sign_eq_neg_one_of_neg (B.2 h)]
 ·subst h;simp
 ·have hn:¬ (mkRat z d).num<0:=fun k=>by have:=B.1 k;omega
  have D:(mkRat z d).num≠0:=fun k=>by
   have:mkRat z d=0:=Rat.num_eq_zero.1 k
   rw[Rat.mkRat_eq_zero A] at this;omega
  rw[Int.sign_eq_one_of_pos h,Int.sign_eq_one_of_pos (by omega)]
theorem Oz {N:Nat} {x:RatD} {o:Bool} {K:Int→Option R} (A:x.ok) (k:fit x.m N):Xe N x.av o K=K x.q.num.sign:=by
 obtain⟨neg,s,l,o1,o2,p1,p2,B,C,G,D,F⟩:=Oy (R:=R) (o:=o) A k
 rw[ve];unfold Acm
 rw[Ky,ct,El,F,kX,ct,mb,ct,Aka,m_ p1 (k.le C),←D,Bcl _ _ B]
theorem Jx {N:Nat} {x:RatD} {o:Bool} (A:x.ok) (B:fit x.m N):(∃ (n:Int) (d:Nat),-2147483648<n∧n<2147483648∧0<d∧d<2147483648∧mkRat n d=x.q∧∀ K:Int→Int→Bool→Option R,Gy N x.av o K=K n (d:Int) true)∨(∀ K:Int→Int→Bool→Option R,Gy N x.av o K=K 0 0 false):=by
 have C:x.ns.l.length≤x.m:=Nat.le_max_left _ _
 have k:x.ds.l.length≤x.m:=Nat.le_max_right _ _
 by_cases L:val x.ns.l<2147483648
 ·by_cases I:val x.ds.l<2147483648
  ·left
   have e:∀ K:Int→Int→Bool→Option R,Gy N x.av o K=F8 N K (val x.ns.l:Int) (val x.ds.l:Int) o x.av false:=by
    intro K
    rw[CO];unfold DW
    rw[A7l,Ow rfl A.1 (B.le C),if_pos (by omega),Aga,Ow rfl A.2 (B.le k),if_pos (by omega)]
    rw[show((!true)==false)=true by rfl,ct,show((cond false true (!true))==false)=true by rfl,ct,show decide (((val x.ns.l:Nat):Int)≥2147483648)=false by rw[decide_eq_false_iff_not];omega,show((cond false true false)==false)=true by rfl,ct,show decide (((val x.ds.l:Nat):Int)≥2147483648)=false by rw[decide_eq_false_iff_not];omega]
    rfl
   by_cases F:val x.ds.l=0
   ·refine⟨0,1,by omega,by omega,by omega,by omega,by unfold RatD.q;rw[F];simp,fun K=>?_⟩
    rw[e];unfold F8
    rw[cf,Bdq F,ct];rfl
   ·have hn:=Cz x.neg x.ns
    refine⟨A0 x.neg x.ns,val x.ds.l,by omega,by omega,by omega,I,rfl,fun K=>?_⟩
    rw[e];unfold F8
    rw[cf,Aj9 F,cf,Bbc,i64 (a:=((val x.ns.l:Nat):Int)) (by omega),i64 (a:=((val x.ds.l:Nat):Int)) (by omega)]
    unfold A0
    cases x.neg
    ·rfl
    ·rw[ct,i64 (by omega),Int.zero_sub];rfl
  ·right
   intro K
   rw[CO];unfold DW
   rw[A7l,Ow rfl A.1 (B.le C),if_pos (by omega),Aga,Ow rfl A.2 (B.le k),show((!true)==false)=true by rfl]
   by_cases D:val x.ds.l<18446744073709551616
   ·rw[if_pos D,ct,show((cond false true (!true))==false)=true by rfl,ct,show decide (((val x.ns.l:Nat):Int)≥2147483648)=false by rw[decide_eq_false_iff_not];omega,show((cond false true false)==false)=true by rfl,ct,show decide (((val x.ds.l:Nat):Int)≥2147483648)=true by rw[decide_eq_true_eq];omega]
    unfold F8;rfl
   ·rw[if_neg D,ct,show((cond false true (!false))==false)=false by rfl,cf]
    unfold F8;rfl
 ·right
  intro K
  rw[CO];unfold DW
  rw[A7l,Ow rfl A.1 (B.le C)]
  by_cases D:val x.ns.l<18446744073709551616
  ·rw[if_pos D,Aga,Ow rfl A.2 (B.le k),show((!true)==false)=true by rfl,show decide (((val x.ns.l:Nat):Int)≥2147483648)=true by rw[decide_eq_true_eq];omega]
   by_cases G:val x.ds.l<18446744073709551616
   ·rw[if_pos G,ct,show((cond false true (!true))==false)=true by rfl,ct]
    unfold F8;rfl
   ·rw[if_neg G,ct,show((cond false true (!false))==false)=false by rfl,cf]
    unfold F8;rfl
  ·rw[if_neg D,Aga,Ow rfl A.2 (B.le k),show((!false)==false)=false by rfl]
   split<;>(rw[cf];unfold F8;rfl)
theorem Ans {N:Nat} {a b c:Nat} {s:Int} (hN:4≤N) (L:a<18446744073709551616) (hb:b<9223372036854775808) (M:0<c) (O:c∣a):∀ (k fuel x y:Nat),k<fuel→x*y<2 ^ k→y≤x→Nat.gcd x y=c→∃ d:RatD,d.neg=decide (s<0)∧d.ns.l=Ar (a/c)∧d.ds.l=Ar (b/c)∧∀ K:LA→Option R,Dc N K s (b:Int) (a:Int) fuel (x:Int) (y:Int)=K d.av:=by
 have base:∀ (fuel:Nat),∃ d:RatD,d.neg=decide (s<0)∧d.ns.l=Ar (a/c)∧d.ds.l=Ar (b/c)∧∀ K:LA→Option R,Dc N K s (b:Int) (a:Int) (fuel+1) (c:Int) ((0:Nat):Int)=K d.av:=by
  intro fuel
  have G:a/c<18446744073709551616:=Nat.lt_of_le_of_lt (Nat.div_le_self _ _) L
  have I:b/c<18446744073709551616:=Nat.lt_of_le_of_lt (Nat.div_le_self _ _) (by omega)
  obtain⟨S1,s1,s2,S⟩:=Lx (R:=R) (N:=N) G hN
  obtain⟨S2,t1,t2,t3⟩:=Lx (R:=R) (N:=N) I hN
  refine⟨⟨decide (s<0),.of (Ar (a/c)) false false,.of (Ar (b/c)) false false⟩,rfl,rfl,rfl,fun K=>?_⟩
  rw[Dc];unfold Mu
  rw[show(((0:Nat):Int) != 0)=false by rfl,cf,Aj9 (by omega),cf,kW,Jk G,S,cf,Jk (show b<18446744073709551616 by omega),kW,Jk I,t3,Ey s1 s2,Ey t1 t2];rfl
 intro k
 induction k with
 | zero =>
  intro fuel x y T A C B
  obtain⟨fuel,rfl⟩:∃ F,fuel=F+1:=⟨fuel - 1,by omega⟩
  have U:y=0:=by
   rcases Nat.eq_zero_or_pos y with h | h
   ·exact h
   ·have h3:=Nat.mul_le_mul_left x (show 1≤y by omega)
    rw[Nat.pow_zero] at A;omega
  subst U
  rw[Nat.gcd_zero_right] at B;subst B
  exact base fuel
 | succ k V =>
  intro fuel x y T A C B
  obtain⟨fuel,rfl⟩:∃ F,fuel=F+1:=⟨fuel - 1,by omega⟩
  rcases Nat.eq_zero_or_pos y with h | h
  ·subst h;rw[Nat.gcd_zero_right] at B;subst B;exact base fuel
  ·have hh:=eR (show 1≤y by omega) C
   have hm:=Nat.mod_lt x h
   have D:Nat.gcd y (x%y)=Nat.gcd x y:=by rw[Nat.gcd_comm,←Nat.gcd_rec,Nat.gcd_comm]
   obtain⟨d,Y,d2,d3,d4⟩:=V fuel y (x%y) (by omega) (by rw[Nat.pow_succ] at A;omega) (by omega) (by rw[D,B])
   refine⟨d,Y,d2,d3,fun K=>?_⟩
   rw[Dc];unfold Mu
   rw[show((y:Int) != 0)=true by rw[bne_iff_ne];omega,ct,Aj9 (by omega),cf,eO]
   exact d4 K
theorem NB {N:Nat} {s:Int} {b:Nat} (hs:-9223372036854775808≤s∧s≤9223372036854775807) (C:0<b) (O:b<9223372036854775808) (hN:1000≤N):∃ d:RatD,d.can (mkRat s b)∧∀ K:LA→Option R,I6 N s (b:Int) K=K d.av:=by
 obtain⟨m1,m2,m3⟩:=Af9 s b (by omega)
 have k:∀ d:RatD,d.neg=decide (s<0)→d.ns.l=Ar (s.natAbs/Nat.gcd s.natAbs b)→d.ds.l=Ar (b/Nat.gcd s.natAbs b)→d.can (mkRat s b):=by
  intro d S T U
  exact⟨by rw[S];congr 1;exact propext m2.symm,by rw[T,m1],by rw[U,m3]⟩
 have B:s.natAbs<18446744073709551616:=by omega
 have start:∀ K:LA→Option R,I6 N s (b:Int) K=Dc N K s (b:Int) (s.natAbs:Int) N (b:Int) (s.natAbs:Int):=by
  intro K
  rw[W_];unfold CP Uf Z6
  dsimp only
  by_cases h:s<0
  ·have e:IntKind.wrap .u64 ((0:Int) - IntKind.wrap .u64 s)=(s.natAbs:Int):=by rw[l8,l8];omega
   rw[decide_eq_true h,ct,e,Jk (by omega)]
  ·have e:IntKind.wrap .u64 s=(s.natAbs:Int):=by rw[l8];omega
   rw[decide_eq_false h,cf,e,Jk (by omega)]
 have A:0<Nat.gcd s.natAbs b:=Nat.gcd_pos_of_pos_right _ C
 by_cases D:s.natAbs≤b
 ·obtain⟨d,G,I,L,M⟩:=Ans (R:=R) (N:=N) (a:=s.natAbs) (b:=b) (c:=Nat.gcd s.natAbs b) (s:=s) (by omega) B O A (Nat.gcd_dvd_left _ _) 128 N b s.natAbs (by omega) (by
   have:=Nat.mul_lt_mul'' (show b<18446744073709551616 by omega) B;exact this) D (Nat.gcd_comm _ _)
  exact⟨d,k d G I L,fun K=>by rw[start,M]⟩
 ·obtain⟨F,hF⟩:∃ F,N=F+1:=⟨N - 1,by omega⟩
  obtain⟨d,G,I,L,M⟩:=Ans (R:=R) (N:=N) (a:=s.natAbs) (b:=b) (c:=Nat.gcd s.natAbs b) (s:=s) (by omega) B O A (Nat.gcd_dvd_left _ _) 128 F s.natAbs (b%s.natAbs) (by omega) (by
   rw[Nat.mod_eq_of_lt (by omega)]
   have:=Nat.mul_lt_mul'' B (show b<18446744073709551616 by omega);exact this) (by rw[Nat.mod_eq_of_lt (by omega)];omega) (by rw[Nat.mod_eq_of_lt (by omega)])
  refine⟨d,k d G I L,fun K=>?_⟩
  rw[start,←M K]
  conv=>lhs;rw[show(Dc N K s (b:Int) (s.natAbs:Int) N)=Dc N K s (b:Int) (s.natAbs:Int) (F+1) by rw[←hF]]
  rw[Dc];unfold Mu
  rw[show(((s.natAbs:Nat):Int) != 0)=true by rw[bne_iff_ne];omega,ct,Aj9 (by omega),cf,eO]
end
end Gx

namespace Gx
open Go Go.Proofs
section
variable {R:Type}
theorem A83 {S:List Nat} {g:Nat} (B:Al S) (C:val S=g) (A:(Ar g).length=1) {f:Int→Option R}:Ao .u32 (Ae S) f=f (g:Int):=by
 have D:=(Bu B).2
 rw[C,A] at D
 have k:=Auo B
 rw[C,A] at k
 obtain⟨a,F⟩:∃ a,Ar g=[a]:=by
  match h:Ar g,A with
  | [a],_=>exact⟨a,rfl⟩
 have G:a=g:=by have:=Aj g;rw[F] at this;simpa[val] using this
 rw[F,G] at k
 match S,D,k with
 | x::r,_,k =>
  simp at k;subst k
  rw[DS,Az]
theorem LB {N:Nat} {neg:Bool} {s:LS} {l:List Nat} {n:Nat} {o t o':Bool} (hn:n=l.length) (hs:Al s.l) (S:Al l) (C:val l≠0) (A:fit (2*(s.l.length+l.length)+8) N) :
  ∃ d:RatD,d.can (mkRat (A0 neg s) (val l))∧∀ K:LA→Option R,Ng N (Lc neg s) o (Ae l) n t o' K=K d.av:=by
 obtain⟨m1,m2,m3⟩:=Af9 (A0 neg s) (val l) C
 have D:=Cz neg s
 have ls:=(Bu hs).2
 have ll:=(Bu S).2
 generalize hz:A0 neg s=z at *
 have start:∀ K:LA→Option R,Ng N (Lc neg s) o (Ae l) n t o' K=cond ((((Ar z.natAbs).length:Nat):Int)==(0:Int)) (K [(.bool false),.nsl,(.imm [(.int .u32 1)] 1 1 false false)]) (dM N (Ae (Ar z.natAbs)) (Ar z.natAbs).length false true (Ae (Ar (val l))) (Ar (val l)).length false true (fun f g=>(cond ((((f:Nat):Int) != (1:Int))==false) (cond (Ad (0:Int) f) (Ao .u32 g fun y=>(cond (cond false true (y != (1:Int))) (E6 N (Ae (Ar z.natAbs)) (Ar z.natAbs).length false true (List.take (f*1) g) f false true (fun p ae af z2 ag=>(E6 N (Ae (Ar (val l))) (Ar (val l)).length false true (List.take (f*1) g) f false true (fun q ah ai aa aj=>(K [(.bool (decide (z<0))),(.imm (List.take (p*1) z2) p 1 false false),(.imm (List.take (q*1) aa) q 1 false false)]))))) (K [(.bool (decide (z<0))),(.imm (Ae (Ar z.natAbs)) (Ar z.natAbs).length 1 false false),(.imm (Ae (Ar (val l))) (Ar (val l)).length 1 false false)]))) none) (E6 N (Ae (Ar z.natAbs)) (Ar z.natAbs).length false true (List.take (f*1) g) f false true (fun r ak al ab am=>(E6 N (Ae (Ar (val l))) (Ar (val l)).length false true (List.take (f*1) g) f false true (fun s an ao ac ap=>(K [(.bool (decide (z<0))),(.imm (List.take (r*1) ab) r 1 false false),(.imm (List.take (s*1) ac) s 1 false false)])))))))):=by
  intro K
  rw[jq];unfold mR
  have tk:∀ v:Nat,List.take ((Ar v).length*1) (Ae (Ar v))=Ae (Ar v):=fun v=>Ey (Ac _) (Aj v)
  rw[Uo,Qq,show Nat.beq (List.length (Lc neg s)) 2=true by rfl,ct,A5j,Az7 (s1:=.of s.l false o) hs (A.le (by simp[LS.l];omega)),show A0 neg (.of s.l false o)=z by rw[←hz];rfl,ge hn S (A.le (by omega)),tk,tk]
 by_cases T:z=0
 ·refine⟨⟨false,.nil,.of [1] false false⟩,?_,fun K=>?_⟩
  ·rw[T];simp only[Rat.zero_mkRat]
   exact⟨rfl,rfl,DD.symm⟩
  ·rw[start,T];rfl
 ·have F:z.natAbs≠0:=by omega
  have B:(Ar z.natAbs).length≠0:=fun h=>F (By.1 h)
  have hg0:0<Nat.gcd z.natAbs (val l):=Nat.gcd_pos_of_pos_right _ (by omega)
  have lz:(Ar z.natAbs).length≤s.l.length:=by rw[D];exact ls
  obtain⟨G,U,I,V⟩:=A7g (R:=R) (N:=N) (a:=Ar z.natAbs) (b:=Ar (val l)) (t:=false) (o:=true) (t':=false) (o':=true) rfl rfl (Ac _) (Ac _) (A.le (by omega))
  rw[Aj,Aj] at I V
  have lg:(Ar (Nat.gcd z.natAbs (val l))).length≤l.length:=Nat.le_trans (B9 (Nat.gcd_le_right _ (by omega))) ll
  obtain⟨Q1,R1,a1,a2,a3,a4,a5⟩:=eQ (R:=R) (N:=N) (a:=Ar z.natAbs) (b:=Ar (Nat.gcd z.natAbs (val l))) (t:=false) (o:=true) (t':=false) (o':=true) rfl rfl (Ac _) (Ac _) (by rw[Aj];omega) (A.le (by omega))
  obtain⟨Q2,R2,Y,L,b3,b4,M⟩:=eQ (R:=R) (N:=N) (a:=Ar (val l)) (b:=Ar (Nat.gcd z.natAbs (val l))) (t:=false) (o:=true) (t':=false) (o':=true) rfl rfl (Ac _) (Ac _) (by rw[Aj];omega) (A.le (by omega))
  rw[Aj,Aj] at a2 a5 L M
  have O:decide (z<0)=decide ((mkRat z (val l)).num<0):=by congr 1;exact propext m2.symm
  refine⟨⟨decide (z<0),.of (Ar (z.natAbs/Nat.gcd z.natAbs (val l))) false false,.of (Ar (val l/Nat.gcd z.natAbs (val l))) false false⟩,⟨O,by rw[m1];rfl,by rw[m3];rfl⟩,fun K=>?_⟩
  rw[start,Aj9 B,cf,V,Ey U I]
  by_cases k:(Ar (Nat.gcd z.natAbs (val l))).length=1
  ·rw[show((((((Ar (Nat.gcd z.natAbs (val l))).length:Nat):Int) != (1:Int))==false))=true by rw[k];rfl,ct,show Ad 0 (Ar (Nat.gcd z.natAbs (val l))).length=true by rw[k];rfl,ct,A83 U I k]
   by_cases he:Nat.gcd z.natAbs (val l)=1
   ·rw[he,show(cond false true (((1:Nat):Int) != 1))=false by rfl,cf,Nat.div_one,Nat.div_one];rfl
   ·rw[show(cond false true (((Nat.gcd z.natAbs (val l):Nat):Int) != 1))=true by (show(((Nat.gcd z.natAbs (val l):Nat):Int) != 1)=true;rw[bne_iff_ne];omega),ct,a5,M,Ey a1 a2,Ey Y L];rfl
  ·rw[show((((((Ar (Nat.gcd z.natAbs (val l))).length:Nat):Int) != (1:Int))==false))=false by (rw[show((((Ar (Nat.gcd z.natAbs (val l))).length:Nat):Int) != (1:Int))=true by rw[bne_iff_ne];omega];rfl),cf,a5,M,Ey a1 a2,Ey Y L];rfl
theorem UU {N:Nat} {x:RatD} {o:Bool} (B:x.ok) (k:fit (4*x.m+10) N):∃ d:RatD,d.can x.q∧∀ K:LA→Option R,CT N x.av o K=K d.av:=by
 have I:=k.1
 rcases Jx (R:=R) (N:=N) (o:=o) B (k.le (by omega)) with⟨n,d,n1,n2,C,L,e,hK⟩ | hK
 ·obtain⟨c,c1,A⟩:=NB (R:=R) (N:=N) (s:=n) (b:=d) (by omega) C (by omega) (by omega)
  rw[e] at c1
  refine⟨c,c1,fun K=>?_⟩
  rw[dN];unfold pM
  rw[Ky,ct,El,hK,ct,A];rfl
 ·obtain⟨neg,s,l,o1,o2,p1,p2,D,M,O,F,G⟩:=Oy (R:=R) (N:=N) (o:=o) B (k.le (by omega))
  obtain⟨c,c1,A⟩:=LB (R:=R) (N:=N) (neg:=neg) (s:=s) (l:=l) (n:=l.length) (o:=o1) (t:=false) (o':=o2) rfl p1 p2 D (k.le (by omega))
  rw[F] at c1
  refine⟨c,c1,fun K=>?_⟩
  rw[dN];unfold pM
  rw[Ky,ct,El,hK,cf,ct,G,A];rfl
def GU (x y:Rat):Int:=if x<y then -1 else if y<x then 1 else 0
theorem A2d {d:Nat} (h:0<d):(0:Rat)<(d:Rat):=Rat.natCast_pos.2 h
theorem A2e {a c:Int} {b d:Nat} (k:0<b) (A:0<d):mkRat a b<mkRat c d↔a*d<c*b:=by
 rw[Rat.mkRat_eq_div,Rat.mkRat_eq_div,Rat.div_lt_iff (A2d k)]
 have e:(c:Rat)/(d:Rat)*(b:Rat)=(c*b:Rat)/(d:Rat):=by rw[Rat.div_def,Rat.div_def,Rat.mul_assoc,Rat.mul_assoc,Rat.mul_comm (d:Rat)⁻¹]
 rw[e,Rat.lt_div_iff (A2d A)]
 have e1:(a:Rat)*(d:Rat)=((a*d:Int):Rat):=by rw[Rat.intCast_mul];rfl
 have B:(c:Rat)*(b:Rat)=((c*b:Int):Rat):=by rw[Rat.intCast_mul];rfl
 rw[e1,B,Rat.intCast_lt_intCast]
theorem A2f {a c:Int} {b d:Nat} (k:0<b) (A:0<d):GU (mkRat a b) (mkRat c d)=qI (a*d) (c*b):=by
 unfold GU qI
 by_cases h:a*d<c*b
 ·rw[if_pos h,if_pos ((A2e k A).2 h)]
 ·rw[if_neg h,if_neg (fun C=>h ((A2e k A).1 C))]
  by_cases B:c*b<a*d
  ·rw[if_pos B,if_pos ((A2e A k).2 B)]
  ·rw[if_neg B,if_neg (fun C=>B ((A2e A k).1 C))]
theorem Avm {N:Nat} {a b:Int} {K:Int→Option R}:Is N a b K=K (qI a b):=by
 rw[AO];unfold We
 simp only[JM];unfold FC
 rw[show(a != a)=false by simp,show(b != b)=false by simp]
 dsimp only
 rw[cf,cf]
 unfold qI
 by_cases h:a<b
 ·rw[decide_eq_true h,ct,if_pos h]
 ·rw[decide_eq_false h,cf,if_neg h]
  by_cases k:b<a
  ·rw[decide_eq_true (show a>b from k),ct,if_pos k]
  ·rw[decide_eq_false (show ¬ a>b from k),cf,if_neg k]
theorem Ake {N:Nat} {a b:Int} {K:Int→Option R}:Gf N a b K=K (qI a b):=by
 rw[Vh];unfold Si
 simp only[AQ];unfold Wg
 rw[show(a != a)=false by simp,show(b != b)=false by simp]
 dsimp only
 rw[cf,cf]
 unfold qI
 by_cases h:a<b
 ·rw[decide_eq_true h,ct,if_pos h]
 ·rw[decide_eq_false h,cf,if_neg h]
  by_cases k:b<a
  ·rw[decide_eq_true (show a>b from k),ct,if_pos k]
  ·rw[decide_eq_false (show ¬ a>b from k),cf,if_neg k]
theorem A7n {p q:Rat} (h:p.num.sign<q.num.sign):p<q:=by
 rw[Rat.lt_iff]
 have B:=p.den_pos;have C:=q.den_pos
 rcases Int.lt_trichotomy p.num 0 with k | k | k
 ·rcases Int.lt_or_le q.num 0 with A | A
  ·rw[Int.sign_eq_neg_one_of_neg k,Int.sign_eq_neg_one_of_neg A] at h;omega
  ·have x1:p.num*q.den<0:=Int.mul_neg_of_neg_of_pos k (by omega)
   have x2:0≤q.num*p.den:=Int.mul_nonneg A (by omega)
   omega
 ·rw[k] at h ⊢
  have:0<q.num:=by simpa using h
  have x2:0<q.num*p.den:=Int.mul_pos this (by omega)
  rw[Int.zero_mul];exact x2
 ·rw[Int.sign_eq_one_of_pos k] at h
  have:=Int.sign_trichotomy q.num
  omega
theorem UV {a b:Int} (A:-2147483648<a∧a<2147483648) (B:-2147483648<b∧b<2147483648):-4611686018427387904<a*b∧a*b<4611686018427387904:=by
 have k:a.natAbs*b.natAbs≤2147483647*2147483647:=Nat.mul_le_mul (by omega) (by omega)
 rw[←Int.natAbs_mul] at k
 omega
theorem NC {N:Nat} {x y:RatD} {o o':Bool} {K:Int→Option R} (F:x.ok) (B:y.ok) (k:fit (4*(x.m+y.m)+10) N):Hu N x.av o y.av o' K=K (GU x.q y.q):=by
 have h1:=k.1
 rw[c_];unfold JX
 rw[Ky,ct,El,Oz F (k.le (by omega)),Ky,ct,El,Oz B (k.le (by omega))]
 by_cases hs:x.q.num.sign=y.q.num.sign
 ·rw[show(x.q.num.sign != y.q.num.sign)=false by simp[hs],cf,ct]
  have gen:Rd N K o x.av o' y.av=K (GU x.q y.q):=by
   obtain⟨n1,s1,l1,a1,C,p1,p2,p3,O,S,T,U⟩:=Oy (R:=R) (N:=N) (o:=o) F (k.le (by omega))
   obtain⟨n2,s2,l2,a2,D,I,L,q3,V,Y,q6,q7⟩:=Oy (R:=R) (N:=N) (o:=o') B (k.le (by omega))
   obtain⟨S1,t1,t2,t3⟩:=P' (R:=R) (N:=N) (n1:=n1) (n2:=false) (s1:=s1) (s2:=.of l2 false D) (o1:=a1) (o2:=(D||false)) p1 L (k.le (show s1.l.length+l2.length≤_ by omega))
   obtain⟨S2,u1,u2,u3⟩:=P' (R:=R) (N:=N) (n1:=n2) (n2:=false) (s1:=s2) (s2:=.of l1 false C) (o1:=a2) (o2:=(C||false)) I p2 (k.le (show s2.l.length+l1.length≤_ by omega))
   have v1:A0 false (.of l2 false D)=(val l2:Int):=rfl
   have v2:A0 false (.of l1 false C)=(val l1:Int):=rfl
   rw[v1] at t2 t3;rw[v2] at u2 u3
   have l1':(Ar (A0 n1 s1*(val l2:Int)).natAbs).length≤x.m+max y.m 1:=Nat.le_trans (Es (by
    rw[Int.natAbs_mul,Cz,Int.natAbs_natCast,Nat.pow_add]
    exact Nat.mul_lt_mul'' (Nat.lt_of_lt_of_le (Bm p1) (Nat.pow_le_pow_right (by omega) O)) (Nat.lt_of_lt_of_le (Bm L) (Nat.pow_le_pow_right (by omega) Y)))) (Nat.le_refl _)
   have l2':(Ar (A0 n2 s2*(val l1:Int)).natAbs).length≤y.m+max x.m 1:=Nat.le_trans (Es (by
    rw[Int.natAbs_mul,Cz,Int.natAbs_natCast,Nat.pow_add]
    exact Nat.mul_lt_mul'' (Nat.lt_of_lt_of_le (Bm I) (Nat.pow_le_pow_right (by omega) V)) (Nat.lt_of_lt_of_le (Bm p2) (Nat.pow_le_pow_right (by omega) S)))) (Nat.le_refl _)
   unfold Rd
   rw[Ky,ct,El,U,kX,ct,Ky,ct,El,q7,kX,ct,mb,ct,Aka,A5j,t3,mb,ct,Aka,A5j,u3,Ey t1 t2,Ey u1 u2,A5j,A5j,Akc (s1:=.of (Ar (A0 n1 s1*(val l2:Int)).natAbs) false true) (s2:=.of (Ar (A0 n2 s2*(val l1:Int)).natAbs) false true) (Ac _) (Ac _) (k.le (show(Ar (A0 n1 s1*(val l2:Int)).natAbs).length+(Ar (A0 n2 s2*(val l1:Int)).natAbs).length≤_ by omega)),Ka,Ka,←T,←q6,A2f (by omega) (by omega)]
  rcases Jx (R:=R) (N:=N) (o:=o) F (k.le (by omega)) with⟨n,d,n1,n2,d1,d2,e,hK⟩ | hK
  ·rcases Jx (R:=R) (N:=N) (o:=o') B (k.le (by omega)) with⟨n',d',n1',n2',A,G,e',hK'⟩ | hK'
   ·have C:=UV (a:=n) (b:=(d':Int)) ⟨n1,n2⟩ (by omega)
    have D:=UV (a:=n') (b:=(d:Int)) ⟨n1',n2'⟩ (by omega)
    rw[hK,ct,hK',show((true:Bool)==true)=true by rfl,ct,Axi,ct,Ake,i64 (by omega),i64 (by omega),←e,←e',A2f d1 A]
   ·rw[hK,ct,hK',show((true:Bool)==true)=true by rfl,ct,Axi,cf,gen]
  ·rcases Jx (R:=R) (N:=N) (o:=o') B (k.le (by omega)) with⟨n',d',n1',n2',A,G,e',hK'⟩ | hK'
   ·rw[hK,ct,hK',show((false:Bool)==true)=false by rfl,cf,gen]
   ·rw[hK,ct,hK',show((false:Bool)==true)=false by rfl,cf,gen]
 ·rw[show(x.q.num.sign != y.q.num.sign)=true by simp[hs],ct,Avm]
  congr 1
  unfold qI GU
  by_cases h:x.q.num.sign<y.q.num.sign
  ·rw[if_pos h,if_pos (A7n h)]
  ·have M:y.q.num.sign<x.q.num.sign:=by omega
   have:=A7n M
   rw[if_neg h,if_pos M,if_neg (fun hh=>absurd (Rat.le_of_lt this) (Rat.not_le.2 hh)),if_pos this]
end
end Gx

namespace Gx
open Go Go.Proofs
section
variable {R:Type}
theorem Avn {q:Rat} (h:q.num.sign=0):q=0:=Rat.num_eq_zero.1 (Int.sign_eq_zero_iff_zero.1 h)
theorem O0 {a b:Int} {k l:Nat} (A:a.natAbs<4294967296 ^ k) (B:b.natAbs<4294967296 ^ l):(a*b).natAbs<4294967296 ^ (k+l):=by
 rw[Int.natAbs_mul,Nat.pow_add];exact Nat.mul_lt_mul'' A B
theorem qJ {a b:Int} {k:Nat} (A:a.natAbs<4294967296 ^ k) (B:b.natAbs<4294967296 ^ k):(a+b).natAbs<4294967296 ^ (k+1):=by
 rw[Nat.pow_succ];omega
theorem H0 {k l:Nat} (h:k≤l):4294967296 ^ k≤4294967296 ^ l:=Nat.pow_le_pow_right (by omega) h
theorem A7o {v k:Nat} (h:(Ar v).length≤k):v<4294967296 ^ k:=by
 have:=Bm (Ac v);rw[Aj] at this
 exact Nat.lt_of_lt_of_le this (H0 h)
theorem Avo (p r:Int) (d:Nat) (k:d≠0):mkRat (p+r) d=mkRat p d+mkRat r d:=by
 rw[Rat.mkRat_add_mkRat _ _ k k,←Int.add_mul]
 exact(Rat.mkRat_mul_right k).symm
theorem A84 {N:Nat} {x y:RatD} {o o':Bool} (hx:x.ok) (hy:y.ok) (A:fit (8*(x.m+y.m)+40) N):∃ d:RatD,d.can (x.q+y.q)∧∀ K:LA→Option R,PQ N K o x.av o' y.av=K d.av:=by
 obtain⟨n1,s1,l1,a1,B,p1,p2,D,p4,p5,L,M⟩:=Oy (R:=R) (N:=N) (o:=o) hx (A.le (by omega))
 obtain⟨n2,s2,l2,a2,F,G,C,O,q4,q5,T,U⟩:=Oy (R:=R) (N:=N) (o:=o') hy (A.le (by omega))
 have zl1:(A0 n1 s1).natAbs<4294967296 ^ x.m:=by rw[Cz];exact Nat.lt_of_lt_of_le (Bm p1) (H0 p4)
 have zl2:(A0 n2 s2).natAbs<4294967296 ^ y.m:=by rw[Cz];exact Nat.lt_of_lt_of_le (Bm G) (H0 q4)
 have dl1:((val l1:Nat):Int).natAbs<4294967296 ^ (x.m+1):=by rw[Int.natAbs_natCast];exact Nat.lt_of_lt_of_le (Bm p2) (H0 (by omega))
 have dl2:((val l2:Nat):Int).natAbs<4294967296 ^ (y.m+1):=by rw[Int.natAbs_natCast];exact Nat.lt_of_lt_of_le (Bm C) (H0 (by omega))
 by_cases V:val l1=val l2
 ·obtain⟨S,t1,t2,t3⟩:=Anr (R:=R) (N:=N) (n1:=n1) (n2:=n2) (s1:=s1) (s2:=s2) (o1:=a1) (o2:=a2) p1 G (A.le (by omega))
  have lz:(Ar (A0 n1 s1+A0 n2 s2).natAbs).length≤x.m+y.m+1:=Es (qJ (k:=x.m+y.m) (Nat.lt_of_lt_of_le zl1 (H0 (by omega))) (Nat.lt_of_lt_of_le zl2 (H0 (by omega))))
  obtain⟨c,c1,I⟩:=LB (R:=R) (N:=N) (neg:=decide (A0 n1 s1+A0 n2 s2<0)) (s:=.of (Ar (A0 n1 s1+A0 n2 s2).natAbs) false true) (l:=l1) (n:=l1.length) (o:=true) (t:=false) (o':=B) rfl (Ac _) p2 D (A.le (show 2*((Ar (A0 n1 s1+A0 n2 s2).natAbs).length+l1.length)+8≤_ by omega))
  rw[Ka,Avo _ _ _ D,L] at c1
  rw[show mkRat (A0 n2 s2) (val l1)=y.q by rw[V,T]] at c1
  refine⟨c,c1,fun K=>?_⟩
  unfold PQ
  rw[Ky,ct,El,M,kX,ct,Ky,ct,El,U,kX,ct,To rfl rfl p2 C (A.le (by omega)),V,EA,show((0:Int)==0)=true by rfl,ct,mb,ct,mb,ct,Aka,Aka,t3,Ey t1 t2,A5j,I];rfl
 ·obtain⟨S1,t1,t2,t3⟩:=P' (R:=R) (N:=N) (n1:=n1) (n2:=false) (s1:=s1) (s2:=.of l2 false F) (o1:=a1) (o2:=(F||false)) p1 C (A.le (show s1.l.length+l2.length≤_ by omega))
  obtain⟨S2,u1,u2,u3⟩:=P' (R:=R) (N:=N) (n1:=n2) (n2:=false) (s1:=s2) (s2:=.of l1 false B) (o1:=a2) (o2:=(B||false)) G p2 (A.le (show s2.l.length+l1.length≤_ by omega))
  rw[show A0 false (.of l2 false F)=(val l2:Int) by rfl] at t2 t3
  rw[show A0 false (.of l1 false B)=(val l1:Int) by rfl] at u2 u3
  have z1:=O0 zl1 dl2
  have z2:=O0 zl2 dl1
  have L1:=Es z1
  have L2:=Es z2
  obtain⟨S3,w1,Y,w3⟩:=Anr (R:=R) (N:=N) (n1:=decide (A0 n1 s1*(val l2:Int)<0)) (n2:=decide (A0 n2 s2*(val l1:Int)<0)) (s1:=.of (Ar (A0 n1 s1*(val l2:Int)).natAbs) false true) (s2:=.of (Ar (A0 n2 s2*(val l1:Int)).natAbs) false true) (o1:=true) (o2:=true) (Ac _) (Ac _) (A.le (show(Ar (A0 n1 s1*(val l2:Int)).natAbs).length+(Ar (A0 n2 s2*(val l1:Int)).natAbs).length+1≤_ by omega))
  rw[Ka,Ka] at Y w3
  obtain⟨S4,v1,v2,v3⟩:=eN (R:=R) (N:=N) (a:=l1) (b:=l2) (t:=false) (o:=B) (t':=false) (o':=F) rfl rfl p2 C (A.le (by omega))
  have z3:=qJ (k:=x.m+y.m+1) (Nat.lt_of_lt_of_le z1 (H0 (by omega))) (Nat.lt_of_lt_of_le z2 (H0 (by omega)))
  have L3:=Es z3
  have z4:val l1*val l2<4294967296 ^ (x.m+1+(y.m+1)):=by
   have:=O0 dl1 dl2;rw[Int.natAbs_mul,Int.natAbs_natCast,Int.natAbs_natCast] at this;exact this
  have L4:=Es z4
  obtain⟨c,c1,I⟩:=LB (R:=R) (N:=N) (neg:=decide (A0 n1 s1*(val l2:Int)+A0 n2 s2*(val l1:Int)<0)) (s:=.of (Ar (A0 n1 s1*(val l2:Int)+A0 n2 s2*(val l1:Int)).natAbs) false true) (l:=Ar (val l1*val l2)) (n:=(Ar (val l1*val l2)).length) (o:=true) (t:=false) (o':=true) rfl (Ac _) (Ac _) (by rw[Aj];exact Nat.mul_ne_zero D O) (A.le (show 2*((Ar (A0 n1 s1*(val l2:Int)+A0 n2 s2*(val l1:Int)).natAbs).length+(Ar (val l1*val l2)).length)+8≤_ by omega))
  rw[Ka,Aj,←Rat.mkRat_add_mkRat _ _ D O,L,T] at c1
  refine⟨c,c1,fun K=>?_⟩
  unfold PQ
  have hc:(Ih (val l1) (val l2)==0)=false:=by
   rw[beq_eq_false_iff_ne];unfold Ih;split
   ·omega
   ·rw[if_pos (by omega)];omega
  rw[Ky,ct,El,M,kX,ct,Ky,ct,El,U,kX,ct,To rfl rfl p2 C (A.le (by omega)),hc,cf,mb,ct,Aka,A5j,t3,mb,ct,Aka,A5j,u3,Ey t1 t2,Ey u1 u2,A5j,A5j,w3,v3,Ey w1 Y,Ey v1 v2,A5j,I];rfl
theorem Ant {N:Nat} {x y:RatD} {o o':Bool} (B:x.ok) (C:y.ok) (k:fit (8*(x.m+y.m)+40) N):∃ d:RatD,d.can (x.q+y.q)∧∀ K:LA→Option R,TX N x.av o y.av o' K=K d.av:=by
 have T:=k.1
 by_cases G:x.q.num.sign=0
 ·obtain⟨c,c1,A⟩:=UU (R:=R) (N:=N) (o:=o') C (k.le (by omega))
  refine⟨c,by rw[Avn G,Rat.zero_add];exact c1,fun K=>?_⟩
  rw[TY];unfold gT
  rw[Ky,ct,El,Oz B (k.le (by omega)),G,show((0:Int)==0)=true by rfl,ct,Ky,ct,El,A];rfl
 ·have D:(x.q.num.sign==0)=false:=by rw[beq_eq_false_iff_ne];exact G
  by_cases I:y.q.num.sign=0
  ·obtain⟨c,c1,A⟩:=UU (R:=R) (N:=N) (o:=o) B (k.le (by omega))
   refine⟨c,by rw[Avn I,Rat.add_zero];exact c1,fun K=>?_⟩
   rw[TY];unfold gT
   rw[Ky,ct,El,Oz B (k.le (by omega)),D,cf,Ky,ct,El,Oz C (k.le (by omega)),I,show((0:Int)==0)=true by rfl,ct,ct,A];rfl
  ·have L:(y.q.num.sign==0)=false:=by rw[beq_eq_false_iff_ne];exact I
   have start:∀ K:LA→Option R,TX N x.av o y.av o' K=Gy N x.av o (fun g e aw=>Gy N y.av o' (fun i f ax=>(cond (aw==true) (Tl N K g e i f o x.av o' y.av (cond true ax false)) (Tl N K g e i f o x.av o' y.av false)))):=by
    intro K
    rw[TY];unfold gT
    rw[Ky,ct,El,Oz B (k.le (by omega)),D,cf,Ky,ct,El,Oz C (k.le (by omega)),L,cf,ct];rfl
   have gen:∃ d:RatD,d.can (x.q+y.q)∧∀ (K:LA→Option R) (g e i f:Int),Tl N K g e i f o x.av o' y.av false=K d.av:=by
    obtain⟨c,c1,A⟩:=A84 (R:=R) (N:=N) (o:=o) (o':=o') B C k
    exact⟨c,c1,fun K g e i f=>by unfold Tl TW;rw[cf,A]⟩
   rcases Jx (R:=R) (N:=N) (o:=o) B (k.le (by omega)) with⟨n,d,n1,n2,O,U,e,hK⟩ | hK
   ·rcases Jx (R:=R) (N:=N) (o:=o') C (k.le (by omega)) with⟨n',d',n1',n2',F,M,e',hK'⟩ | hK'
    ·have V:=UV (a:=n) (b:=(d':Int)) ⟨n1,n2⟩ (by omega)
     have Y:=UV (a:=n') (b:=(d:Int)) ⟨n1',n2'⟩ (by omega)
     have b3:=UV (a:=(d:Int)) (b:=(d':Int)) (by omega) (by omega)
     have S:((d*d':Nat):Int)=(d:Int)*(d':Int):=by simp
     obtain⟨c,c1,A⟩:=NB (R:=R) (N:=N) (s:=n*d'+n'*d) (b:=d*d') (by omega) (Nat.mul_pos O F) (by omega) (by omega)
     rw[←Rat.mkRat_add_mkRat _ _ (by omega) (by omega),e,e'] at c1
     refine⟨c,c1,fun K=>?_⟩
     rw[start,hK,hK',show((true:Bool)==true)=true by rfl,ct,Axi]
     unfold Tl TW
     rw[ct,i64 (a:=n*(d':Int)) (by omega),i64 (a:=n'*(d:Int)) (by omega),i64 (by omega),i64 (by omega),←S,A];rfl
    ·obtain⟨c,c1,A⟩:=gen
     refine⟨c,c1,fun K=>?_⟩
     rw[start,hK,hK',show((true:Bool)==true)=true by rfl,ct,Axi,A]
   ·obtain⟨c,c1,A⟩:=gen
    refine⟨c,c1,fun K=>?_⟩
    rw[start,hK]
    rcases Jx (R:=R) (N:=N) (o:=o') C (k.le (by omega)) with⟨n',d',n1',n2',F,M,e',hK'⟩ | hK'
    ·rw[hK',show((false:Bool)==true)=false by rfl,cf,A]
    ·rw[hK',show((false:Bool)==true)=false by rfl,cf,A]
theorem Avp (n:Bool) (s:LS):A0 (!n) s=-A0 n s:=by unfold A0;cases n<;>simp
theorem Anu {N:Nat} {x y:RatD} {o o':Bool} (k:x.ok) (A:y.ok) (B:fit (8*(x.m+y.m)+40) N):∃ d:RatD,d.can (x.q - y.q)∧∀ K:LA→Option R,TZ N x.av o y.av o' K=K d.av:=by
 obtain⟨c,c1,C⟩:=Ant (R:=R) (N:=N) (x:=⟨x.neg,.of x.ns.l false o,.of x.ds.l false o⟩) (y:=⟨!y.neg,.of y.ns.l false o',.of y.ds.l false o'⟩) (o:=(o||(o||false))) (o':=(o'||(o'||false))) k A B
 have e1:RatD.q ⟨x.neg,.of x.ns.l false o,.of x.ds.l false o⟩=x.q:=rfl
 have D:RatD.q ⟨!y.neg,.of y.ns.l false o',.of y.ds.l false o'⟩=-y.q:=by
  show mkRat (A0 (!y.neg) (.of y.ns.l false o')) (val y.ds.l)=_
  rw[Avp,←Rat.neg_mkRat];rfl
 rw[e1,D,←Rat.sub_eq_add_neg] at c1
 refine⟨c,c1,fun K=>?_⟩
 rw[Ads];unfold Aqk
 rw[Bbc,A7l,Aga,Bck,ct,Bbc,A7l,Aga,Bck,ct]
 exact(C _).trans rfl
theorem A85 {N:Nat} {x y:RatD} {o o':Bool} (C:x.ok) (D:y.ok) (k:fit (8*(x.m+y.m)+40) N):∃ d:RatD,d.can (x.q*y.q)∧∀ K:LA→Option R,PR N K o x.av o' y.av=K d.av:=by
 obtain⟨n1,s1,l1,a1,F,p1,p2,G,I,p5,L,M⟩:=Oy (R:=R) (N:=N) (o:=o) C (k.le (by omega))
 obtain⟨n2,s2,l2,a2,O,A,B,S,T,q5,U,V⟩:=Oy (R:=R) (N:=N) (o:=o') D (k.le (by omega))
 have zl1:(A0 n1 s1).natAbs<4294967296 ^ x.m:=by rw[Cz];exact Nat.lt_of_lt_of_le (Bm p1) (H0 I)
 have zl2:(A0 n2 s2).natAbs<4294967296 ^ y.m:=by rw[Cz];exact Nat.lt_of_lt_of_le (Bm A) (H0 T)
 have dl1:((val l1:Nat):Int).natAbs<4294967296 ^ (x.m+1):=by rw[Int.natAbs_natCast];exact Nat.lt_of_lt_of_le (Bm p2) (H0 (by omega))
 have dl2:((val l2:Nat):Int).natAbs<4294967296 ^ (y.m+1):=by rw[Int.natAbs_natCast];exact Nat.lt_of_lt_of_le (Bm B) (H0 (by omega))
 obtain⟨S1,t1,t2,t3⟩:=P' (R:=R) (N:=N) (n1:=n1) (n2:=n2) (s1:=s1) (s2:=s2) (o1:=a1) (o2:=a2) p1 A (k.le (by omega))
 have L1:=Es (O0 zl1 zl2)
 obtain⟨S4,v1,v2,v3⟩:=eN (R:=R) (N:=N) (a:=l1) (b:=l2) (t:=false) (o:=F) (t':=false) (o':=O) rfl rfl p2 B (k.le (by omega))
 have z4:val l1*val l2<4294967296 ^ (x.m+1+(y.m+1)):=by
  have:=O0 dl1 dl2;rw[Int.natAbs_mul,Int.natAbs_natCast,Int.natAbs_natCast] at this;exact this
 have L4:=Es z4
 obtain⟨c,c1,Y⟩:=LB (R:=R) (N:=N) (neg:=decide (A0 n1 s1*A0 n2 s2<0)) (s:=.of (Ar (A0 n1 s1*A0 n2 s2).natAbs) false true) (l:=Ar (val l1*val l2)) (n:=(Ar (val l1*val l2)).length) (o:=true) (t:=false) (o':=true) rfl (Ac _) (Ac _) (by rw[Aj];exact Nat.mul_ne_zero G S) (k.le (show 2*((Ar (A0 n1 s1*A0 n2 s2).natAbs).length+(Ar (val l1*val l2)).length)+8≤_ by omega))
 rw[Ka,Aj,←Rat.mkRat_mul_mkRat,L,U] at c1
 refine⟨c,c1,fun K=>?_⟩
 unfold PR
 rw[Ky,ct,El,M,kX,ct,Ky,ct,El,V,kX,ct,mb,ct,mb,ct,Aka,Aka,t3,v3,Ey t1 t2,Ey v1 v2,A5j,Y];rfl
theorem A5k {N:Nat} {x y:RatD} {o o':Bool} (F:x.ok) (B:y.ok) (k:fit (8*(x.m+y.m)+40) N):∃ d:RatD,d.can (x.q*y.q)∧∀ K:LA→Option R,mY N x.av o y.av o' K=K d.av:=by
 have O:=k.1
 obtain⟨g,G,C⟩:=A85 (R:=R) (N:=N) (o:=o) (o':=o') F B k
 rcases Jx (R:=R) (N:=N) (o:=o) F (k.le (by omega)) with⟨n,d,n1,n2,I,S,e,hK⟩ | hK
 ·rcases Jx (R:=R) (N:=N) (o:=o') B (k.le (by omega)) with⟨n',d',n1',n2',A,D,e',hK'⟩ | hK'
  ·have T:=UV (a:=n) (b:=n') ⟨n1,n2⟩ ⟨n1',n2'⟩
   have b3:=UV (a:=(d:Int)) (b:=(d':Int)) (by omega) (by omega)
   have L:((d*d':Nat):Int)=(d:Int)*(d':Int):=by simp
   obtain⟨c,c1,M⟩:=NB (R:=R) (N:=N) (s:=n*n') (b:=d*d') (by omega) (Nat.mul_pos I A) (by omega) (by omega)
   rw[←Rat.mkRat_mul_mkRat,e,e'] at c1
   refine⟨c,c1,fun K=>?_⟩
   rw[T_];unfold gU
   rw[Ky,ct,El,hK,Ky,ct,El,hK',show((true:Bool)==true)=true by rfl,ct,Axi,ct,i64 (by omega),i64 (by omega),←L,M];rfl
  ·refine⟨g,G,fun K=>?_⟩
   rw[T_];unfold gU
   rw[Ky,ct,El,hK,Ky,ct,El,hK',show((true:Bool)==true)=true by rfl,ct,Axi,cf,C]
 ·refine⟨g,G,fun K=>?_⟩
  rw[T_];unfold gU
  rcases Jx (R:=R) (N:=N) (o:=o') B (k.le (by omega)) with⟨n',d',n1',n2',A,D,e',hK'⟩ | hK'
  ·rw[Ky,ct,El,hK,Ky,ct,El,hK',show((false:Bool)==true)=false by rfl,cf,C]
  ·rw[Ky,ct,El,hK,Ky,ct,El,hK',show((false:Bool)==true)=false by rfl,cf,C]
theorem Aq4 {a b:Rat}:GU a b≤0↔a≤b:=by
 unfold GU
 by_cases h:a<b
 ·rw[if_pos h];exact⟨fun _=>Rat.le_of_lt h,fun _=>by omega⟩
 ·rw[if_neg h]
  by_cases k:b<a
  ·rw[if_pos k];exact⟨fun A=>by omega,fun A=>absurd A (Rat.not_le.2 k)⟩
  ·rw[if_neg k];exact⟨fun _=>Rat.not_lt.1 k,fun _=>by omega⟩
theorem A5l {N:Nat} {x y:RatD} {o o':Bool} (A:x.ok) (B:y.ok) (k:fit (8*(x.m+y.m)+40) N):∃ d:RatD,d.can (if x.q≤y.q then x.q else y.q)∧∀ K:LA→Option R,mW N x.av o y.av o' K=K d.av:=by
 by_cases h:x.q≤y.q
 ·obtain⟨c,c1,C⟩:=UU (R:=R) (N:=N) (o:=o) A (k.le (by omega))
  refine⟨c,by rw[if_pos h];exact c1,fun K=>?_⟩
  rw[mX];unfold zb
  rw[Ky,ct,Ky,ct,El,El,NC A B (k.le (by omega)),decide_eq_true (Aq4.2 h),ct,ct,C];rfl
 ·obtain⟨c,c1,C⟩:=UU (R:=R) (N:=N) (o:=o') B (k.le (by omega))
  refine⟨c,by rw[if_neg h];exact c1,fun K=>?_⟩
  rw[mX];unfold zb
  rw[Ky,ct,Ky,ct,El,El,NC A B (k.le (by omega)),decide_eq_false (fun D=>h (Aq4.1 D)),cf,ct,C];rfl
end
end Gx

namespace Gx
open Go Go.Proofs
section
variable {R:Type}
def G2 (z:Int):List AV:=Lc (decide (z<0)) (.of (Ar z.natAbs) false false)
theorem qK (z:Int) (K:LA→Option R):(cond ((Nat.beq 0 0)&&((Nat.beq (List.length (G2 z)) 2)&&(Nat.beq 2 2))) (cond (Nat.ble 2 (List.length (G2 z))) (K (List.take 2 (G2 z))) none) none)=K (G2 z):=rfl
theorem Bd1 (z:Int):List.take 2 (G2 z)=G2 z:=rfl
theorem Bda (z:Int):Nat.beq (List.length (G2 z)) 2=true:=rfl
theorem A8o (v:Nat):List.take ((Ar v).length*1) (Ae (Ar v))=Ae (Ar v):=Ey (Ac _) (Aj v)
theorem H1 {N:Nat} {neg:Bool} {l:List Nat} {n:Nat} {t o:Bool} {K:LA→Option R} (hn:n=l.length) (k:Al l) (A:fit l.length N):F6 N neg (Ae l) n t o K=K (G2 (if neg then -(val l:Int) else (val l:Int))):=by
 obtain⟨c1,B⟩:=EC (z:=if neg then -(val l:Int) else (val l:Int)) (c:=neg) (m:=val l) rfl
 rw[ni];unfold sL
 rw[Dt hn k A,A8o]
 unfold G2
 rw[←c1,B]
 cases neg
 ·rfl
 ·rw[show((true:Bool)==true)=true by rfl,ct,Axi];simp[Lc,LS.av]
theorem kY {N:Nat} {v:Int} {K:LA→Option R} (A:-9223372036854775808≤v∧v≤9223372036854775807) (hN:2000≤N):I4 N v K=K (G2 v):=by
 have k:v.natAbs<18446744073709551616:=by omega
 have B:=UP k
 rw[WK];unfold SZ
 by_cases h:v<0
 ·have e:IntKind.wrap .u64 (IntKind.wrap .u64 (IntKind.wrap .i64 ((0:Int) - IntKind.wrap .i64 (v+1)))+1)=(v.natAbs:Int):=by
   rw[i64 (a:=v+1) (by omega),i64 (by omega),l8,l8];omega
  rw[decide_eq_true h,ct,e,K_ k (by omega),A8o,H1 rfl (Ac _) ⟨by omega,by omega⟩,Aj]
  have:(if true=true then -(v.natAbs:Int) else (v.natAbs:Int))=v:=by rw[if_pos rfl];omega
  rw[this];exact qK _ _
 ·have e:IntKind.wrap .u64 v=(v.natAbs:Int):=by rw[l8];omega
  rw[decide_eq_false h,cf,e,K_ k (by omega),A8o,H1 rfl (Ac _) ⟨by omega,by omega⟩,Aj]
  have:(if false=true then -(v.natAbs:Int) else (v.natAbs:Int))=v:=by rw[if_neg (by decide)];omega
  rw[this];exact qK _ _
theorem md {N:Nat} {n:Bool} {s:LS} {o:Bool} {K:LA→Option R} (hs:Al s.l) (k:fit s.l.length N):Yj N (Lc n s) o K=K (G2 (A0 n s)):=by
 rw[nm];unfold sM
 rw[Uo,Qq,H1 rfl hs k];exact qK _ _
theorem Agb {N:Nat} {n:Bool} {s:LS} {o:Bool} {K:Int→Option R} (hs:Al s.l) (k:fit s.l.length N):Yk N (Lc n s) o K=K (A0 n s).sign:=by
 rw[np];unfold sN
 rw[mb,ct,Aka,md hs k,Bda,show((true&&(true&&(!false))))=true by rfl,ct]
 have e:setCells (Lc n s) 0 (G2 (A0 n s))=G2 (A0 n s):=rfl
 rw[e]
 generalize A0 n s=z
 unfold G2
 rw[Uo]
 rcases Int.lt_trichotomy z 0 with h | h | h
 ·rw[decide_eq_true h,ct,Int.sign_eq_neg_one_of_neg h]
 ·subst h;rfl
 ·rw[decide_eq_false (by omega),cf,Qq]
  have:(Ar z.natAbs).length≠0:=fun A=>by have:=By.1 A;omega
  simp only[LS.l]
  rw[Aj9 this,cf,Int.sign_eq_one_of_pos h]
theorem A5m {N:Nat} {n:Bool} {s:LS} {o:Bool} {K:LA→Option R} (hs:Al s.l) (k:fit s.l.length N):Xb N (Lc n s) o K=K (G2 (-A0 n s)):=by
 rw[vW];unfold Ab5
 rw[Uo,Qq,H1 rfl hs k,←Avp];exact qK _ _
theorem Az8 {N:Nat} {n1 n2:Bool} {s1 s2:LS} {o1 o2:Bool} {K:LA→Option R} (k:Al s1.l) (A:Al s2.l) (B:fit (s1.l.length+s2.l.length) N):CU N (Lc n1 s1) o1 (Lc n2 s2) o2 K=K (G2 (A0 n1 s1*A0 n2 s2)):=by
 have C:(Ar (val s1.l*val s2.l)).length≤s1.l.length+s2.l.length:=Es (by rw[Nat.pow_add];exact Nat.mul_lt_mul'' (Bm k) (Bm A))
 rw[wT];unfold Aec
 rw[Uo,Uo,Qq,Qq,A5e rfl rfl k A B,A8o,H1 rfl (Ac _) (B.le C),Aj]
 have D:A0 n1 s1*A0 n2 s2=if (!(n1==n2)) then -((val s1.l*val s2.l:Nat):Int) else ((val s1.l*val s2.l:Nat):Int):=by
  unfold A0;cases n1<;>cases n2<;>simp[Int.mul_neg,Int.neg_mul]
 rw[←D];exact qK _ _
theorem Az9 {N:Nat} {n1 n2:Bool} {s1 s2:LS} {o1 o2:Bool} {K:LA→Option R} (D:Al s1.l) (F:Al s2.l) (k:fit (s1.l.length+s2.l.length+1) N):Xa N (Lc n1 s1) o1 (Lc n2 s2) o2 K=K (G2 (A0 n1 s1+A0 n2 s2)):=by
 have v1:=Bm D
 have v2:=Bm F
 have G:=H0 (show s1.l.length≤s1.l.length+s2.l.length by omega)
 have I:=H0 (show s2.l.length≤s1.l.length+s2.l.length by omega)
 rw[vU];unfold Ab1
 rw[Uo,Uo]
 by_cases hn:n1=n2
 ·subst hn
  have A:(Ar (val s1.l+val s2.l)).length≤s1.l.length+s2.l.length+1:=Es (by rw[Nat.pow_succ];omega)
  have B:A0 n1 s1+A0 n1 s2=if n1 then -((val s1.l+val s2.l:Nat):Int) else ((val s1.l+val s2.l:Nat):Int):=by
   unfold A0;cases n1<;>simp;omega
  rw[show(n1==n1)=true by simp,ct,Uo,Qq,Qq,tE rfl rfl D F k,A8o,H1 rfl (Ac _) (k.le A),Aj,←B];exact qK _ _
 ·rw[show(n1==n2)=false by simp[hn],cf,Qq,Qq,tF rfl rfl D F (k.le (by omega))]
  by_cases C:val s2.l≤val s1.l
  ·have A:(Ar (val s1.l - val s2.l)).length≤s1.l.length+s2.l.length+1:=Es (by rw[Nat.pow_succ];omega)
   have B:A0 n1 s1+A0 n2 s2=if n1 then -((val s1.l - val s2.l:Nat):Int) else ((val s1.l - val s2.l:Nat):Int):=by
    unfold A0;cases n1<;>cases n2<;>simp at hn ⊢<;>omega
   rw[if_pos C,ct,Uo,A8o,H1 rfl (Ac _) (k.le A),Aj,←B];exact qK _ _
  ·have A:(Ar (val s2.l - val s1.l)).length≤s1.l.length+s2.l.length+1:=Es (by rw[Nat.pow_succ];omega)
   have B:A0 n1 s1+A0 n2 s2=if n2 then -((val s2.l - val s1.l:Nat):Int) else ((val s2.l - val s1.l:Nat):Int):=by
    unfold A0;cases n1<;>cases n2<;>simp at hn ⊢<;>omega
   rw[if_neg C,cf,Qq,Qq,tF rfl rfl F D (k.le (by omega)),if_pos (by omega),Uo,A8o,H1 rfl (Ac _) (k.le A),Aj,←B];exact qK _ _
theorem A5n {N:Nat} {n1 n2:Bool} {s1 s2:LS} {o1 o2:Bool} {K:LA→Option R} (k:Al s1.l) (A:Al s2.l) (B:fit (3*(s1.l.length+s2.l.length)+4) N):gG N (Lc n1 s1) o1 (Lc n2 s2) o2 K=K (G2 ((Nat.gcd (A0 n1 s1).natAbs (A0 n2 s2).natAbs:Nat):Int)):=by
 have C:(Ar (Nat.gcd (val s1.l) (val s2.l))).length≤s1.l.length+s2.l.length:=by
  rcases Nat.eq_zero_or_pos (val s1.l) with h | h
  ·rw[h,Nat.gcd_zero_left];have:=(Bu A).2;omega
  ·have:=B9 (Nat.gcd_le_left (val s2.l) h);have:=(Bu k).2;omega
 rw[vR];unfold Abs
 rw[Qq,Qq,A5h rfl rfl k A B,A8o,H1 rfl (Ac _) (B.le (by omega)),Aj,Cz,Cz];exact qK _ _
theorem eS {N:Nat} {n1:Bool} {s1:LS} {g:Nat} {o1 o2:Bool} {K:LA→LA→Bool→Option R} (B:Al s1.l) (D:0<g) (C:g∣val s1.l) (A:fit (s1.l.length+2*(Ar g).length+4) N):Sg N (Lc n1 s1) o1 (G2 (g:Int)) o2 K=K (G2 (A0 n1 s1/(g:Int))) (G2 0) true:=by
 have k:G2 (g:Int)=Lc false (.of (Ar g) false false):=by
  unfold G2;rw[decide_eq_false (by omega),Int.natAbs_natCast]
 have I:(Ar (val s1.l/g)).length≤s1.l.length:=Nat.le_trans (B9 (Nat.div_le_self _ _)) (Bu B).2
 rw[k,b_];unfold b9
 rw[Qq,Qq,show(LS.of (Ar g) false false).l=Ar g by rfl]
 rw[UT rfl rfl B (Ac _) (by rw[Aj];omega) A,Aj,Nat.mod_eq_zero_of_dvd C,show(!true)=false by rfl,cf,Uo,Uo,A8o,H1 rfl (Ac _) (A.le (by omega)),Uo,A8o,H1 rfl (Ac _) (A.le (by simp[Ea])),Aj,Aj]
 have F:(if n1=true then -((0:Nat):Int) else ((0:Nat):Int))=0:=by cases n1<;>rfl
 have e1:(if (!(n1==false))=true then -((val s1.l/g:Nat):Int) else ((val s1.l/g:Nat):Int))=A0 n1 s1/(g:Int):=by
  obtain⟨c,k⟩:=C
  have G:val s1.l/g=c:=by rw[k,Nat.mul_div_cancel_left _ D]
  rw[G];unfold A0;rw[k]
  cases n1
  ·simp;rw[Int.mul_ediv_cancel_left _ (by omega)]
  ·simp only[Bool.true_beq,Bool.not_false,if_true]
   rw[show -((g*c:Nat):Int)=(g:Int)*(-(c:Int)) by rw[Int.mul_neg];simp,Int.mul_ediv_cancel_left _ (by omega)]
 rw[F,e1]
 generalize A0 n1 s1/(g:Int)=q
 have r0:∀ (f:Bool→Option R),N_ (G2 0) f=f false:=fun f=>Uo
 rw[show((Nat.beq 0 0)&&((Nat.beq (List.length (G2 q)) 2)&&(Nat.beq 2 2)))=true by rfl,ct,show((Nat.beq 0 0)&&((Nat.beq (List.length (G2 0)) 2)&&(Nat.beq 2 2)))=true by rfl,ct,r0,cf]
 rfl
end
end Gx

namespace Gx
open Go Go.Proofs
section
variable {R:Type}
def A0a (q:Rat):RatD:=⟨decide (q.num<0),.of (Ar q.num.natAbs) false false,.of (Ar q.den) false false⟩
def cq (q:Rat):List AV:=(A0a q).av
theorem zd (q:Rat):(A0a q).can q:=⟨rfl,rfl,rfl⟩
theorem Bam (q:Rat):(A0a q).q=q:=(zd q).q
theorem A7p (q:Rat):(A0a q).ok:=(zd q).ok
theorem Ban (q:Rat):(A0a q).m=qm q:=(zd q).m
theorem Anv (q:Rat) (K:LA→Option R):(cond ((Nat.beq 0 0)&&((Nat.beq (List.length (cq q)) 3)&&(Nat.beq 3 3))) (cond (Nat.ble 3 (List.length (cq q))) (K (List.take 3 (cq q))) none) none)=K (cq q):=rfl
theorem A2g (q:Rat):Nat.ble 2 (List.length (cq q))=true:=rfl
theorem Aq5 (q:Rat):List.take 2 (cq q)=G2 q.num:=rfl
theorem A86:cq 0=[(.bool false),(.imm [] 0 1 false false),(.imm [(.int .u32 1)] 1 1 false false)]:=by
 have e:cq 0=[.bool false,.imm (Ae (Ar 0)) (Ar 0).length 1 false false,.imm (Ae (Ar 1)) (Ar 1).length 1 false false]:=rfl
 rw[e,DD];rfl
theorem A0b {N:Nat} {K:LA→Option R}:OB N K=K (cq 0):=by
 rw[nr];unfold sO
 rw[A86]
theorem Bdb {N:Nat} {z:Int} {o:Bool} {K:LA→Option R} (k:fit (Ar z.natAbs).length N):Xb N (G2 z) o K=K (G2 (-z)):=by
 have:=A5m (R:=R) (N:=N) (n:=decide (z<0)) (s:=.of (Ar z.natAbs) false false) (o:=o) (K:=K) (Ac _) k
 rw[Ka] at this;exact this
theorem Bcm {N:Nat} {z:Int} {o:Bool} {K:Int→Option R} (k:fit (Ar z.natAbs).length N):Yk N (G2 z) o K=K z.sign:=by
 have:=Agb (R:=R) (N:=N) (n:=decide (z<0)) (s:=.of (Ar z.natAbs) false false) (o:=o) (K:=K) (Ac _) k
 rw[Ka] at this;exact this
theorem Bbd {N:Nat} {z w:Int} {o o':Bool} {K:LA→Option R} (k:fit ((Ar z.natAbs).length+(Ar w.natAbs).length) N):CU N (G2 z) o (G2 w) o' K=K (G2 (z*w)):=by
 have:=Az8 (R:=R) (N:=N) (n1:=decide (z<0)) (s1:=.of (Ar z.natAbs) false false) (n2:=decide (w<0)) (s2:=.of (Ar w.natAbs) false false) (o1:=o) (o2:=o') (K:=K) (Ac _) (Ac _) k
 rw[Ka,Ka] at this;exact this
theorem Bdc {N:Nat} {z w:Int} {o o':Bool} {K:LA→Option R} (k:fit ((Ar z.natAbs).length+(Ar w.natAbs).length+1) N):Xa N (G2 z) o (G2 w) o' K=K (G2 (z+w)):=by
 have:=Az9 (R:=R) (N:=N) (n1:=decide (z<0)) (s1:=.of (Ar z.natAbs) false false) (n2:=decide (w<0)) (s2:=.of (Ar w.natAbs) false false) (o1:=o) (o2:=o') (K:=K) (Ac _) (Ac _) k
 rw[Ka,Ka] at this;exact this
theorem A7q (z:Int):mkRat z 1=(z:Rat):=by
 apply Rat.ext
 ·rw[Rat.num_mkRat,if_neg (by decide),Nat.gcd_one_left];simp
 ·rw[Rat.den_mkRat,if_neg (by decide),Nat.gcd_one_left];simp
theorem A87 (z:Int) (w:Nat) (k:w≠0):(mkRat z w).num=z/((Nat.gcd z.natAbs w:Nat):Int)∧(mkRat z w).den=w/Nat.gcd z.natAbs w:=by
 refine⟨?_,?_⟩
 ·rw[Rat.num_mkRat,if_neg k,Nat.gcd_comm w]
 ·rw[Rat.den_mkRat,if_neg k,Nat.gcd_comm w]
theorem xC {N:Nat} {n1 n2:Bool} {s1 s2:LS} {o1 o2:Bool} {K:LA→Option R} (G:Al s1.l) (C:Al s2.l) (T:0≤A0 n2 s2) (A:fit (4*(s1.l.length+s2.l.length)+10) N):Q5 N (Lc n1 s1) o1 (Lc n2 s2) o2 K=K (cq (mkRat (A0 n1 s1) (A0 n2 s2).natAbs)):=by
 have B:=Cz n2 s2
 have D:=Cz n1 s1
 rw[oJ];unfold gH
 rw[mb,ct,Aka,Agb C (A.le (by omega))]
 by_cases U:A0 n2 s2=0
 ·rw[U,show((0:Int).sign==0)=true by rfl,ct,A0b]
  rw[show(0:Int).natAbs=0 by rfl,Rat.mkRat_zero];exact Anv _ _
 ·have V:(A0 n2 s2).natAbs≠0:=by omega
  have I:((A0 n2 s2).sign==0)=false:=by rw[Int.sign_eq_one_of_pos (by omega)];rfl
  rw[I,cf,ct,md C (A.le (by omega)),show((Nat.beq 0 0)&&((Nat.beq (List.length (G2 (A0 n2 s2))) 2)&&(Nat.beq 2 2)))=true by rfl,ct]
  have rb:∀ (z:Int) (f:Bool→Option R),N_ (G2 z) f=f (decide (z<0)):=fun z f=>Uo
  have rl:∀ (z:Int) (f:List AV→Nat→Option R),Ct 1 (List.drop 1 (G2 z)) f=f (Ae (Ar z.natAbs)) (Ar z.natAbs).length:=fun z f=>Qq
  have l2:=(Bu C).2
  have l1:=(Bu G).2
  rw[rb,decide_eq_false (by omega),show((!false)==true)=true by rfl,ct,rl,A7m,A7h (a:=Ar (A0 n2 s2).natAbs) (b:=[1]) (m:=1) rfl rfl (A.le (by rw[B];omega)),Axi]
  by_cases k:(A0 n2 s2).natAbs=1
  ·rw[k,DD,show decide (([1]:List Nat)=[1])=true by decide,ct,mb,ct,Aka,md G (A.le (by omega)),rl,k,DD]
   rw[A7q]
   have Y:cq ((A0 n1 s1:Int):Rat)=[.bool (decide (A0 n1 s1<0)),.imm (Ae (Ar (A0 n1 s1).natAbs)) (Ar (A0 n1 s1).natAbs).length 1 false false,.imm (Ae [1]) 1 1 false false]:=by
    unfold cq A0a RatD.av LS.av
    rw[Rat.num_intCast,Rat.den_intCast,DD];rfl
   rw[Y];rfl
  ·have L:decide (Ar (A0 n2 s2).natAbs=[1])=false:=by
    rw[decide_eq_false_iff_not];intro hh
    have:=congrArg val hh
    rw[Aj] at this;simp[val] at this;omega
   rw[L,cf]
   unfold JF
   have F:0<Nat.gcd (A0 n1 s1).natAbs (A0 n2 s2).natAbs:=Nat.gcd_pos_of_pos_right _ (by omega)
   have hgl:(Ar (Nat.gcd (A0 n1 s1).natAbs (A0 n2 s2).natAbs)).length≤s2.l.length:=Nat.le_trans (B9 (Nat.gcd_le_right _ (by omega))) (by rw[B];exact l2)
   have M:Nat.gcd (A0 n1 s1).natAbs (A0 n2 s2).natAbs∣val s1.l:=by rw[←D];exact Nat.gcd_dvd_left _ _
   have O:Nat.gcd (A0 n1 s1).natAbs (A0 n2 s2).natAbs∣val s2.l:=by rw[←B];exact Nat.gcd_dvd_right _ _
   obtain⟨q1,q2⟩:=A87 (A0 n1 s1) (A0 n2 s2).natAbs V
   rw[mb,ct,mb,ct,Aka,Aka,A5n G C (A.le (by omega))]
   generalize hgd:Nat.gcd (A0 n1 s1).natAbs (A0 n2 s2).natAbs=g at *
   rw[show((Nat.beq 0 0)&&((Nat.beq (List.length (G2 (g:Int))) 2)&&(Nat.beq 2 2)))=true by rfl,ct,ct,show Nat.ble 2 (List.length (G2 (g:Int)))=true by rfl,ct,Bd1,eS G F M (A.le (by omega))]
   rw[show ∀ z:Int,((Nat.beq 0 0)&&((Nat.beq (List.length (G2 z)) 2)&&(Nat.beq 2 2)))=true from fun z=>rfl,ct,show((Nat.beq 0 0)&&((Nat.beq (List.length (G2 0)) 2)&&(Nat.beq 2 2)))=true by rfl,ct,ct,eS C F O (A.le (by omega))]
   have S:A0 n2 s2/(g:Int)=(((A0 n2 s2).natAbs/g:Nat):Int):=by
    rw[show A0 n2 s2=(((A0 n2 s2).natAbs:Nat):Int) by omega];rfl
   rw[show ∀ z:Int,((Nat.beq 0 0)&&((Nat.beq (List.length (G2 z)) 2)&&(Nat.beq 2 2)))=true from fun z=>rfl,ct,ct,rb,S,decide_eq_false (by omega),cf,show ∀ z:Int,Nat.ble 2 (List.length (G2 z))=true from fun z=>rfl,ct,rl,Int.natAbs_natCast,←q2]
   rw[←q1];rfl
theorem A7r {N:Nat} {z w:Int} {o o':Bool} {K:LA→Option R} (k:0≤w) (A:fit (4*((Ar z.natAbs).length+(Ar w.natAbs).length)+10) N):Q5 N (G2 z) o (G2 w) o' K=K (cq (mkRat z w.natAbs)):=by
 have:=xC (R:=R) (N:=N) (n1:=decide (z<0)) (s1:=.of (Ar z.natAbs) false false) (n2:=decide (w<0)) (s2:=.of (Ar w.natAbs) false false) (o1:=o) (o2:=o') (K:=K) (Ac _) (Ac _) (by rw[Ka];exact k) A
 rw[Ka,Ka] at this;exact this
theorem Yz {N:Nat} {x:RatD} {o:Bool} {K:LA→Option R} (k:x.ok) (A:fit (8*x.m+10) N):Rf N x.av o K=K (cq x.q):=by
 have m1:x.ns.l.length≤x.m:=Nat.le_max_left _ _
 have m2:x.ds.l.length≤x.m:=Nat.le_max_right _ _
 rw[pQ];unfold sr
 rw[show Nat.ble 2 (List.length x.av)=true by rfl,ct,Aga,Bal,A5j,xC (s2:=.of x.ds.l false o) k.1 k.2 (by unfold A0;simp) (A.le (show 4*(x.ns.l.length+x.ds.l.length)+10≤_ by omega))]
 have:mkRat (A0 x.neg x.ns) (A0 false (.of x.ds.l false o)).natAbs=x.q:=by rw[Cz];rfl
 rw[this];exact Anv _ _
theorem QA {N:Nat} {x:RatD} {o:Bool} {K:LA→Option R} (k:x.ok) (A:fit (8*x.m+10) N):Xm N x.av o K=K (G2 (x.q.den:Int)):=by
 rw[wK];unfold Adw
 rw[Ky,ct,El,Yz k A]
 have:=Aga (R:=R) (x:=A0a x.q) (f:=fun e f=>K [(.bool false),(.imm e f 1 false false)])
 refine this.trans ?_
 unfold G2;rw[decide_eq_false (by omega),Int.natAbs_natCast];rfl
theorem xD (x:RatD) (k:x.ok):qm x.q≤x.m+1:=by
 have m1:x.ns.l.length≤x.m:=Nat.le_max_left _ _
 have m2:x.ds.l.length≤x.m:=Nat.le_max_right _ _
 unfold qm
 by_cases h:val x.ds.l=0
 ·have:x.q=0:=by unfold RatD.q;rw[h,Rat.mkRat_zero]
  rw[this,Rat.zero_num,Rat.zero_den,DD];simp[Ea]
 ·obtain⟨a1,_,a3⟩:=Af9 (A0 x.neg x.ns) (val x.ds.l) h
  have A:x.q.num.natAbs≤val x.ns.l:=by show(mkRat _ _).num.natAbs≤_;rw[a1,Cz];exact Nat.div_le_self _ _
  have B:x.q.den≤val x.ds.l:=by show(mkRat _ _).den≤_;rw[a3];exact Nat.div_le_self _ _
  have c1:=Nat.le_trans (B9 A) (Bu k.1).2
  have C:=Nat.le_trans (B9 B) (Bu k.2).2
  omega
theorem Bao (z:Int) (d:Nat) (k:Nat) (A:z.natAbs<4294967296 ^ k) (B:d<4294967296 ^ k) (C:d≠0):qm (mkRat z d)≤k:=by
 obtain⟨a1,_,a3⟩:=Af9 z d C
 unfold qm
 have D:(mkRat z d).num.natAbs≤z.natAbs:=by rw[a1];exact Nat.div_le_self _ _
 have F:(mkRat z d).den≤d:=by rw[a3];exact Nat.div_le_self _ _
 have c1:=Es (Nat.lt_of_le_of_lt D A)
 have G:=Es (Nat.lt_of_le_of_lt F B)
 omega
theorem tI (q:Rat):q.num.natAbs<4294967296 ^ qm q:=A7o (Nat.le_max_left _ _)
theorem eT (q:Rat):q.den<4294967296 ^ qm q:=A7o (Nat.le_max_right _ _)
theorem A0c (a b:Rat):qm (a+b)≤qm a+qm b+1:=by
 rw[Rat.add_def']
 have da:((a.den:Nat):Int).natAbs<4294967296 ^ qm a:=by rw[Int.natAbs_natCast];exact eT a
 have db:((b.den:Nat):Int).natAbs<4294967296 ^ qm b:=by rw[Int.natAbs_natCast];exact eT b
 refine Bao _ _ _ ?_ ?_ (Nat.mul_ne_zero a.den_nz b.den_nz)
 ·refine qJ (O0 (tI a) db) ?_
  have:=O0 (tI b) da
  rwa [Nat.add_comm (qm b)] at this
 ·rw[Nat.pow_succ,Nat.pow_add]
  have:=Nat.mul_lt_mul'' (eT a) (eT b)
  omega
theorem A7s (a b:Rat):qm (a*b)≤qm a+qm b:=by
 rw[Rat.mul_def']
 refine Bao _ _ _ (O0 (tI a) (tI b)) ?_ (Nat.mul_ne_zero a.den_nz b.den_nz)
 rw[Nat.pow_add];exact Nat.mul_lt_mul'' (eT a) (eT b)
theorem A7t (a:Rat):qm (-a)=qm a:=by unfold qm;rw[Rat.neg_num,Rat.neg_den,Int.natAbs_neg]
theorem Agc (a b:Rat):qm (a - b)≤qm a+qm b+1:=by rw[Rat.sub_eq_add_neg,←A7t b];exact A0c _ _
theorem Bbe {v:Int} (h:v.natAbs<18446744073709551616):qm (v:Rat)≤2:=by
 unfold qm;rw[Rat.num_intCast,Rat.den_intCast,DD]
 have:=UP h
 simp;omega
theorem Bd2 {a:Int} {b:Nat}:mkRat a ((b:Int)).natAbs=mkRat a b:=by rw[Int.natAbs_natCast]
theorem A0d {N:Nat} {x:RatD} {o:Bool} {K:LA→Option R} (A:x.ok) (k:fit (16*x.m+40) N):gW N x.av o K=K (cq (-x.q)):=by
 have B:=xD x A
 have C:(Ar x.q.num.natAbs).length≤qm x.q:=Nat.le_max_left _ _
 have D:(Ar x.q.den).length≤qm x.q:=Nat.le_max_right _ _
 rw[wN];unfold Ad1
 rw[Ky,ct,El,Yz A (k.le (by omega)),A2g,ct,Aq5,Bdb (k.le (show(Ar x.q.num.natAbs).length≤_ by omega)),ct,QA A (k.le (by omega)),A7r (by omega) (k.le (show 4*((Ar (-x.q.num).natAbs).length+(Ar ((x.q.den:Nat):Int).natAbs).length)+10≤_ by rw[Int.natAbs_neg,Int.natAbs_natCast];omega)),Bd2]
 have:mkRat (-x.q.num) x.q.den=-x.q:=by rw[←Rat.neg_mkRat,Rat.mkRat_self]
 rw[this];exact Anv _ _
theorem A0e {N:Nat} {x y:RatD} {o o':Bool} {K:LA→Option R} (B:x.ok) (C:y.ok) (A:fit (16*(x.m+y.m)+80) N):gY N x.av o y.av o' K=K (cq (x.q+y.q)):=by
 have D:=xD x B
 have F:=xD y C
 have x1:=tI x.q
 have x2:((x.q.den:Nat):Int).natAbs<4294967296 ^ qm x.q:=by rw[Int.natAbs_natCast];exact eT _
 have y1:=tI y.q
 have y2:((y.q.den:Nat):Int).natAbs<4294967296 ^ qm y.q:=by rw[Int.natAbs_natCast];exact eT _
 have L1:=Es x1
 have L2:=Es x2
 have L3:=Es y1
 have L4:=Es y2
 have z1:=O0 x1 y2
 have z2:=O0 y1 x2
 have z3:=qJ (k:=qm x.q+qm y.q) z1 (by rwa [Nat.add_comm])
 have z4:=O0 x2 y2
 have M1:=Es z1
 have M2:=Es z2
 have M3:=Es z3
 have M4:=Es z4
 rw[wV];unfold Aeh
 rw[Ky,ct,El,Yz B (A.le (by omega)),Ky,ct,El,Yz C (A.le (by omega)),show ∀ q,((Nat.beq 0 0)&&((Nat.beq (List.length (cq q)) 3)&&(Nat.beq 3 3)))=true from fun q=>rfl,ct,show ∀ q,((Nat.beq 0 0)&&((Nat.beq (List.length (cq q)) 3)&&(Nat.beq 3 3)))=true from fun q=>rfl,ct,A2g,ct,ct,QA C (A.le (by omega)),Aq5,Bbd (A.le (show(Ar x.q.num.natAbs).length+(Ar ((y.q.den:Nat):Int).natAbs).length≤_ by omega)),A2g,ct,ct,QA B (A.le (by omega)),Aq5,Bbd (A.le (show(Ar y.q.num.natAbs).length+(Ar ((x.q.den:Nat):Int).natAbs).length≤_ by omega)),Bdc (A.le (show(Ar (x.q.num*((y.q.den:Nat):Int)).natAbs).length+(Ar (y.q.num*((x.q.den:Nat):Int)).natAbs).length+1≤_ by omega)),ct,QA B (A.le (by omega)),ct,QA C (A.le (by omega)),Bbd (A.le (show(Ar ((x.q.den:Nat):Int).natAbs).length+(Ar ((y.q.den:Nat):Int).natAbs).length≤_ by omega)),A7r (Int.mul_nonneg (by omega) (by omega)) (A.le (show 4*((Ar (x.q.num*((y.q.den:Nat):Int)+y.q.num*((x.q.den:Nat):Int)).natAbs).length+(Ar (((x.q.den:Nat):Int)*((y.q.den:Nat):Int)).natAbs).length)+10≤_ by omega))]
 have:mkRat (x.q.num*((y.q.den:Nat):Int)+y.q.num*((x.q.den:Nat):Int)) (((x.q.den:Nat):Int)*((y.q.den:Nat):Int)).natAbs=x.q+y.q:=by
  rw[Rat.add_def',Int.natAbs_mul,Int.natAbs_natCast,Int.natAbs_natCast]
 rw[this];exact Anv _ _
theorem A0f {N:Nat} {x y:RatD} {o o':Bool} {K:LA→Option R} (B:x.ok) (k:y.ok) (A:fit (16*(x.m+y.m)+100) N):gZ N x.av o y.av o' K=K (cq (x.q - y.q)):=by
 have C:=xD y k
 rw[wX];unfold Aem
 rw[Ky,ct,Ky,ct,El,El,A0d k (A.le (by omega))]
 have:=A0e (R:=R) (N:=N) (x:=x) (y:=A0a (-y.q)) (o:=o) (o':=false) (K:=fun e=>(cond ((Nat.beq 0 0)&&((Nat.beq (List.length e) 3)&&(Nat.beq 3 3))) (cond (Nat.ble 3 (List.length e)) (K (List.take 3 e)) none) none)) B (A7p _) (A.le (by rw[Ban,A7t];omega))
 rw[Bam,←Rat.sub_eq_add_neg] at this
 exact this.trans (Anv _ _)
theorem Avq {N:Nat} {x:RatD} {o:Bool} {K:Int→Option R} (k:x.ok) (A:fit (8*x.m+10) N):PS N x.av o K=K x.q.num.sign:=by
 have B:=xD x k
 have C:(Ar x.q.num.natAbs).length≤qm x.q:=Nat.le_max_left _ _
 rw[pT];unfold su
 rw[Ky,ct,El,Yz k A,A2g,ct,Aq5,Bcm (A.le (show(Ar x.q.num.natAbs).length≤_ by omega))]
theorem A7u (a b:Rat):(a - b).num.sign=GU a b:=by
 unfold GU
 by_cases h:a<b
 ·rw[if_pos h]
  have k:a - b<0:=by grind
  have:(a - b).num<0:=by
   apply Int.not_le.1;intro A
   exact absurd (Rat.num_nonneg.1 A) (Rat.not_le.2 k)
  exact Int.sign_eq_neg_one_of_neg this
 ·rw[if_neg h]
  by_cases A:b<a
  ·rw[if_pos A]
   have k:0<a - b:=by grind
   have C:0≤(a - b).num:=Rat.num_nonneg.2 (Rat.le_of_lt k)
   have D:(a - b).num≠0:=fun B=>by
    have:=Rat.num_eq_zero.1 B
    rw[this] at k;exact absurd k Rat.lt_irrefl
   exact Int.sign_eq_one_of_pos (by omega)
  ·rw[if_neg A]
   have:a=b:=Rat.le_antisymm (Rat.not_lt.1 A) (Rat.not_lt.1 h)
   rw[this,Rat.sub_self];rfl
theorem Agd {N:Nat} {x y:RatD} {o o':Bool} {K:Int→Option R} (k:x.ok) (A:y.ok) (B:fit (16*(x.m+y.m)+100) N):I9 N x.av o y.av o' K=K (GU x.q y.q):=by
 have C:=xD x k
 have D:=xD y A
 have hs:=Agc x.q y.q
 rw[XM];unfold T'
 rw[Ky,ct,Ky,ct,El,El,A0f k A B]
 have:=Avq (R:=R) (N:=N) (x:=A0a (x.q - y.q)) (o:=false) (K:=fun g=>K g) (A7p _) (B.le (by rw[Ban];omega))
 rw[Bam,A7u] at this
 exact this
theorem Age {N:Nat} {v:Int} {K:LA→Option R} (k:-9223372036854775808≤v∧v≤9223372036854775807) (hN:4000≤N):Eb N v K=K (cq (v:Rat)):=by
 have A:=UP (show v.natAbs<18446744073709551616 by omega)
 rw[WP];unfold TD
 rw[kY k (by omega),kY (by omega) (by omega),A7r (by omega) ⟨show 100*(4*((Ar v.natAbs).length+(Ar (1:Int).natAbs).length)+10)+1000≤N by (rw[show(1:Int).natAbs=1 by rfl,DD];simp;omega),show 4*((Ar v.natAbs).length+(Ar (1:Int).natAbs).length)+10≤1000000000 by (rw[show(1:Int).natAbs=1 by rfl,DD];simp;omega)⟩]
 have:mkRat v (1:Int).natAbs=(v:Rat):=A7q v
 rw[this];exact Anv _ _
end
end Gx

namespace Gx
open Go Go.Proofs
section
variable {R:Type}
theorem A2h (x:RatD):List.take 3 x.av=x.av:=rfl
theorem b3 (x:RatD):Nat.ble 3 (List.length x.av)=true:=rfl
theorem c3 (x:RatD):((Nat.beq 0 0)&&((Nat.beq (List.length x.av) 3)&&(Nat.beq 3 3)))=true:=rfl
theorem c4 (x y:RatD):((Nat.beq (List.length x.av) 3)&&((Nat.ble 3 (List.length y.av))&&(!false)))=true:=rfl
theorem Bdd (x:RatD):((Nat.beq (List.length x.av) 3)&&(true&&(!false)))=true:=rfl
theorem A88 (x y:RatD):setCells x.av 0 y.av=y.av:=rfl
section
variable {N:Nat} {X:Option R} {K:LA→Option R} {x y:RatD} {o o':Bool} {p q:Rat}
theorem Bbf (k:x.can p) (A:y.can q) (C:fit (8*(qm p+qm q)+40) N) (h:∀ d:RatD,d.can (p+q)→K d.av=X):TX N x.av o y.av o' K=X:=by
 obtain⟨d,B,e⟩:=Ant (R:=R) (N:=N) (o:=o) (o':=o') k.ok A.ok (by rw[k.m,A.m];exact C)
 rw[e];exact h d (by rw[k.q,A.q] at B;exact B)
theorem Bbg (k:x.can p) (A:y.can q) (C:fit (8*(qm p+qm q)+40) N) (h:∀ d:RatD,d.can (p - q)→K d.av=X):TZ N x.av o y.av o' K=X:=by
 obtain⟨d,B,e⟩:=Anu (R:=R) (N:=N) (o:=o) (o':=o') k.ok A.ok (by rw[k.m,A.m];exact C)
 rw[e];exact h d (by rw[k.q,A.q] at B;exact B)
theorem Bbh (k:x.can p) (A:y.can q) (C:fit (8*(qm p+qm q)+40) N) (h:∀ d:RatD,d.can (p*q)→K d.av=X):mY N x.av o y.av o' K=X:=by
 obtain⟨d,B,e⟩:=A5k (R:=R) (N:=N) (o:=o) (o':=o') k.ok A.ok (by rw[k.m,A.m];exact C)
 rw[e];exact h d (by rw[k.q,A.q] at B;exact B)
theorem Bbi (k:x.can p) (A:y.can q) (C:fit (8*(qm p+qm q)+40) N) (h:∀ d:RatD,d.can (if p≤q then p else q)→K d.av=X):mW N x.av o y.av o' K=X:=by
 obtain⟨d,B,e⟩:=A5l (R:=R) (N:=N) (o:=o) (o':=o') k.ok A.ok (by rw[k.m,A.m];exact C)
 rw[e];exact h d (by rw[k.q,A.q] at B;exact B)
theorem Xs {v:Int} (k:-9223372036854775808≤v∧v≤9223372036854775807) (hN:4≤N) (h:∀ d:RatD,d.can (v:Rat)→K d.av=X):Dr N v K=X:=by
 obtain⟨d,A,e⟩:=Akd (R:=R) (N:=N) k hN
 rw[e];exact h d A
end
theorem A89 {q:Rat}:decide (q.num.sign≤0)=decide (q≤0):=by
 have e:q≤0↔q.num≤0:=by
  rw[Rat.le_iff_sub_nonneg,←Rat.num_nonneg,Rat.sub_eq_add_neg,Rat.zero_add,Rat.neg_num];omega
 rw[decide_eq_decide,e]
 rcases Int.lt_trichotomy q.num 0 with h | h | h
 ·rw[Int.sign_eq_neg_one_of_neg h];omega
 ·rw[h];simp
 ·rw[Int.sign_eq_one_of_pos h];omega
theorem qi {v:Int} (h:-9223372036854775808≤v∧v≤9223372036854775807):qm (v:Rat)≤2:=Bbe (by omega)
def eV:Rat→List SegD→Rat
 | _,[]=>0
 | Vf,s::r=>if Vf≤0 then 0 else (s.price:Rat)*(if Vf≤(s.width:Rat) then Vf else (s.width:Rat))+eV (Vf - (if Vf≤(s.width:Rat) then Vf else (s.width:Rat))) r
def Bcn (l:List SegD):Prop:=∀ s ∈ l,-1048576≤s.width∧s.width≤1048576∧-1048576≤s.price∧s.price≤1048576
theorem A7v {N:Nat} {X:Option R} {K:LA→Option R} {v:Int} {x:RatD} {q:Rat} {o:Bool} (A:-9223372036854775808≤v∧v≤9223372036854775807) (C:x.can q) (B:fit (8*(2+qm q)+40) N) (h:∀ d:RatD,d.can ((v:Rat)*q)→K d.av=X):PT N v x.av o K=X:=by
 rw[p9];unfold sv
 refine Xs A (by have:=B.1;omega) fun d D=>?_
 simp only[A2h,b3,ct]
 refine Bbh D C (B.le (by have:=qi A;omega)) fun d' k=>?_
 simp only[A2h,b3,c3,ct]
 exact h d' k
theorem A9a {N:Nat} {X:Option R} {K:LA→Option R} {l:List SegD} {d:Bool} {A:Nat} (hl:Bcn l) (h8:l.length≤8) (hA:2≤A) (F:fit (100*A+6000) N):∀ (m j fuel:Nat) (x y:RatD) (p q:Rat),j+m=l.length→m<fuel→x.can p→y.can q→qm p≤A+3*j→qm q≤2+j*(A+31) →
  (∀ d:RatD,d.can (q+eV p (l.drop j))→K d.av=X)→Ev N K (l.flatMap SegD.av) l.length d fuel (l.length:Int) (j:Int) x.av y.av=X:=by
 intro m
 induction m with
 | zero =>
  intro j fuel x y p q hj M G I _ _ hX
  obtain⟨fuel,rfl⟩:∃ k,fuel=k+1:=⟨fuel - 1,by omega⟩
  rw[Ev];unfold Lv
  rw[Lb (by omega),cf]
  simp only[A2h,b3,c3,ct]
  rw[Fw (l:=l) (by omega)] at hX
  exact hX y (by rw[eV,Rat.add_zero];exact I)
 | succ m ih =>
  intro j fuel x y p q hj M G I hp hq hX
  obtain⟨fuel,rfl⟩:∃ k,fuel=k+1:=⟨fuel - 1,by omega⟩
  rw[Ev];unfold Lv
  have h:j<l.length:=by omega
  have O:j≤8:=by omega
  have hr:=hl l[j] (List.getElem_mem h)
  have hjA:j*(A+31)≤8*(A+31):=Nat.mul_le_mul_right _ O
  rw[Jp h,ct,Aa h,ct,tC h]
  have p0:List.take 2 ((AV.int .i64 l[j].width)::(AV.int .i64 l[j].price)::(l.drop (j+1)).flatMap SegD.av)=[(.int .i64 l[j].width),(.int .i64 l[j].price)]:=rfl
  rw[p0,show Nat.ble 2 (List.length ((AV.int .i64 l[j].width)::(AV.int .i64 l[j].price)::(l.drop (j+1)).flatMap SegD.av))=true by simp,ct]
  rw[show((!d)||Bd [(AV.int .i64 l[j].width),(.int .i64 l[j].price)])=true by cases d<;>rfl,ct]
  rw[show((Nat.beq (List.length [(AV.int .i64 l[j].width),(.int .i64 l[j].price)]) 2)&&((Nat.ble 2 2)&&(!false)))=true from rfl,ct]
  simp only[A2h,b3,c3,ct,Afz,g_]
  rw[Oz G.ok (F.le (by rw[G.m];omega)),G.q,A89]
  rw[Eg h,eV] at hX
  by_cases C:p≤0
  ·rw[decide_eq_true C,ct]
   rw[if_pos C,Rat.add_zero] at hX
   exact hX y I
  ·rw[decide_eq_false C,cf]
   rw[if_neg C] at hX
   refine Xs (by omega) (by have:=F.1;omega) fun wd S=>?_
   have hqw:=qi (v:=l[j].width) (by omega)
   have hqp:=qi (v:=l[j].price) (by omega)
   refine Bbi G S (F.le (by omega)) fun pd D=>?_
   simp only[A2h,b3,c3,ct]
   generalize B:(if p≤(l[j].width:Rat) then p else (l[j].width:Rat))=part at D hX
   have L:qm part≤A+3*j:=by rw[←B];split<;>omega
   refine A7v (by omega) D (F.le (by omega)) fun td T=>?_
   have hqt:qm ((l[j].price:Rat)*part)≤2+(A+3*j):=by have:=A7s (l[j].price:Rat) part;omega
   refine Bbf I T (F.le (by omega)) fun ad U=>?_
   rw[Bdd,ct]
   refine Bbg G D (F.le (by omega)) fun sd V=>?_
   rw[Bdd,ct,A88,A88]
   rw[wS (by omega)]
   have Y:qm (q+(l[j].price:Rat)*part)≤2+(j+1)*(A+31):=by
    have:=A0c q ((l[j].price:Rat)*part)
    rw[Nat.add_mul];omega
   have hqs:qm (p - part)≤A+3*(j+1):=by
    rw[←B]
    split
    ·rw[Rat.sub_self]
     have:qm ((0:Int):Rat)≤2:=qi (by omega)
     have e:((0:Int):Rat)=0:=rfl
     rw[e] at this;omega
    ·have:=Agc p (l[j].width:Rat);omega
   refine ih (j+1) fuel sd ad _ _ (by omega) (by omega) V U hqs Y fun d hd=>hX d ?_
   rw[←Rat.add_assoc];exact hd
def RatD.is (x:RatD) (q:Rat) (m:Nat):Prop:=x.ok∧x.q=q∧x.m≤m
theorem RatD.can.is {x:RatD} {q:Rat} {m:Nat} (h:x.can q) (k:qm q≤m):x.is q m:=⟨h.ok,h.q,by rw[h.m];exact k⟩
def zA:RatD:=⟨false,.nil,.nil⟩
theorem LC {m:Nat}:zA.is 0 m:=by
 refine⟨⟨?_,?_⟩,?_,?_⟩
 ·intro x k;simp[zA,LS.l] at k
 ·intro x k;simp[zA,LS.l] at k
 ·simp[zA,RatD.q,LS.l,A0,val]
 ·simp[zA,RatD.m,LS.l]
theorem RatD.is.qm {x:RatD} {q:Rat} {m:Nat} (h:x.is q m):qm q≤m+1:=by
 have:=xD x h.1
 rw[h.2.1] at this;have:=h.2.2;omega
section
variable {N:Nat} {X:Option R} {K:LA→Option R} {K':Int→Option R} {x y:RatD} {o o':Bool} {p q:Rat} {m n:Nat}
theorem A9b (k:x.is p m) (A:y.is q n) (C:fit (8*(m+n)+40) N) (h:∀ d:RatD,d.can (p - q)→K d.av=X):TZ N x.av o y.av o' K=X:=by
 obtain⟨d,B,e⟩:=Anu (R:=R) (N:=N) (o:=o) (o':=o') k.1 A.1 (C.le (by have:=k.2.2;have:=A.2.2;omega))
 rw[e];exact h d (by rw[k.2.1,A.2.1] at B;exact B)
theorem A9c (k:x.is p m) (A:y.is q n) (B:fit (4*(m+n)+10) N):Hu N x.av o y.av o' K'=K' (GU p q):=by
 rw[NC k.1 A.1 (B.le (by have:=k.2.2;have:=A.2.2;omega)),k.2.1,A.2.1]
theorem Bbj (k:x.is p m) (A:y.is q n) (B:fit (16*(m+n)+100) N):I9 N x.av o y.av o' K'=K' (GU p q):=by
 rw[Agd k.1 A.1 (B.le (by have:=k.2.2;have:=A.2.2;omega)),k.2.1,A.2.1]
theorem Agf {v:Int} (k:-9223372036854775808≤v∧v≤9223372036854775807) (hN:4000≤N):Eb N v K=K (A0a (v:Rat)).av:=Age k hN
end
theorem Bco {q:Rat} {m:Nat} (h:qm q≤m):(A0a q).is q m:=(zd q).is h
theorem Bcp {v:Int} (h:-9223372036854775808≤v∧v≤9223372036854775807):(A0a (v:Rat)).is v 2:=Bco (qi h)
theorem Bbk {p q:Rat}:decide (GU p q≥0)=decide (q≤p):=by
 rw[decide_eq_decide];unfold GU
 by_cases h:p<q
 ·rw[if_pos h];simp[Rat.not_le.2 h]
 ·rw[if_neg h];have:=Rat.not_lt.1 h;simp only[this,iff_true];split<;>omega
theorem Bbl {p q:Rat}:decide (GU p q≤0)=decide (p≤q):=by rw[decide_eq_decide];exact Aq4
def Bap (p:Rat) (lo hi:Int):Bool:=decide ((lo:Rat)≤p)&&decide (p≤(hi:Rat))
theorem xE {N:Nat} {K:Bool→Option R} {x:RatD} {p:Rat} {m:Nat} {o:Bool} {lo hi:Int} (k:x.is p m) (A:-9223372036854775808≤lo∧lo≤9223372036854775807) (B:-9223372036854775808≤hi∧hi≤9223372036854775807) (C:fit (4*(m+2)+10) N) (hN:4≤N):Wr N x.av o lo hi K=K (Bap p lo hi):=by
 rw[ju];unfold m7
 rw[b3,ct,A2h]
 refine Xs A hN fun a D=>?_
 rw[A9c k (D.is (qi A)) C,Bbk]
 refine(congrArg (cond _ · _) (Xs (X:=K (decide (p≤(hi:Rat)))) B hN fun b F=>?_)).trans ?_
 ·rw[A9c k (F.is (qi B)) C,Bbl];rfl
 ·unfold Bap;cases decide ((lo:Rat)≤p)<;>rfl
theorem A0g {N:Nat} {X:Option R} {K:LA→Option R} {u:UnitD} {x:RatD} {o o':Bool} {p:Rat} {m:Nat} (B:x.is p m) (D:Bcn u.segs.l) (F:u.segs.l.length≤8) (L:-1048576≤u.min∧u.min≤1048576) (k:fit (100*(m+8)+6000) N)
  (h:∀ d:RatD,d.can (eV (p - (u.min:Rat)) u.segs.l)→K d.av=X):Ks N u.av o x.av o' K=X:=by
 rw[GF];unfold Rt
 rw[b3,ct,A2h,u2]
 refine Xs (by omega) (by have:=k.1;omega) fun a G=>?_
 refine A9b B (G.is (qi (by omega))) (k.le (by omega)) fun r hr=>?_
 rw[c3,ct]
 refine Xs (by omega) (by have:=k.1;omega) fun z I=>?_
 rw[c3,ct,u4]
 have M:qm (p - (u.min:Rat))≤m+4:=by have:=Agc p (u.min:Rat);have:=B.qm;have:=qi (v:=u.min) (by omega);omega
 refine A9a (A:=m+4) D F (by omega) (k.le (by omega)) u.segs.l.length 0 N r z (p - (u.min:Rat)) ((0:Int):Rat) (by omega) (by have:=k.1;omega) hr I (by omega) (by have:=qi (v:=0) (by omega);omega) fun d C=>?_
 exact h d (by rw[List.drop_zero,show(((0:Int):Rat))=0 from rfl,Rat.zero_add] at C;exact C)
end
end Gx

namespace Gx
open Go Go.Proofs
section
variable {R:Type}
theorem tJ {u:UnitD} {h:Int} (k:Fg u h=true):(0≤u.min∧u.min≤1048576)∧(0≤u.max∧u.max≤1048576)∧u.min≤u.max:=by
 simp only[Fg,Bool.and_eq_true,Ff,decide_eq_true_eq] at k
 exact⟨k.2.2.1,k.2.2.2.1,k.2.2.2.2.2.2.2.1⟩
theorem UW {u:UnitD} {h:Int} (k:Fg u h=true):u.segs.l.length≤8∧Gh (-1048576) u.segs.l=true∧aJ u.segs.l=u.max - u.min:=by
 simp only[Fg,Bool.and_eq_true] at k
 have:=k.2.2.2.2.2.2.2.2.2.2.2.2.2.2.2.1
 simpa[kV] using this
theorem A2i:∀ {l:List SegD} {p:Int},Gh p l=true→(∀ s ∈ l,1≤s.width∧s.width≤1048576∧-1048576≤s.price∧s.price≤1048576)
 | [],_,_,_,hs=>by simp at hs
 | a::r,p,h,s,hs=>by
  simp only[Gh,Bool.and_eq_true,Ff,decide_eq_true_eq] at h
  rcases List.mem_cons.1 hs with rfl | hs
  ·omega
  ·exact A2i h.2.2.2 s hs
theorem tK {u:UnitD} {h:Int} (k:Fg u h=true):Bcn u.segs.l:=fun s hs=>by
 have:=A2i (UW k).2.1 s hs;omega
def Bde (u:UnitD) (p:Rat):Int:=cond (Fg u 24) (cond (Bap p u.min u.max) 0 3) 1
def A9d (u:UnitD) (p:Rat):Rat:=cond (Fg u 24&&Bap p u.min u.max) (eV (p - (u.min:Rat)) u.segs.l) 0
theorem Avr {A:Nat}:∀ (l:List SegD) (p:Rat),Bcn l→2≤A→qm p≤A→qm (eV p l)≤2+l.length*(A+3*l.length+31)
 | [],p,_,_,_=>by
  have:qm (0:Rat)≤2:=qi (v:=0) (by omega)
  rw[eV];simpa using this
 | s::r,p,hs,hA,L=>by
  have hr:=hs s (by simp)
  have F:=qi (v:=s.width) (by omega)
  have G:=qi (v:=s.price) (by omega)
  have M:qm (0:Rat)≤2:=qi (v:=0) (by omega)
  rw[eV]
  split
  ·omega
  ·generalize k:(if p≤(s.width:Rat) then p else (s.width:Rat))=part
   have C:qm part≤A:=by rw[←k];split<;>omega
   have B:qm (p - part)≤A+3:=by
    rw[←k];split
    ·rw[Rat.sub_self];omega
    ·have:=Agc p (s.width:Rat);omega
   have I:=Avr (A:=A+3) r (p - part) (fun s D=>hs s (by simp[D])) (by omega) B
   have O:=A7s (s.price:Rat) part
   have S:=A0c ((s.price:Rat)*part) (eV (p - part) r)
   rw[List.length_cons]
   have:A+3+3*r.length+31=A+3*(r.length+1)+31:=by omega
   rw[this] at I
   rw[Nat.add_mul];omega
theorem Bbm {u:UnitD} {p:Rat} {m:Nat} (D:qm p≤m+1):qm (A9d u p)≤8*m+800:=by
 have F:qm (0:Rat)≤2:=qi (v:=0) (by omega)
 unfold A9d
 cases k:Fg u 24 with
 | false=>simp only[Bool.false_and,cond_false];omega
 | true =>
  cases Bap p u.min u.max with
  | false=>simp only[Bool.and_false,cond_false];omega
  | true =>
   simp only[Bool.and_self,cond_true]
   have G:=tJ k
   have B:=UW k
   have C:qm (p - (u.min:Rat))≤m+4:=by have:=Agc p (u.min:Rat);have:=qi (v:=u.min) (by omega);omega
   have:=Avr (A:=m+4) u.segs.l _ (tK k) (by omega) C
   have I:u.segs.l.length*(m+4+3*u.segs.l.length+31)≤8*(m+4+24+31):=Nat.mul_le_mul B.1 (by omega)
   omega
theorem Agg {N:Nat} {X:Option R} {K:LA→Int→Option R} {u:UnitD} {x:RatD} {o o':Bool} {p:Rat} {m:Nat} (A:x.is p m) (F:u.away.l.length≤1000) (B:fit (200*(m+8)+12000) N) (hN:4000≤N)
  (h:∀ d:RatD,d.is (A9d u p) (8*m+800)→K d.av (Bde u p)=X):Kt N u.av o x.av o' K=X:=by
 rw[GH];unfold Z8
 simp only[D8,Cg,ct,b3,A2h,u2,u3]
 rw[Xq (by omega) (by omega) (by omega)]
 unfold Bde at h
 cases k:Fg u 24 with
 | false =>
  rw[k] at h
  exact h zA (by unfold A9d;rw[k];exact LC)
 | true =>
  have G:=tJ k
  have C:=UW k
  rw[k] at h
  rw[show(!true)=false from rfl,cf,xE A (by omega) (by omega) (B.le (by omega)) (by omega)]
  cases hi:Bap p u.min u.max with
  | false =>
   rw[hi] at h
   exact h zA (by unfold A9d;rw[k,hi];exact LC)
  | true =>
   rw[hi] at h
   rw[show(!true)=false from rfl,cf]
   refine A0g A (tK k) C.1 (by omega) (B.le (by omega)) fun d D=>?_
   rw[c3,ct,A2h,b3,ct]
   have e:A9d u p=eV (p - (u.min:Rat)) u.segs.l:=by unfold A9d;rw[k,hi];rfl
   exact h d ((e▸D:d.can (A9d u p)).is (Bbm A.qm))
end
end Gx

namespace Gx
open Go Go.Proofs
section
variable {R:Type}
def Avs (p:Rat):Int→Bool→Rat→List SegD→Bool×Rat
 | _,b,q,[]=>(b,q)
 | a,b,q,s::r=>cond (decide (GU p (a:Rat)>0)&&decide (GU p ((a+s.width:Int):Rat)≤0)) (Avs p (a+s.width) true (s.price:Rat) r) (Avs p (a+s.width) b q r)
def Akf (p:Rat):Int→Bool→Rat→List SegD→Bool×Rat
 | _,b,q,[]=>(b,q)
 | a,b,q,s::r=>cond (decide (GU p (a:Rat)≥0)&&decide (GU p ((a+s.width:Int):Rat)<0)) (Akf p (a+s.width) true (s.price:Rat) r) (Akf p (a+s.width) b q r)
theorem A9e {N:Nat} {X:Option R} {K:LA→LA→Bool→Bool→Option R} {l:List SegD} {d:Bool} {x:RatD} {o:Bool} {p:Rat} {m:Nat} (T:x.is p m) (hl:Bcn l) (h8:l.length≤8) (U:fit (4*(m+2)+10) N) (hN:4000≤N):∀ (k j fuel:Nat) (a:Int) (bl bh:Bool) (ql qh:Rat) (xl xh:RatD),j+k=l.length→k<fuel→(-1048576*((j:Int)+1)≤a∧a≤1048576*((j:Int)+1))→xl.is ql 2→xh.is qh 2 →
  (∀ (y z:RatD),y.is (Avs p a bl ql (l.drop j)).2 2→z.is (Akf p a bh qh (l.drop j)).2 2→K y.av z.av (Avs p a bl ql (l.drop j)).1 (Akf p a bh qh (l.drop j)).1=X) →
  F9 N K (l.flatMap SegD.av) l.length d o x.av fuel bl bh a (l.length:Int) (j:Int) xl.av xh.av=X:=by
 intro k
 induction k with
 | zero =>
  intro j fuel a bl bh ql qh xl xh hj L ha F G hX
  obtain⟨fuel,rfl⟩:∃ k,fuel=k+1:=⟨fuel - 1,by omega⟩
  rw[F9];unfold Ru
  rw[Lb (by omega),cf]
  rw[Fw (l:=l) (by omega)] at hX
  exact hX xl xh F G
 | succ k V =>
  intro j fuel a bl bh ql qh xl xh hj L ha F G hX
  obtain⟨fuel,rfl⟩:∃ k,fuel=k+1:=⟨fuel - 1,by omega⟩
  rw[F9];unfold Ru
  have h:j<l.length:=by omega
  have hr:=hl l[j] (List.getElem_mem h)
  rw[Jp h,ct,Aa h,ct,tC h]
  have p0:List.take 2 ((AV.int .i64 l[j].width)::(AV.int .i64 l[j].price)::(l.drop (j+1)).flatMap SegD.av)=[(.int .i64 l[j].width),(.int .i64 l[j].price)]:=rfl
  rw[p0,show Nat.ble 2 (List.length ((AV.int .i64 l[j].width)::(AV.int .i64 l[j].price)::(l.drop (j+1)).flatMap SegD.av))=true by simp,ct]
  rw[show((!d)||Bd [(AV.int .i64 l[j].width),(.int .i64 l[j].price)])=true by cases d<;>rfl,ct]
  rw[show((Nat.beq (List.length [(AV.int .i64 l[j].width),(.int .i64 l[j].price)]) 2)&&((Nat.ble 2 2)&&(!false)))=true from rfl,ct]
  simp only[A2h,b3,ct,Afz,g_]
  have e1:IntKind.wrap .i64 (a+l[j].width)=a+l[j].width:=i64 (by omega)
  rw[e1]
  refine Xs (by omega) (by omega) fun f1 M=>?_
  rw[A9c T (M.is (qi (by omega))) U]
  refine Xs (by omega) (by omega) fun f2 O=>?_
  rw[A9c T (O.is (qi (by omega))) U]
  rw[Eg h] at hX
  simp only[Avs,Akf] at hX
  generalize hA:GU p (a:Rat)=A at hX ⊢
  generalize hB:GU p ((a+l[j].width:Int):Rat)=B at hX ⊢
  have second:∀ (bl':Bool) (ql':Rat) (xl':RatD),xl'.is ql' 2 →
    (∀ (y z:RatD),y.is (Avs p (a+l[j].width) bl' ql' (l.drop (j+1))).2 2→z.is (cond (decide (A≥0)&&decide (B<0)) (Akf p (a+l[j].width) true (l[j].price:Rat) (l.drop (j+1))) (Akf p (a+l[j].width) bh qh (l.drop (j+1)))).2 2→K y.av z.av (Avs p (a+l[j].width) bl' ql' (l.drop (j+1))).1 (cond (decide (A≥0)&&decide (B<0)) (Akf p (a+l[j].width) true (l[j].price:Rat) (l.drop (j+1))) (Akf p (a+l[j].width) bh qh (l.drop (j+1)))).1=X) →
    On N (F9 N K (l.flatMap SegD.av) l.length d o x.av fuel) K bh A B (l.flatMap SegD.av) l.length d (l.length:Int) (j:Int) o x.av xh.av bl' (a+l[j].width) xl'.av (setCells [(.int .i64 0),(.int .i64 0)] 0 [(.int .i64 l[j].width),(.int .i64 l[j].price)])=X:=by
   intro bl' ql' xl' D hX'
   unfold On
   rw[g_,wS (by omega)]
   cases C:(decide (A≥0)&&decide (B<0)) with
   | true =>
    rw[C] at hX'
    simp only[Bool.and_eq_true] at C
    rw[C.1,C.2]
    refine Xs (by omega) (by omega) fun Y I=>?_
    rw[c4,ct,A88]
    exact V (j+1) fuel _ _ _ _ _ _ _ (by omega) (by omega) (by omega) D (I.is (qi (by omega))) hX'
   | false =>
    rw[C] at hX'
    have go:=V (j+1) fuel (a+l[j].width) bl' bh ql' qh xl' xh (by omega) (by omega) (by omega) D G hX'
    rw[go]
    cases S:decide (A≥0) with
    | false=>rfl
    | true =>
     rw[S,Bool.true_and] at C
     rw[C];rfl
  cases C:(decide (A>0)&&decide (B≤0)) with
  | true =>
   rw[C] at hX
   simp only[Bool.and_eq_true] at C
   rw[C.1,C.2]
   refine Xs (by omega) (by omega) fun Y I=>?_
   rw[Bdd,ct,A88]
   exact second true _ Y (I.is (qi (by omega))) hX
  | false =>
   rw[C] at hX
   rw[second bl ql xl F hX]
   cases S:decide (A>0) with
   | false=>rfl
   | true =>
    rw[S,Bool.true_and] at C
    rw[C];rfl
def Bdf (u:UnitD) (p:Rat):Bool:=Fg u 24&&Bap p u.min u.max
def Bcz (u:UnitD) (p:Rat):Bool×Rat:=cond (Bdf u p) (Avs p u.min false 0 u.segs.l) (false,0)
def Bc0 (u:UnitD) (p:Rat):Bool×Rat:=cond (Bdf u p) (Akf p u.min false 0 u.segs.l) (false,0)
theorem Avt {N:Nat} {X:Option R} {K:LA→LA→Bool→Bool→Option R} {u:UnitD} {x:RatD} {o o':Bool} {p:Rat} {m:Nat} (A:x.is p m) (D:u.away.l.length≤1000) (B:fit (200*(m+8)+12000) N) (hN:4000≤N)
  (h:∀ y z:RatD,y.is (Bcz u p).2 2→z.is (Bc0 u p).2 2→K y.av z.av (Bcz u p).1 (Bc0 u p).1=X):Tn N u.av o x.av o' K=X:=by
 rw[XO];unfold CV
 simp only[D8,Cg,ct,b3,A2h,u2,u3]
 rw[Xq (by omega) (by omega) (by omega)]
 unfold Bcz Bc0 Bdf at h
 cases k:Fg u 24 with
 | false =>
  rw[k] at h
  exact h zA zA LC LC
 | true =>
  have F:=tJ k
  have C:=UW k
  rw[k,Bool.true_and] at h
  rw[show((!true)==false)=true from rfl,ct,xE A (by omega) (by omega) (B.le (by omega)) (by omega)]
  cases hi:Bap p u.min u.max with
  | false =>
   rw[hi] at h
   exact h zA zA LC LC
  | true =>
   rw[hi] at h
   rw[show(cond false true (!true))=false from rfl,cf]
   unfold Uk Z9
   rw[u2,u4]
   exact A9e A (tK k) C.1 (B.le (by omega)) hN u.segs.l.length 0 N u.min false false 0 0 zA zA (by omega) (by omega) (by omega) LC LC h
end
end Gx

namespace Gx
open Go Go.Proofs
set_option maxRecDepth 100000
section
variable {R:Type}
def Bca:UnitD:={ name:=[],bus:=0,min:=10,max:=40,segs:=.of [⟨20,3⟩,⟨10,5⟩] false false,noLoad:=0,rampUp:=5,rampDown:=10,startRamp:=15,stopRamp:=15,upTime:=0,downTime:=0,startTime:=0,hotCost:=0,coldCost:=0,hotHours:=0,reserve:=0,reservePrice:=0,away:=.nil,state:=2,hours:=1,output:=12 }
theorem A9f {N:Nat} {K:LA→Option R}:Nd N K=K Bca.av:=by rw[JQ];rfl
def Ast:List AV:=[.int .i64 2,.int .i64 1]
def A7w:List AV:=[.int .i64 0,.int .i64 1]
def A7x:List AV:=[.int .i64 2,.int .i64 2,.int .i64 0]
theorem A9g {n:Nat} {o:Bool} {K:LA→Option R}:UC (n+64) Bca.av o K=K []:=by rw[d6];kernel_rfl
theorem qL {n:Nat} {o:Bool} {K:Bool→Option R}:Ok (n+64) Bca.av o K=K true:=by
 rw[Nh (by omega)];rfl
theorem Aq6 {n:Nat} {o:Bool} {K:Int→Int→Option R}:CW (n+64) Bca.av o K=K 1 1:=by
 rw[d7];unfold pk
 rw[D8,ct,Cg,qL];kernel_rfl
theorem A9h {n:Nat} {o:Bool} {K:LA→Option R}:Sn (n+64) Bca.av o K=K Ast:=by
 rw[GL];unfold KU
 simp only[D8,ct,Cg,qL,Aq6];kernel_rfl
theorem Bbn {n:Nat} {o o':Bool} {K:Int→Option R}:Lg (n+64) Bca.av o Ast o' K=K 1:=by
 rw[AB];unfold Ul Oo Rv
 simp only[D8,ct,Cg,qL,Aq6];kernel_rfl
theorem Aq7 {n:Nat} {o:Bool} {K:LA→Nat→Option R}:Xn (n+64) Bca.av o Ast false K=K (A7w++Ast) 2:=by
 rw[du];unfold dt
 rw[show List.take 2 Ast=Ast from rfl]
 simp only[D8,ct,Cg,Bbn,Aq6];kernel_rfl
theorem A7y {N:Nat} {k h v:Int} {o:Bool} {K:Bool→Option R}:Ju N [.int .i64 k,.int .i64 h] o v K=K (k==v):=by
 rw[GP];rfl
theorem A2j {n:Nat} {a:Bool} {K:Int→Option R}:An (n+64) (A7w++Ast) 2 a false 2 K=K 1:=by
 rw[Bg]
 change Ju _ A7w _ _ _=_
 rw[A7w,A7y]
 change Ju _ Ast _ _ _=_
 rw[Ast,A7y];rfl
theorem A9i {n:Nat} {a:Bool} {K:Int→Option R}:An (n+64) (A7w++Ast) 2 a false 0 K=K 0:=by
 rw[Bg]
 change Ju _ A7w _ _ _=_
 rw[A7w,A7y];rfl
theorem A9j {n:Nat} {o a b:Bool} {K:Nat→Int→Int→LA→Option R}:UG (n+64) Bca.av o A7x 3 a b K=K 3 3 0 (Ast++Ast++A7w):=by
 rw[dx];unfold dw
 simp only[D8,ct,Cg,qL,A9g,A9h]
 change Xn _ Bca.av _ Ast _ _=_
 rw[Aq7]
 change An _ (A7w++Ast) 2 _ _ _ _=_
 rw[A2j]
 change Xn _ Bca.av _ Ast _ _=_
 rw[Aq7]
 change An _ (A7w++Ast) 2 _ _ _ _=_
 rw[A2j]
 change Xn _ Bca.av _ Ast _ _=_
 rw[Aq7]
 change An _ (A7w++Ast) 2 _ _ _ _=_
 rw[A9i]
 kernel_rfl
theorem Bbo {n:Nat} {o a b:Bool} {K:Nat→LA→Option R}:So (n+64) Bca.av o 3 A7x 3 a b K=K 3 [.int .i64 10,.int .i64 17,.int .i64 10,.int .i64 22,.int .i64 0,.int .i64 0]:=by
 rw[GR];kernel_rfl
theorem Bbp {n:Nat} {o a b:Bool} {K:LA→Option R}:Ot (n+64) Bca.av o 3 A7x 3 a b [.int .i64 10,.int .i64 17,.int .i64 10,.int .i64 22,.int .i64 0,.int .i64 0] K=K [.int .i64 10,.int .i64 17,.int .i64 10,.int .i64 15,.int .i64 0,.int .i64 0]:=by
 rw[AC];kernel_rfl
theorem Bbq {n:Nat} {o a b:Bool} {K:Nat→Int→LA→Option R}:Hc (n+64) Bca.av o 3 A7x 3 a b K=K 3 0 [.int .i64 10,.int .i64 17,.int .i64 10,.int .i64 15,.int .i64 0,.int .i64 0]:=by
 rw[AD];unfold Un
 rw[D8,ct,Cg,Xq (by omega) (by decide) (by simp[Bca,Sl.l]),show Fg Bca 3=true from rfl]
 rw[A9j]
 unfold Kv Ry
 rw[D8,ct,Cg,Bbo,Bbp]
 kernel_rfl
theorem Agh (q:Rat):GU q q=0:=by
 unfold GU
 rw[if_neg (Rat.lt_irrefl),if_neg (Rat.lt_irrefl)]
theorem A0h {N:Nat} {K:Bool→Option R} (k:fit 100000 N):Jb N K=K true:=by
 have hN:4000≤N:=by have:=k.1;omega
 obtain⟨n,rfl⟩:∃ n,N=n+64:=⟨N - 64,by omega⟩
 rw[XT];unfold UH
 rw[A9f,show((Nat.beq 0 0)&&((Nat.beq (List.length Bca.av) 22)&&(Nat.beq 22 22)))=true from rfl,ct,D8,ct,Cg,Agf (by omega) hN]
 refine Agg (m:=2) (Bcp (by omega)) (by decide) (k.le (by omega)) hN fun d A=>?_
 rw[show Bde Bca ((35:Int):Rat)=0 by kernel_rfl]
 rw[show A9d Bca ((35:Int):Rat)=((85:Int):Rat) by kernel_rfl] at A
 rw[c3,ct,ct,Agf (by omega) hN]
 refine Avt (m:=2) (Bcp (by omega)) (by decide) (k.le (by omega)) hN fun y z B C=>?_
 rw[show Bcz Bca ((30:Int):Rat)=(true,((3:Int):Rat)) by kernel_rfl] at B ⊢
 rw[show Bc0 Bca ((30:Int):Rat)=(true,((5:Int):Rat)) by kernel_rfl] at C ⊢
 rw[c3,ct,c3,ct,ct]
 rw[show [(AV.int .i64 2),(.int .i64 2),(.int .i64 0)]=A7x from rfl,Bbq,b3,ct,A2h,Agf (by omega) hN,Bbj A (Bcp (by omega)) (k.le (by omega)),Agh]
 rw[b3,A2h,Agf (by omega) hN,Bbj B (Bcp (by omega)) (k.le (by omega)),Agh]
 rw[b3,A2h,Agf (by omega) hN,Bbj C (Bcp (by omega)) (k.le (by omega)),Agh]
 rfl
end
end Gx

namespace Gx
open Go Go.Proofs
open IntKind (wrap)
set_option maxRecDepth 100000
noncomputable section
variable {R:Type} (N:Nat)
def Aq8 (N:Nat) (r0:O R) (a:LA) (b:Nat) (c d:Bool):O R :=
 r0
def Agi:=(Ah (fun (N:Nat) (a:LA) (b:Nat) (c d:Bool) (r0:O R)=>(Aq8 N r0 a b c d))).1
theorem Agj (a b c d r0):(@Agi R N a b c d r0)=(Aq8 N r0 a b c d):=by rw[Agi,(Ah _).2]
def A5o:Hints:={ H:=hL }
def Anw (a:LA) (b:Nat) (c d:Bool) (F:KF R):O R:=F (.optr 300000 0) [(300000,⟨false,false,false,false,0,[(.imm a b 1 c d),(.int .i64 0)],false⟩)]
theorem Anx (a:LA) (b:Nat) (c d:Bool) (F:KF R):Cn [] A5o N 105 [(.imm a b 1 c d)] [] F=(Agi N a b c d (Anw a b c d F)):=by
 rw[Agj]
 kernel_rfl
def Agk (args:List AV) (h:Am) (k:KF R):O R :=
 match args,h with
 | [(.imm a b 1 c d)],[]=>(Agi N a b c d (Anw a b c d k))
 | _,_=>none
theorem Any:Aq N 105 @Agk:=by
 intro R Q args h k j;unfold Agk;split
 exact A2 (Anx ..) (Anx ..) trivial
 exact A5
def Anz:=A4 (Any N)
theorem A5p:A1 Tryz.prog 105 (Anz N):=A6 (Any N) follows
def Aq9 (N:Nat) (r0:Int→O R) (b a:Int):O R :=
 (cond ((wrap .u64 a)==0) none (r0 (wrap .i64 (Int.tmod (wrap .u64 b) (wrap .u64 a)))))
def Agl:=(Ah (fun (N:Nat) (b a:Int) (r0:Int→O R)=>(Aq9 N r0 b a))).1
theorem Agm (b a r0):(@Agl R N b a r0)=(Aq9 N r0 b a):=by rw[Agl,(Ah _).2]
def A5q:Hints:={ H:=hL }
def An0 (F:KF R):Int→O R:=(fun c=>F (.int .i64 c) [])
theorem An1 (b a:Int) (F:KF R):Cn [] A5q N 150 [(.int .i64 b),(.int .i64 a)] [] F=(Agl N b a (An0 F)):=by
 rw[Agm]
 kernel_rfl
def Agn (args:List AV) (h:Am) (k:KF R):O R :=
 match args,h with
 | [(.int .i64 b),(.int .i64 a)],[]=>(Agl N b a (An0 k))
 | _,_=>none
theorem An2:Aq N 150 @Agn:=by
 intro R Q args h k j;unfold Agn;split
 exact A2 (An1 ..) (An1 ..) trivial
 exact A5
def An3:=A4 (An2 N)
theorem A5r:A1 Tryz.prog 150 (An3 N):=A6 (An2 N) follows
def Xt (r0:Int→Int→O R) (f:Int) (b:LA) (a:Nat) (d e:Bool) (c:Int):O R :=
 (cond (decide (c≥((a:Nat):Int))) (r0 0 c) (cond (Ad (wrap .i64 ((wrap .i64 (c+1)) - 1)) a) (Ao .i64 (b.drop (((wrap .i64 ((wrap .i64 (c+1)) - 1)).toNat)*1)) fun g=>(Agl N g f (fun i=>(r0 i (wrap .i64 (c+1)))))) none))
def Af:=(Ah (fun (N:Nat) (f:Int) (b:LA) (a:Nat) (d e:Bool) (c:Int) (r0:Int→Int→O R)=>(Xt N r0 f b a d e c))).1
theorem Ws (f b a d e c r0):(@Af R N f b a d e c r0)=(Xt N r0 f b a d e c):=by rw[Af,(Ah _).2]
def zB:Hints:={ H:=hL }
def Ago:Ek:=[(150,An3 N)]
def X_ (b:LA) (a:Nat) (d e:Bool) (F:KF R):Int→Int→O R:=(fun l m=>F (.int .i64 l) [(100000,⟨false,false,false,false,0,[(.imm b a 1 d e),(.int .i64 m)],false⟩)])
theorem YA (f:Int) (b:LA) (a:Nat) (d e:Bool) (c:Int) (F:KF R):Cn (Ago N) zB N 106 [(.optr 100000 0),(.int .i64 f)] [(100000,⟨false,false,false,false,0,[(.imm b a 1 d e),(.int .i64 c)],false⟩)] F=(Af N f b a d e c (X_ b a d e F)):=by
 rw[Ws]
 kernel_rfl
def QB (args:List AV) (h:Am) (k:KF R):O R :=
 match args,h with
 | [(.optr 100000 0),(.int .i64 f)],[(100000,⟨false,false,false,false,0,[(.imm b a 1 d e),(.int .i64 c)],false⟩)]=>(Af N f b a d e c (X_ b a d e k))
 | _,_=>none
theorem YB:Aq N 106 @QB:=by
 intro R Q args h k j;unfold QB;split
 exact A2 (YA ..) (YA ..) ⟨A5r N,trivial⟩
 exact A5
def Gr:=A4 (YB N)
theorem Iw:A1 Tryz.prog 106 (Gr N):=A6 (YB N) follows
def Nz (r0:Nat→Int→LA→O R) (e f:Int) (a:LA) (b:Nat) (c d:Bool) (k0:Nat→Int→Int→LA→O R) (g:Nat) (i l:Int) (m:LA):O R :=
 (cond (decide (i<e)) (Af N f a b c d l (fun p q=>(cond ((Nat.ble (g+1) 140737488355328)&&(Nat.ble ((g+1)*8) 140737488355328)) (k0 (g+1) (wrap .i64 (i+1)) q ((m.take (g*1))++[(.int .i64 p)])) none))) (r0 g l m))
def Fq (r0:Nat→Int→LA→O R) (e f:Int) (a:LA) (b:Nat) (c d:Bool):Nat→Nat→Int→Int→LA→O R
 | 0,_,_,_,_=>none
 | n+1,g,i,l,m=>(Nz N r0 e f a b c d (Fq r0 e f a b c d n) g i l m)
def Up (N:Nat) (r0:Nat→Int→LA→O R) (q0:Nat→Int→Int→LA→O R) (e f:Int) (a:LA) (b:Nat) (c d:Bool) (o:Int):O R :=
 (q0 0 0 o [])
def Ep:=(Ah (fun (N:Nat) (e f:Int) (a:LA) (b:Nat) (c d:Bool) (o:Int) (r0:Nat→Int→LA→O R)=>(Up N r0 (fun g i l m=>(Fq N r0 e f a b c d N g i l m)) e f a b c d o))).1
theorem LD (e f a b c d o r0):(@Ep R N e f a b c d o r0)=(Up N r0 (fun g i l m=>(Fq N r0 e f a b c d N g i l m)) e f a b c d o):=by rw[Ep,(Ah _).2]
def QC:Hints:={ H:=(hS hL (hS hL (hS (hS hL (hS (hP [0,1,2,7,8] hL) hL)) hL))),nils:=[(6,1),(7,1)],modes:=[(2,1)] }
def YC:Ek:=[(106,Gr N)]
def tL (F:KF R):=Kk Tryz.f107 QC (YC N) [100000] N F
def Kz (a:LA) (b:Nat) (c d:Bool) (F:KF R):Nat→Int→LA→O R:=(fun r s t=>F (.own 300000 0 r) [(100000,⟨false,false,false,false,0,[(.imm a b 1 c d),(.int .i64 s)],false⟩),(300000,(bQ 1 t))])
def tM (e f:Int) (a:LA) (b:Nat) (c d:Bool) (g:Nat) (i l:Int) (m:LA):St:=⟨[(0,(.optr 100000 0)),(1,(.int .i64 e)),(2,(.int .i64 f)),(7,(.own 300000 0 g)),(8,(.int .i64 i))],[(100000,⟨false,false,false,false,0,[(.imm a b 1 c d),(.int .i64 l)],false⟩),(300000,(bQ 1 m))]⟩
def tN (F:KF R):=tL N F [1,1,0,1,0] []
theorem BG (F:KF R) (e f:Int) (a:LA) (b:Nat) (c d:Bool):∀ (n g:Nat) (i l:Int) (m:LA),Ap (tN N F) n (tM e f a b c d g i l m)=(Fq N (Kz a b c d F) e f a b c d n g i l m)
 | 0,_,_,_,_=>by kernel_rfl
 | n+1,g,i,l,m=>Eq.trans (by kernel_rfl) (Bs (Nz N (Kz a b c d F) e f a b c d · g i l m) (funext fun g=>funext fun i=>funext fun l=>funext fun m=>(BG F e f a b c d n g i l m)):_)
theorem QD (e f:Int) (a:LA) (b:Nat) (c d:Bool) (o:Int) (F:KF R):Cn (YC N) QC N 107 [(.optr 100000 0),(.int .i64 e),(.int .i64 f)] [(100000,⟨false,false,false,false,0,[(.imm a b 1 c d),(.int .i64 o)],false⟩)] F=(Ep N e f a b c d o (Kz a b c d F)):=by
 rw[LD]
 exact Eq.trans (by kernel_rfl) (Bs (Up N (Kz a b c d F) · e f a b c d o) (funext fun g=>funext fun i=>funext fun l=>funext fun m=>(Ak ..).trans (BG N F e f a b c d N g i l m)):_)
def LE (args:List AV) (h:Am) (k:KF R):O R :=
 match args,h with
 | [(.optr 100000 0),(.int .i64 e),(.int .i64 f)],[(100000,⟨false,false,false,false,0,[(.imm a b 1 c d),(.int .i64 o)],false⟩)]=>(Ep N e f a b c d o (Kz a b c d k))
 | _,_=>none
theorem QE:Aq N 107 @LE:=by
 intro R Q args h k j;unfold LE;split
 exact A2 (QD ..) (QD ..) ⟨Iw N,trivial⟩
 exact A5
def QF:=A4 (QE N)
theorem tO:A1 Tryz.prog 107 (QF N):=A6 (QE N) follows
def Agp (N:Nat) (r0:List UInt8→O R) (b:List UInt8) (a:Int):O R :=
 (cond ((decide (0≤(Int.tmod a 16)))&&((decide ((Int.tmod a 16)≤(wrap .i64 ((Int.tmod a 16)+1))))&&((decide ((wrap .i64 ((Int.tmod a 16)+1))≤16))&&(decide ((16:Int)≤(16:Int)))))) (cond (Nat.ble ((b.length)+(List.length (List.take (((wrap .i64 ((Int.tmod a 16)+1)).toNat) - ((Int.tmod a 16).toNat)) (List.drop ((Int.tmod a 16).toNat) ([48,49,50,51,52,53,54,55,56,57,97,98,99,100,101,102]:List UInt8))))) 140737488355328) (r0 (b++(List.take (((wrap .i64 ((Int.tmod a 16)+1)).toNat) - ((Int.tmod a 16).toNat)) (List.drop ((Int.tmod a 16).toNat) ([48,49,50,51,52,53,54,55,56,57,97,98,99,100,101,102]:List UInt8))))) none) none)
def DE:=(Ah (fun (N:Nat) (b:List UInt8) (a:Int) (r0:List UInt8→O R)=>(Agp N r0 b a))).1
theorem xF (b a r0):(@DE R N b a r0)=(Agp N r0 b a):=by rw[DE,(Ah _).2]
def A0i:Hints:={ H:=hL }
def Agq (F:KF R):List UInt8→O R:=(fun c=>F (.str c) [])
theorem Agr (b:List UInt8) (a:Int) (F:KF R):Cn [] A0i N 108 [(.str b),(.int .i64 a)] [] F=(DE N b a (Agq F)):=by
 rw[xF]
 kernel_rfl
def xG (args:List AV) (h:Am) (k:KF R):O R :=
 match args,h with
 | [(.str b),(.int .i64 a)],[]=>(DE N b a (Agq k))
 | _,_=>none
theorem Ags:Aq N 108 @xG:=by
 intro R Q args h k j;unfold xG;split
 exact A2 (Agr ..) (Agr ..) trivial
 exact A5
def GV:=A4 (Ags N)
theorem UX:A1 Tryz.prog 108 (GV N):=A6 (Ags N) follows
def Xu (r0:Nat→Int→LA→O R) (e:Int) (a:LA) (b:Nat) (c d:Bool) (f:Int):O R :=
 (Af N 6 a b c d f (fun i g=>(cond (i==5) (Af N e a b c d g (fun l m=>(r0 1 m [(.int .i64 l)]))) (r0 0 g []))))
def Jc:=(Ah (fun (N:Nat) (e:Int) (a:LA) (b:Nat) (c d:Bool) (f:Int) (r0:Nat→Int→LA→O R)=>(Xu N r0 e a b c d f))).1
theorem Wt (e a b c d f r0):(@Jc R N e a b c d f r0)=(Xu N r0 e a b c d f):=by rw[Jc,(Ah _).2]
def zC:Hints:={ H:=hL,nils:=[(4,1)],modes:=[(2,1)] }
def Agt:Ek:=[(106,Gr N)]
def YD (a:LA) (b:Nat) (c d:Bool) (F:KF R):Nat→Int→LA→O R:=(fun n o p=>F (.own 300000 0 n) [(100000,⟨false,false,false,false,0,[(.imm a b 1 c d),(.int .i64 o)],false⟩),(300000,(bQ 1 p))])
theorem YE (e:Int) (a:LA) (b:Nat) (c d:Bool) (f:Int) (F:KF R):Cn (Agt N) zC N 151 [(.optr 100000 0),(.int .i64 e)] [(100000,⟨false,false,false,false,0,[(.imm a b 1 c d),(.int .i64 f)],false⟩)] F=(Jc N e a b c d f (YD a b c d F)):=by
 rw[Wt]
 kernel_rfl
def QG (args:List AV) (h:Am) (k:KF R):O R :=
 match args,h with
 | [(.optr 100000 0),(.int .i64 e)],[(100000,⟨false,false,false,false,0,[(.imm a b 1 c d),(.int .i64 f)],false⟩)]=>(Jc N e a b c d f (YD a b c d k))
 | _,_=>none
theorem YF:Aq N 151 @QG:=by
 intro R Q args h k j;unfold QG;split
 exact A2 (YE ..) (YE ..) ⟨Iw N,trivial⟩
 exact A5
def AG:=A4 (YF N)
theorem YG:A1 Tryz.prog 151 (AG N):=A6 (YF N) follows
end
end Gx

namespace Gx
open Go Go.Proofs
open IntKind (wrap)
set_option maxRecDepth 100000
noncomputable section
variable {R:Type} (N:Nat)
def Xv (r0:LA→Int→O R) (i e f g:Int) (a:LA) (b:Nat) (c d:Bool) (l:Int):O R :=
 (DE N ([108]:List UInt8) i (fun n=>(Af N 4 a b c d l (fun o u=>(Af N 2 a b c d u (fun p v=>(Af N 40 a b c d v (fun m w=>(Af N 20 a b c d w (fun q x=>(Af N 5 a b c d x (fun y r=>(cond (y==4) (Af N 4 a b c d r (fun z aa=>(Af N 2 a b c d aa (fun ab ac=>(Af N 4 a b c d ac (fun ad ae=>(Jc N g a b c d ae (fun s af ag=>(r0 [(.str n),(.int .i64 e),(.int .i64 f),(.int .i64 (wrap .i64 (1+o))),(.int .i64 (wrap .i64 (1+p))),(.int .i64 (wrap .i64 ((0:Int) - z))),(.int .i64 (wrap .i64 (1+ab))),(.int .i64 ad),(.int .i64 1),(.int .i64 (wrap .i64 (4+m))),(.int .i64 (wrap .i64 ((wrap .i64 (4+m))+q))),(.imm (ag.take (s*1)) s 1 false false)] af))))))))) (Jc N g a b c d r (fun t ah ai=>(r0 [(.str n),(.int .i64 e),(.int .i64 f),(.int .i64 (wrap .i64 (1+o))),(.int .i64 (wrap .i64 (1+p))),(.int .i64 0),(.int .i64 1),(.int .i64 0),(.int .i64 1),(.int .i64 (wrap .i64 (4+m))),(.int .i64 (wrap .i64 ((wrap .i64 (4+m))+q))),(.imm (ai.take (t*1)) t 1 false false)] ah))))))))))))))))
def Ly:=(Ah (fun (N:Nat) (i e f g:Int) (a:LA) (b:Nat) (c d:Bool) (l:Int) (r0:LA→Int→O R)=>(Xv N r0 i e f g a b c d l))).1
theorem Wu (i e f g a b c d l r0):(@Ly R N i e f g a b c d l r0)=(Xv N r0 i e f g a b c d l):=by rw[Ly,(Ah _).2]
def zD:Hints:={ H:=hL,modes:=[(3,0)],cob:=[28] }
def Agu:Ek:=[(108,GV N),(106,Gr N),(151,AG N)]
def YH (a:LA) (b:Nat) (c d:Bool) (F:KF R):LA→Int→O R:=(fun aj ak=>F (.pagg aj false) [(100000,⟨false,false,false,false,0,[(.imm a b 1 c d),(.int .i64 ak)],false⟩)])
theorem YI (i e f g:Int) (a:LA) (b:Nat) (c d:Bool) (l:Int) (F:KF R):Cn (Agu N) zD N 109 [(.optr 100000 0),(.int .i64 i),(.int .i64 e),(.int .i64 f),(.int .i64 g)] [(100000,⟨false,false,false,false,0,[(.imm a b 1 c d),(.int .i64 l)],false⟩)] F=(Ly N i e f g a b c d l (YH a b c d F)):=by
 rw[Wu]
 kernel_rfl
def QH (args:List AV) (h:Am) (k:KF R):O R :=
 match args,h with
 | [(.optr 100000 0),(.int .i64 i),(.int .i64 e),(.int .i64 f),(.int .i64 g)],[(100000,⟨false,false,false,false,0,[(.imm a b 1 c d),(.int .i64 l)],false⟩)]=>(Ly N i e f g a b c d l (YH a b c d k))
 | _,_=>none
theorem YJ:Aq N 109 @QH:=by
 intro R Q args h k j;unfold QH;split
 exact A2 (YI ..) (YI ..) ⟨UX N,Iw N,YG N,trivial⟩
 exact A5
def YK:=A4 (YJ N)
theorem zE:A1 Tryz.prog 109 (YK N):=A6 (YJ N) follows
def M0 (r0:LA→Int→O R) (a:LA) (b:Nat) (c d:Bool) (x:Int) (i:List UInt8) (l e g:Int) (f:Nat) (m y z aa ab w t ac ad ae:Int) (u:Nat) (v:Int) (o af:LA) (ag ah ai aj:Int):O R :=
 (cond (v==2) (Af N (wrap .i64 ((wrap .i64 (g - e))+1)) a b c d x (fun au av=>(r0 [(.str i),(.int .i64 l),(.int .i64 e),(.int .i64 g),(.imm (o.take (f*2)) f 2 false false),(.int .i64 m),(.int .i64 y),(.int .i64 z),(.int .i64 ag),(.int .i64 ah),(.int .i64 aa),(.int .i64 ab),(.int .i64 w),(.int .i64 t),(.int .i64 ai),(.int .i64 ac),(.int .i64 ad),(.int .i64 ae),(.imm (af.take (u*1)) u 1 false false),(.int .i64 v),(.int .i64 aj),(.int .i64 (wrap .i64 (e+au)))] av))) (r0 [(.str i),(.int .i64 l),(.int .i64 e),(.int .i64 g),(.imm (o.take (f*2)) f 2 false false),(.int .i64 m),(.int .i64 y),(.int .i64 z),(.int .i64 ag),(.int .i64 ah),(.int .i64 aa),(.int .i64 ab),(.int .i64 w),(.int .i64 t),(.int .i64 ai),(.int .i64 ac),(.int .i64 ad),(.int .i64 ae),(.imm (af.take (u*1)) u 1 false false),(.int .i64 v),(.int .i64 aj),(.int .i64 0)] x))
def Qc (r0:LA→Int→O R) (p:Int) (a:LA) (b:Nat) (c d:Bool) (i:List UInt8) (l e m:Int) (k0:Int→Int→Int→Int→Nat→LA→O R) (q1:Int→Int→Int→Int→Int→Int→Int→Int→Int→Int→Nat→Int→LA→Int→Int→Int→Int→O R) (q r s g:Int) (f:Nat) (o:LA):O R :=
 (cond (decide (r>0)) (Af N 15 a b c d s (fun an aw=>(cond ((Nat.ble (f+1) 140737488355328)&&(Nat.ble ((f+1)*16) 140737488355328)) (Af N 10 a b c d aw (fun ax ay=>(k0 (wrap .i64 (q+ax)) (wrap .i64 (r - 1)) ay (wrap .i64 (g+(wrap .i64 (1+an)))) (f+1) ((o.take (f*2))++[(.int .i64 (wrap .i64 (1+an))),(.int .i64 q)])))) none))) (Af N 20 a b c d s (fun y az=>(Af N 20 a b c d az (fun z ba=>(Af N (wrap .i64 ((wrap .i64 (g - e))+1)) a b c d ba (fun ao bb=>(Af N (wrap .i64 ((wrap .i64 (g - e))+1)) a b c d bb (fun ap bc=>(Af N 3 a b c d bc (fun aa bd=>(Af N 3 a b c d bd (fun ab be=>(Af N 2 a b c d be (fun w bf=>(Af N 30 a b c d bf (fun t bg=>(Af N 30 a b c d bg (fun aq bh=>(Af N 4 a b c d bh (fun ac bi=>(Af N 8 a b c d bi (fun ad bj=>(Af N 4 a b c d bj (fun ae bk=>(Jc N p a b c d bk (fun u bl af=>(Af N (wrap .i64 (2+w)) a b c d bl (fun ar bm=>(cond (Ad ar 3) (Ao .i64 (List.drop (0+((ar.toNat)*1)) [(.int .i64 0),(.int .i64 2),(.int .i64 1)]) fun v=>(Af N 4 a b c d bm (fun bn x=>(cond (v==1) (q1 x y z aa ab w t ac ad ae u v af (wrap .i64 (e+ao)) (wrap .i64 (e+ap)) (wrap .i64 (t+aq)) 1) (q1 x y z aa ab w t ac ad ae u v af (wrap .i64 (e+ao)) (wrap .i64 (e+ap)) (wrap .i64 (t+aq)) (wrap .i64 (1+bn))))))) none))))))))))))))))))))))))))))))
def Fd (r0:LA→Int→O R) (p:Int) (a:LA) (b:Nat) (c d:Bool) (i:List UInt8) (l e m:Int):Nat→Int→Int→Int→Int→Nat→LA→O R
 | 0,_,_,_,_,_,_=>none
 | n+1,q,r,s,g,f,o=>(Qc N r0 p a b c d i l e m (Fd r0 p a b c d i l e m n) (fun x y z aa ab w t ac ad ae u v af ag ah ai aj=>(M0 N r0 a b c d x i l e g f m y z aa ab w t ac ad ae u v o af ag ah ai aj)) q r s g f o)
def Xw (r0:LA→Int→O R) (q0:List UInt8→Int→Int→Int→Int→Int→Int→Int→Nat→LA→O R) (ak al p:Int) (a:LA) (b:Nat) (c d:Bool) (am:Int):O R :=
 (DE N ([117]:List UInt8) ak (fun i=>(Af N al a b c d am (fun l bo=>(Af N 8 a b c d bo (fun e bp=>(Af N 20 a b c d bp (fun m bq=>(Af N 20 a b c d bq (fun br bs=>(Af N 2 a b c d bs (fun bt bu=>(q0 i l e m (wrap .i64 (br - 2)) (wrap .i64 (1+bt)) bu e 0 [])))))))))))))
def Qd:=(Ah (fun (N:Nat) (ak al p:Int) (a:LA) (b:Nat) (c d:Bool) (am:Int) (r0:LA→Int→O R)=>(Xw N r0 (fun i l e m q r s g f o=>(Fd N r0 p a b c d i l e m N q r s g f o)) ak al p a b c d am))).1
theorem QI (ak al p a b c d am r0):(@Qd R N ak al p a b c d am r0)=(Xw N r0 (fun i l e m q r s g f o=>(Fd N r0 p a b c d i l e m N q r s g f o)) ak al p a b c d am):=by rw[Qd,(Ah _).2]
def YL:Hints:={ H:=(hS hL (hS hL (hS hL (hS hL (hS (hS hL (hS (hP [0,3,8,9,10,11] hL) hL)) (hS hL (hS hL (hS hL (hS hL (hS hL (hS hL (hS hL (hS hL (hJ [0,8,9] hL hL)))))))))))))),modes:=[(3,0)],cob:=[22] }
def eX:Ek:=[(108,GV N),(106,Gr N),(151,AG N)]
def YM (F:KF R):=Kk Tryz.f110 YL (eX N) [100000] N F
def Ix (a:LA) (b:Nat) (c d:Bool) (F:KF R):LA→Int→O R:=(fun bv bw=>F (.pagg bv false) [(100000,⟨false,false,false,false,0,[(.imm a b 1 c d),(.int .i64 bw)],false⟩)])
def zF (a:LA) (b:Nat) (c d:Bool) (x:Int) (i:List UInt8) (l e g:Int) (f:Nat) (m y z aa ab w t ac ad ae:Int) (u:Nat) (v:Int) (o af:LA) (ag ah ai aj:Int):St:=⟨[(0,(.optr 100000 0)),(8,(.optr 300000 0)),(9,(.optr 300001 0))],[(100000,⟨false,false,false,false,0,[(.imm a b 1 c d),(.int .i64 x)],false⟩),(300000,⟨false,false,false,false,0,[(.str ([]:List UInt8)),(.int .i64 0),(.int .i64 0),(.int .i64 0),.nsl,(.int .i64 0),(.int .i64 0),(.int .i64 0),(.int .i64 0),(.int .i64 0),(.int .i64 0),(.int .i64 0),(.int .i64 0),(.int .i64 0),(.int .i64 0),(.int .i64 0),(.int .i64 0),(.int .i64 0),.nsl,(.int .i64 0),(.int .i64 0),(.int .i64 0)],false⟩),(300001,⟨false,false,false,false,0,[(.str i),(.int .i64 l),(.int .i64 e),(.int .i64 g),(.own 300002 0 f),(.int .i64 m),(.int .i64 y),(.int .i64 z),(.int .i64 ag),(.int .i64 ah),(.int .i64 aa),(.int .i64 ab),(.int .i64 w),(.int .i64 t),(.int .i64 ai),(.int .i64 ac),(.int .i64 ad),(.int .i64 ae),(.own 300003 0 u),(.int .i64 v),(.int .i64 aj),(.int .i64 0)],false⟩),(300002,(bQ 2 o)),(300003,(bQ 1 af))]⟩
def zG (F:KF R):=YM N F [1,1,1,1,1,1,1,1,1,1,1,1,1,1] []
def zH (p:Int) (a:LA) (b:Nat) (c d:Bool) (i:List UInt8) (l e m q r s g:Int) (f:Nat) (o:LA):St:=⟨[(0,(.optr 100000 0)),(3,(.int .i64 p)),(8,(.optr 300000 0)),(9,(.optr 300001 0)),(10,(.int .i64 q)),(11,(.int .i64 r))],[(100000,⟨false,false,false,false,0,[(.imm a b 1 c d),(.int .i64 s)],false⟩),(300000,⟨false,false,false,false,0,[(.str ([]:List UInt8)),(.int .i64 0),(.int .i64 0),(.int .i64 0),.nsl,(.int .i64 0),(.int .i64 0),(.int .i64 0),(.int .i64 0),(.int .i64 0),(.int .i64 0),(.int .i64 0),(.int .i64 0),(.int .i64 0),(.int .i64 0),(.int .i64 0),(.int .i64 0),(.int .i64 0),.nsl,(.int .i64 0),(.int .i64 0),(.int .i64 0)],false⟩),(300001,⟨false,false,false,false,0,[(.str i),(.int .i64 l),(.int .i64 e),(.int .i64 g),(.own 300002 0 f),(.int .i64 m),(.int .i64 0),(.int .i64 0),(.int .i64 0),(.int .i64 0),(.int .i64 0),(.int .i64 0),(.int .i64 0),(.int .i64 0),(.int .i64 0),(.int .i64 0),(.int .i64 0),(.int .i64 0),(.own 300003 0 0),(.int .i64 0),(.int .i64 0),(.int .i64 0)],false⟩),(300002,(bQ 2 o)),(300003,(bQ 1 []))]⟩
def zI (F:KF R):=YM N F [1,1,1,1,0,1,0] []
theorem mf (F:KF R) (a:LA) (b:Nat) (c d:Bool) (x:Int) (i:List UInt8) (l e g:Int) (f:Nat) (m y z aa ab w t ac ad ae:Int) (u:Nat) (v:Int) (o af:LA):∀ (ag ah ai aj:Int),Bb (zG N F) (zF a b c d x i l e g f m y z aa ab w t ac ad ae u v o af ag ah ai aj)=(M0 N (Ix a b c d F) a b c d x i l e g f m y z aa ab w t ac ad ae u v o af ag ah ai aj):=by
 intro ag ah ai aj
 kernel_rfl
theorem GW (F:KF R) (p:Int) (a:LA) (b:Nat) (c d:Bool) (i:List UInt8) (l e m:Int):∀ (n:Nat) (q r s g:Int) (f:Nat) (o:LA),Ap (zI N F) n (zH p a b c d i l e m q r s g f o)=(Fd N (Ix a b c d F) p a b c d i l e m n q r s g f o)
 | 0,_,_,_,_,_,_=>by kernel_rfl
 | n+1,q,r,s,g,f,o=>Eq.trans (by kernel_rfl) (bJ (Qc N (Ix a b c d F) p a b c d i l e m · · q r s g f o) (funext fun q=>funext fun r=>funext fun s=>funext fun g=>funext fun f=>funext fun o=>(GW F p a b c d i l e m n q r s g f o)) (funext fun x=>funext fun y=>funext fun z=>funext fun aa=>funext fun ab=>funext fun w=>funext fun t=>funext fun ac=>funext fun ad=>funext fun ae=>funext fun u=>funext fun v=>funext fun af=>funext fun ag=>funext fun ah=>funext fun ai=>funext fun aj=>(As ..).trans (mf N F a b c d x i l e g f m y z aa ab w t ac ad ae u v o af ag ah ai aj)):_)
theorem YN (ak al p:Int) (a:LA) (b:Nat) (c d:Bool) (am:Int) (F:KF R):Cn (eX N) YL N 110 [(.optr 100000 0),(.int .i64 ak),(.int .i64 al),(.int .i64 p)] [(100000,⟨false,false,false,false,0,[(.imm a b 1 c d),(.int .i64 am)],false⟩)] F=(Qd N ak al p a b c d am (Ix a b c d F)):=by
 rw[QI]
 exact Eq.trans (by kernel_rfl) (Bs (Xw N (Ix a b c d F) · ak al p a b c d am) (funext fun i=>funext fun l=>funext fun e=>funext fun m=>funext fun q=>funext fun r=>funext fun s=>funext fun g=>funext fun f=>funext fun o=>(Ak ..).trans (GW N F p a b c d i l e m N q r s g f o)):_)
def QJ (args:List AV) (h:Am) (k:KF R):O R :=
 match args,h with
 | [(.optr 100000 0),(.int .i64 ak),(.int .i64 al),(.int .i64 p)],[(100000,⟨false,false,false,false,0,[(.imm a b 1 c d),(.int .i64 am)],false⟩)]=>(Qd N ak al p a b c d am (Ix a b c d k))
 | _,_=>none
theorem YO:Aq N 110 @QJ:=by
 intro R Q args h k j;unfold QJ;split
 exact A2 (YN ..) (YN ..) ⟨UX N,Iw N,YG N,trivial⟩
 exact A5
def YP:=A4 (YO N)
theorem zJ:A1 Tryz.prog 110 (YP N):=A6 (YO N) follows
def H2 (r0:LA→Int→O R) (e:Int) (a:LA) (b:Nat) (c d:Bool) (f:List UInt8) (g:Nat) (i:LA) (k1:Int→Int→Nat→LA→O R) (m p:Int) (l:Nat) (o:LA):O R :=
 (cond (decide (m<e)) (Af N 2 a b c d p (fun aa v=>(cond (aa==1) (Af N 8 a b c d v (fun ab ac=>(Af N 8 a b c d ac (fun ad ae=>(cond ((Nat.ble (l+1) 140737488355328)&&(Nat.ble ((l+1)*24) 140737488355328)) (k1 (wrap .i64 (m+1)) ae (l+1) ((o.take (l*3))++[(.int .i64 m),(.int .i64 ab),(.int .i64 ad)])) none))))) (k1 (wrap .i64 (m+1)) v l o)))) (r0 [(.str f),(.imm (i.take (g*1)) g 1 false false),(.bool true),(.imm (o.take (l*3)) l 3 false false)] p))
def Ez (r0:LA→Int→O R) (e:Int) (a:LA) (b:Nat) (c d:Bool) (f:List UInt8) (g:Nat) (i:LA):Nat→Int→Int→Nat→LA→O R
 | 0,_,_,_,_=>none
 | n+1,m,p,l,o=>(H2 N r0 e a b c d f g i (Ez r0 e a b c d f g i n) m p l o)
def Lz (r0:LA→Int→O R) (e:Int) (a:LA) (b:Nat) (c d:Bool) (f:List UInt8) (q1:Int→Int→Nat→LA→O R) (q:Int) (g:Nat) (i:LA):O R :=
 (Af N 2 a b c d q (fun af w=>(cond (af==1) (q1 0 w 0 []) (r0 [(.str f),(.imm (i.take (g*1)) g 1 false false),(.bool false),(.imm [] 0 3 false false)] w))))
def E1 (r0:LA→Int→O R) (e:Int) (a:LA) (b:Nat) (c d:Bool) (f:List UInt8) (q:Int) (g:Nat) (i:LA):O R:=(Lz N r0 e a b c d f (fun m p l o=>(Ez N r0 e a b c d f g i N m p l o)) q g i)
def Iy (r0:LA→Int→O R) (q0:List UInt8→Int→Nat→LA→O R) (s r e:Int) (a:LA) (b:Nat) (c d:Bool) (t:Int):O R :=
 (DE N ([111]:List UInt8) s (fun f=>(Af N r a b c d t (fun u ag=>(Af N r a b c d ag (fun x y=>(cond ((decide (x>u))==true) (Af N 3 a b c d y (fun ah z=>(cond (cond true (ah==2) false) (q0 f z 2 [(.int .i64 u),(.int .i64 x)]) (q0 f z 1 [(.int .i64 u)])))) (q0 f y 1 [(.int .i64 u)]))))))))
def K3:=(Ah (fun (N:Nat) (s r e:Int) (a:LA) (b:Nat) (c d:Bool) (t:Int) (r0:LA→Int→O R)=>(Iy N r0 (fun f q g i=>(E1 N r0 e a b c d f q g i)) s r e a b c d t))).1
theorem L0 (s r e a b c d t r0):(@K3 R N s r e a b c d t r0)=(Iy N r0 (fun f q g i=>(E1 N r0 e a b c d f q g i)) s r e a b c d t):=by rw[K3,(Ah _).2]
def LF:Hints:={ H:=(hS hL (hS hL (hJ [0,3,8,9] hL (hS (hS hL (hS (hS hL (hS hL (hS (hP [0,3,8,9,11] hL) hL))) hL)) hL)))),modes:=[(3,0)],cob:=[18] }
def QK:Ek:=[(108,GV N),(106,Gr N)]
def LG (F:KF R):=Kk Tryz.f111 LF (QK N) [100000] N F
def E2 (a:LA) (b:Nat) (c d:Bool) (F:KF R):LA→Int→O R:=(fun ai aj=>F (.pagg ai false) [(100000,⟨false,false,false,false,0,[(.imm a b 1 c d),(.int .i64 aj)],false⟩)])
def qM (e:Int) (a:LA) (b:Nat) (c d:Bool) (f:List UInt8) (g:Nat) (i:LA) (m p:Int) (l:Nat) (o:LA):St:=⟨[(0,(.optr 100000 0)),(3,(.int .i64 e)),(8,(.optr 300000 0)),(9,(.optr 300001 0)),(11,(.int .i64 m))],[(100000,⟨false,false,false,false,0,[(.imm a b 1 c d),(.int .i64 p)],false⟩),(300000,⟨false,false,false,false,0,[(.str ([]:List UInt8)),.nsl,(.bool false),.nsl],false⟩),(300001,⟨false,false,false,false,0,[(.str f),(.own 300002 0 g),(.bool true),(.own 300003 0 l)],false⟩),(300002,(bQ 1 i)),(300003,(bQ 3 o))]⟩
def qN (F:KF R):=LG N F [1,1,1,0,1,0,1,1,0] []
def qO (e:Int) (a:LA) (b:Nat) (c d:Bool) (f:List UInt8) (q:Int) (g:Nat) (i:LA):St:=⟨[(0,(.optr 100000 0)),(3,(.int .i64 e)),(8,(.optr 300000 0)),(9,(.optr 300001 0))],[(100000,⟨false,false,false,false,0,[(.imm a b 1 c d),(.int .i64 q)],false⟩),(300000,⟨false,false,false,false,0,[(.str ([]:List UInt8)),.nsl,(.bool false),.nsl],false⟩),(300001,⟨false,false,false,false,0,[(.str f),(.own 300002 0 g),(.bool false),(.own 300003 0 0)],false⟩),(300002,(bQ 1 i)),(300003,(bQ 3 []))]⟩
def qP (F:KF R):=LG N F [1,1,1] []
theorem Y0 (F:KF R) (e:Int) (a:LA) (b:Nat) (c d:Bool) (f:List UInt8) (g:Nat) (i:LA):∀ (n:Nat) (m p:Int) (l:Nat) (o:LA),Ap (qN N F) n (qM e a b c d f g i m p l o)=(Ez N (E2 a b c d F) e a b c d f g i n m p l o)
 | 0,_,_,_,_=>by kernel_rfl
 | n+1,m,p,l,o=>Eq.trans (by kernel_rfl) (Bs (H2 N (E2 a b c d F) e a b c d f g i · m p l o) (funext fun m=>funext fun p=>funext fun l=>funext fun o=>(Y0 F e a b c d f g i n m p l o)):_)
theorem eY (F:KF R) (e:Int) (a:LA) (b:Nat) (c d:Bool) (f:List UInt8):∀ (q:Int) (g:Nat) (i:LA),Bb (qP N F) (qO e a b c d f q g i)=(E1 N (E2 a b c d F) e a b c d f q g i):=by
 intro q g i
 exact Eq.trans (by kernel_rfl) (Bs (Lz N (E2 a b c d F) e a b c d f · q g i) (funext fun m=>funext fun p=>funext fun l=>funext fun o=>(Ak ..).trans (Y0 N F e a b c d f g i N m p l o)):_)
theorem LH (s r e:Int) (a:LA) (b:Nat) (c d:Bool) (t:Int) (F:KF R):Cn (QK N) LF N 111 [(.optr 100000 0),(.int .i64 s),(.int .i64 r),(.int .i64 e)] [(100000,⟨false,false,false,false,0,[(.imm a b 1 c d),(.int .i64 t)],false⟩)] F=(K3 N s r e a b c d t (E2 a b c d F)):=by
 rw[L0]
 exact Eq.trans (by kernel_rfl) (Bs (Iy N (E2 a b c d F) · s r e a b c d t) (funext fun f=>funext fun q=>funext fun g=>funext fun i=>(As ..).trans (eY N F e a b c d f q g i)):_)
def GX (args:List AV) (h:Am) (k:KF R):O R :=
 match args,h with
 | [(.optr 100000 0),(.int .i64 s),(.int .i64 r),(.int .i64 e)],[(100000,⟨false,false,false,false,0,[(.imm a b 1 c d),(.int .i64 t)],false⟩)]=>(K3 N s r e a b c d t (E2 a b c d k))
 | _,_=>none
theorem LI:Aq N 111 @GX:=by
 intro R Q args h k j;unfold GX;split
 exact A2 (LH ..) (LH ..) ⟨UX N,Iw N,trivial⟩
 exact A5
def LJ:=A4 (LI N)
theorem qQ:A1 Tryz.prog 111 (LJ N):=A6 (LI N) follows
def Rz (N:Nat) (r0:Bool→O R) (c d:Int) (b:LA) (a:Nat) (e f:Bool) (k0:Int→O R) (g:Int):O R :=
 (cond (decide (g<((a:Nat):Int))) (cond (Ad g a) (Ao .i64 (b.drop ((g.toNat)*1)) fun i=>(cond ((decide (i<c))==false) (cond (Ad g a) (Ao .i64 (b.drop ((g.toNat)*1)) fun l=>(cond (cond false true (decide (l>d))) (r0 false) (k0 (wrap .i64 (g+1))))) none) (r0 false))) none) (r0 true))
def H3 (r0:Bool→O R) (c d:Int) (b:LA) (a:Nat) (e f:Bool):Nat→Int→O R
 | 0,_=>none
 | n+1,g=>(Rz N r0 c d b a e f (H3 r0 c d b a e f n) g)
def DF (N:Nat) (r0:Bool→O R) (q0:Int→O R) (c d:Int) (b:LA) (a:Nat) (e f:Bool):O R :=
 (q0 0)
def Aw:=(Ah (fun (N:Nat) (c d:Int) (b:LA) (a:Nat) (e f:Bool) (r0:Bool→O R)=>(DF N r0 (fun g=>(H3 N r0 c d b a e f N g)) c d b a e f))).1
theorem YQ (c d b a e f r0):(@Aw R N c d b a e f r0)=(DF N r0 (fun g=>(H3 N r0 c d b a e f N g)) c d b a e f):=by rw[Aw,(Ah _).2]
def eZ:Hints:={ H:=(hS hL (hS (hS hL (hS (hP [0,1,2,7] hL) hL)) hL)) }
def Agv (F:KF R):=Kk Tryz.f156 eZ [] [] N F
def O1 (F:KF R):Bool→O R:=(fun m=>F (.bool m) [])
def Agw (c d:Int) (b:LA) (a:Nat) (e f:Bool) (g:Int):St:=⟨[(0,(.int .i64 c)),(1,(.int .i64 d)),(2,(.imm b a 1 e f)),(7,(.int .i64 g))],[]⟩
def Agx (F:KF R):=Agv N F [1,0,1,0] []
theorem LK (F:KF R) (c d:Int) (b:LA) (a:Nat) (e f:Bool):∀ (n:Nat) (g:Int),Ap (Agx N F) n (Agw c d b a e f g)=(H3 N (O1 F) c d b a e f n g)
 | 0,_=>by kernel_rfl
 | n+1,g=>Eq.trans (by kernel_rfl) (Bs (Rz N (O1 F) c d b a e f · g) (funext fun g=>(LK F c d b a e f n g)):_)
theorem e9 (c d:Int) (b:LA) (a:Nat) (e f:Bool) (F:KF R):Cn [] eZ N 156 [(.int .i64 c),(.int .i64 d),(.imm b a 1 e f)] [] F=(Aw N c d b a e f (O1 F)):=by
 rw[YQ]
 exact Eq.trans (by kernel_rfl) (Bs (DF N (O1 F) · c d b a e f) (funext fun g=>(Ak ..).trans (LK N F c d b a e f N g)):_)
def YR (args:List AV) (h:Am) (k:KF R):O R :=
 match args,h with
 | [(.int .i64 c),(.int .i64 d),(.imm b a 1 e f)],[]=>(Aw N c d b a e f (O1 k))
 | _,_=>none
theorem e_:Aq N 156 @YR:=by
 intro R Q args h k j;unfold YR;split
 exact A2 (e9 ..) (e9 ..) trivial
 exact A5
def Cv:=A4 (e_ N)
theorem Dd:A1 Tryz.prog 156 (Cv N):=A6 (e_ N) follows
def Kb (N:Nat) (r0:LA→O R) (b c d e:Int) (a:LA) (f:Bool):O R :=
 (cond f (cond ((Nat.beq 3 3)&&((Nat.ble 3 (a.length))&&(!false))) (cond ((Nat.beq 1 1)&&((Nat.ble 4 ((Cr a 0 [(.int .i64 b),(.int .i64 c),(.int .i64 d)]).length))&&(!false))) (r0 ((Cr a 0 [(.int .i64 b),(.int .i64 c),(.int .i64 d)]).set 3 (.int .i64 e))) none) none) (r0 a))
def N0 (N:Nat) (r0:LA→O R) (q0:Bool→O R) (g:Bool) (b c d e:Int) (a:LA):O R :=
 (Ao .i64 (a.drop 3) fun i=>(cond ((i==0)==true) (q0 (cond true (!g) false)) (q0 false)))
def Ab:=(Ah (fun (N:Nat) (g:Bool) (b c d e:Int) (a:LA) (r0:LA→O R)=>(N0 N r0 (fun f=>(Kb N r0 b c d e a f)) g b c d e a))).1
theorem Y1 (g b c d e a r0):(@Ab R N g b c d e a r0)=(N0 N r0 (fun f=>(Kb N r0 b c d e a f)) g b c d e a):=by rw[Ab,(Ah _).2]
def BH:Hints:={ H:=(hJ [0,2,3,4,5,20] hL hL) }
def hI (F:KF R):=Kk Tryz.f155 BH [] [100000] N F
def Kc (F:KF R):LA→O R:=(fun l=>F (.tup []) [(100000,(bQ 0 l))])
def hZ (b c d e:Int) (a:LA) (f:Bool):St:=⟨[(0,(.optr 100000 0)),(2,(.int .i64 b)),(3,(.int .i64 c)),(4,(.int .i64 d)),(5,(.int .i64 e)),(20,(.bool f))],[(100000,(bQ 0 a))]⟩
def h_ (F:KF R):=hI N F [1] []
theorem UY (F:KF R) (b c d e:Int) (a:LA):∀ (f:Bool),Bb (h_ N F) (hZ b c d e a f)=(Kb N (Kc F) b c d e a f):=by
 intro f
 kernel_rfl
theorem BI (g:Bool) (b c d e:Int) (a:LA) (F:KF R):Cn [] BH N 155 [(.optr 100000 0),(.bool g),(.int .i64 b),(.int .i64 c),(.int .i64 d),(.int .i64 e)] [(100000,(bQ 0 a))] F=(Ab N g b c d e a (Kc F)):=by
 rw[Y1]
 exact Eq.trans (by kernel_rfl) (Bs (N0 N (Kc F) · g b c d e a) (funext fun f=>(As ..).trans (UY N F b c d e a f)):_)
def Y2 (args:List AV) (h:Am) (k:KF R):O R :=
 match args,h with
 | [(.optr 100000 0),(.bool g),(.int .i64 b),(.int .i64 c),(.int .i64 d),(.int .i64 e)],[(100000,⟨false,false,true,false,0,a,false⟩)]=>(Ab N g b c d e a (Kc k))
 | _,_=>none
theorem BJ:Aq N 155 @Y2:=by
 intro R Q args h k j;unfold Y2;split
 exact A2 (BI ..) (BI ..) trivial
 exact A5
def Bj:=A4 (BJ N)
theorem Br:A1 Tryz.prog 155 (Bj N):=A6 (BJ N) follows
def Qr (r0:LA→O R) (e:LA) (n:Bool) (f:LA) (a:Nat) (o g:Bool) (i l b c d:Int) (m:LA):O R :=
 (Ao .i64 e fun p=>(Ab N (((a:Nat):Int)==p) b c d 4 m (fun q=>(Aw N i l f a false g (fun r=>(Ab N r b c d 3 q (fun s=>(r0 s))))))))
def Cc:=(Ah (fun (N:Nat) (e:LA) (n:Bool) (f:LA) (a:Nat) (o g:Bool) (i l b c d:Int) (m:LA) (r0:LA→O R)=>(Qr N r0 e n f a o g i l b c d m))).1
theorem Uq (e n f a o g i l b c d m r0):(@Cc R N e n f a o g i l b c d m r0)=(Qr N r0 e n f a o g i l b c d m):=by rw[Cc,(Ah _).2]
def aK:Hints:={ H:=hL }
def ee:Ek:=[(155,Bj N),(156,Cv N)]
def Vk (F:KF R):LA→O R:=(fun t=>F (.tup []) [(100000,(bQ 0 t))])
theorem Vl (e:LA) (n:Bool) (f:LA) (a:Nat) (o g:Bool) (i l b c d:Int) (m:LA) (F:KF R):Cn (ee N) aK N 154 [(.optr 100000 0),(.pagg e n),(.imm f a 1 o g),(.int .i64 i),(.int .i64 l),(.int .i64 b),(.int .i64 c),(.int .i64 d)] [(100000,(bQ 0 m))] F=(Cc N e n f a o g i l b c d m (Vk F)):=by
 rw[Uq]
 kernel_rfl
def Ur (args:List AV) (h:Am) (k:KF R):O R :=
 match args,h with
 | [(.optr 100000 0),(.pagg e n),(.imm f a 1 o g),(.int .i64 i),(.int .i64 l),(.int .i64 b),(.int .i64 c),(.int .i64 d)],[(100000,⟨false,false,true,false,0,m,false⟩)]=>(Cc N e n f a o g i l b c d m (Vk k))
 | _,_=>none
theorem Vm:Aq N 154 @Ur:=by
 intro R Q args h k j;unfold Ur;split
 exact A2 (Vl ..) (Vl ..) ⟨Br N,Dd N,trivial⟩
 exact A5
def Ia:=A4 (Vm N)
theorem No:A1 Tryz.prog 154 (Ia N):=A6 (Vm N) follows
end
end Gx

namespace Gx
open Go Go.Proofs
open IntKind (wrap)
set_option maxRecDepth 100000
noncomputable section
variable {R:Type} (N:Nat)
def Xx (N:Nat) (r0:Nat→LA→O R) (b:Bool) (a:LA) (k0:Nat→Int→LA→O R) (c:Nat) (l:Int) (s:LA):O R :=
 (Ct 3 (a.drop 2) fun bb z=>(cond (decide (l<((z:Nat):Int))) (Ct 3 (a.drop 2) fun aa ab=>(cond (Ad l ab) (Ass (aa.drop ((l.toNat)*3)) fun ac=>(cond ((Nat.ble (c+1) 140737488355328)&&(Nat.ble ((c+1)*16) 140737488355328)) (k0 (c+1) (wrap .i64 (l+1)) ((s.take (c*1))++[(.str ac)])) none)) none)) (r0 c s)))
def L5 (r0:Nat→LA→O R) (b:Bool) (a:LA):Nat→Nat→Int→LA→O R
 | 0,_,_,_=>none
 | n+1,c,l,s=>(Xx N r0 b a (L5 r0 b a n) c l s)
def Xy (N:Nat) (r0:Nat→LA→O R) (b:Bool) (a:LA) (k1:Nat→Int→LA→O R) (d:Nat) (m:Int) (t:LA):O R :=
 (Ct 12 (a.drop 3) fun bc ad=>(cond (decide (m<((ad:Nat):Int))) (Ct 12 (a.drop 3) fun ae af=>(cond (Ad m af) (Ass (ae.drop ((m.toNat)*12)) fun ag=>(cond ((Nat.ble (d+1) 140737488355328)&&(Nat.ble ((d+1)*16) 140737488355328)) (k1 (d+1) (wrap .i64 (m+1)) ((t.take (d*1))++[(.str ag)])) none)) none)) (r0 d t)))
def L6 (r0:Nat→LA→O R) (b:Bool) (a:LA):Nat→Nat→Int→LA→O R
 | 0,_,_,_=>none
 | n+1,d,m,t=>(Xy N r0 b a (L6 r0 b a n) d m t)
def Xz (N:Nat) (r0:Nat→LA→O R) (b:Bool) (a:LA) (k2:Nat→Int→LA→O R) (e:Nat) (o:Int) (u:LA):O R :=
 (Ct 22 (a.drop 4) fun bd ah=>(cond (decide (o<((ah:Nat):Int))) (Ct 22 (a.drop 4) fun ai aj=>(cond (Ad o aj) (Ass (ai.drop ((o.toNat)*22)) fun ak=>(cond ((Nat.ble (e+1) 140737488355328)&&(Nat.ble ((e+1)*16) 140737488355328)) (k2 (e+1) (wrap .i64 (o+1)) ((u.take (e*1))++[(.str ak)])) none)) none)) (r0 e u)))
def L7 (r0:Nat→LA→O R) (b:Bool) (a:LA):Nat→Nat→Int→LA→O R
 | 0,_,_,_=>none
 | n+1,e,o,u=>(Xz N r0 b a (L7 r0 b a n) e o u)
def X0 (N:Nat) (r0:Nat→LA→O R) (b:Bool) (a:LA) (k3:Nat→Int→LA→O R) (f:Nat) (p:Int) (v:LA):O R :=
 (Ct 9 (a.drop 5) fun be al=>(cond (decide (p<((al:Nat):Int))) (Ct 9 (a.drop 5) fun am an=>(cond (Ad p an) (Ass (am.drop ((p.toNat)*9)) fun ao=>(cond ((Nat.ble (f+1) 140737488355328)&&(Nat.ble ((f+1)*16) 140737488355328)) (k3 (f+1) (wrap .i64 (p+1)) ((v.take (f*1))++[(.str ao)])) none)) none)) (r0 f v)))
def L8 (r0:Nat→LA→O R) (b:Bool) (a:LA):Nat→Nat→Int→LA→O R
 | 0,_,_,_=>none
 | n+1,f,p,v=>(X0 N r0 b a (L8 r0 b a n) f p v)
def X1 (N:Nat) (r0:Nat→LA→O R) (b:Bool) (a:LA) (k4:Nat→Int→LA→O R) (g:Nat) (q:Int) (w:LA):O R :=
 (Ct 5 (a.drop 6) fun bf ap=>(cond (decide (q<((ap:Nat):Int))) (Ct 5 (a.drop 6) fun aq ar=>(cond (Ad q ar) (Ass (aq.drop ((q.toNat)*5)) fun au=>(cond ((Nat.ble (g+1) 140737488355328)&&(Nat.ble ((g+1)*16) 140737488355328)) (k4 (g+1) (wrap .i64 (q+1)) ((w.take (g*1))++[(.str au)])) none)) none)) (r0 g w)))
def L9 (r0:Nat→LA→O R) (b:Bool) (a:LA):Nat→Nat→Int→LA→O R
 | 0,_,_,_=>none
 | n+1,g,q,w=>(X1 N r0 b a (L9 r0 b a n) g q w)
def X2 (N:Nat) (r0:Nat→LA→O R) (b:Bool) (a:LA) (k5:Nat→Int→LA→O R) (i:Nat) (r:Int) (x:LA):O R :=
 (Ct 4 (a.drop 7) fun bg av=>(cond (decide (r<((av:Nat):Int))) (Ct 4 (a.drop 7) fun aw ax=>(cond (Ad r ax) (Ass (aw.drop ((r.toNat)*4)) fun ay=>(cond ((Nat.ble (i+1) 140737488355328)&&(Nat.ble ((i+1)*16) 140737488355328)) (k5 (i+1) (wrap .i64 (r+1)) ((x.take (i*1))++[(.str ay)])) none)) none)) (r0 i x)))
def Ma (r0:Nat→LA→O R) (b:Bool) (a:LA):Nat→Nat→Int→LA→O R
 | 0,_,_,_=>none
 | n+1,i,r,x=>(X2 N r0 b a (Ma r0 b a n) i r x)
def Mb (N:Nat) (r0:Nat→LA→O R) (q0:Nat→Int→LA→O R) (q1:Nat→Int→LA→O R) (q2:Nat→Int→LA→O R) (q3:Nat→Int→LA→O R) (q4:Nat→Int→LA→O R) (q5:Nat→Int→LA→O R) (a:LA) (b:Bool) (y:Int):O R :=
 (cond (y==1) (q0 0 0 []) (cond (y==2) (q1 0 0 []) (cond (y==3) (q2 0 0 []) (cond (y==4) (q3 0 0 []) (cond (y==5) (q4 0 0 []) (cond (y==6) (q5 0 0 []) (r0 0 [])))))))
def Hi:=(Ah (fun (N:Nat) (a:LA) (b:Bool) (y:Int) (r0:Nat→LA→O R)=>(Mb N r0 (fun c l s=>(L5 N r0 b a N c l s)) (fun d m t=>(L6 N r0 b a N d m t)) (fun e o u=>(L7 N r0 b a N e o u)) (fun f p v=>(L8 N r0 b a N f p v)) (fun g q w=>(L9 N r0 b a N g q w)) (fun i r x=>(Ma N r0 b a N i r x)) a b y))).1
theorem Jy (a b y r0):(@Hi R N a b y r0)=(Mb N r0 (fun c l s=>(L5 N r0 b a N c l s)) (fun d m t=>(L6 N r0 b a N d m t)) (fun e o u=>(L7 N r0 b a N e o u)) (fun f p v=>(L8 N r0 b a N f p v)) (fun g q w=>(L9 N r0 b a N g q w)) (fun i r x=>(Ma N r0 b a N i r x)) a b y):=by rw[Hi,(Ah _).2]
def qR:Hints:={ H:=(hS hL (hS hL (hS (hS hL (hS (hS hL (hS (hS hL (hS (hP [2,5,6] hL) hL)) (hS hL (hS (hS hL (hS (hP [2,5,7] hL) hL)) (hS hL (hS (hS hL (hS (hP [2,5,8] hL) hL)) (hS hL (hS (hS hL (hS (hP [2,5,9] hL) hL)) (hS hL (hS (hS hL (hS (hP [2,5,10] hL) hL)) (hS hL (hS (hS hL (hS (hP [2,5,11] hL) hL)) hL)))))))))))) hL)) hL))),nils:=[(4,1),(5,1)],modes:=[(2,1)] }
def Qe (F:KF R):=Kk Tryz.f182 qR [] [] N F
def Cp (F:KF R):Nat→LA→O R:=(fun az ba=>F (.own 300000 0 az) [(300000,(bQ 1 ba))])
def Ara (b:Bool) (a:LA) (c:Nat) (l:Int) (s:LA):St:=⟨[(2,(.optr 300000 0)),(5,(.own 300001 0 c)),(6,(.int .i64 l))],[(300000,(bP b 0 a)),(300001,(bQ 1 s))]⟩
def Arb (F:KF R):=Qe N F [1,1,0,1,0,1,0,1,0] []
def Arc (b:Bool) (a:LA) (d:Nat) (m:Int) (t:LA):St:=⟨[(2,(.optr 300000 0)),(5,(.own 300001 0 d)),(7,(.int .i64 m))],[(300000,(bP b 0 a)),(300001,(bQ 1 t))]⟩
def Ard (F:KF R):=Qe N F [1,1,0,1,0,1,1,1,0,1,0] []
def Are (b:Bool) (a:LA) (e:Nat) (o:Int) (u:LA):St:=⟨[(2,(.optr 300000 0)),(5,(.own 300001 0 e)),(8,(.int .i64 o))],[(300000,(bP b 0 a)),(300001,(bQ 1 u))]⟩
def Arf (F:KF R):=Qe N F [1,1,0,1,0,1,1,1,1,1,0,1,0] []
def Arg (b:Bool) (a:LA) (f:Nat) (p:Int) (v:LA):St:=⟨[(2,(.optr 300000 0)),(5,(.own 300001 0 f)),(9,(.int .i64 p))],[(300000,(bP b 0 a)),(300001,(bQ 1 v))]⟩
def Arh (F:KF R):=Qe N F [1,1,0,1,0,1,1,1,1,1,1,1,0,1,0] []
def Ari (b:Bool) (a:LA) (g:Nat) (q:Int) (w:LA):St:=⟨[(2,(.optr 300000 0)),(5,(.own 300001 0 g)),(10,(.int .i64 q))],[(300000,(bP b 0 a)),(300001,(bQ 1 w))]⟩
def Arj (F:KF R):=Qe N F [1,1,0,1,0,1,1,1,1,1,1,1,1,1,0,1,0] []
def Ark (b:Bool) (a:LA) (i:Nat) (r:Int) (x:LA):St:=⟨[(2,(.optr 300000 0)),(5,(.own 300001 0 i)),(11,(.int .i64 r))],[(300000,(bP b 0 a)),(300001,(bQ 1 x))]⟩
def Arl (F:KF R):=Qe N F [1,1,0,1,0,1,1,1,1,1,1,1,1,1,1,1,0,1,0] []
theorem YS (F:KF R) (b:Bool) (a:LA):∀ (n c:Nat) (l:Int) (s:LA),Ap (Arb N F) n (Ara b a c l s)=(L5 N (Cp F) b a n c l s)
 | 0,_,_,_=>by kernel_rfl
 | n+1,c,l,s=>Eq.trans (by kernel_rfl) (Bs (Xx N (Cp F) b a · c l s) (funext fun c=>funext fun l=>funext fun s=>(YS F b a n c l s)):_)
theorem YT (F:KF R) (b:Bool) (a:LA):∀ (n d:Nat) (m:Int) (t:LA),Ap (Ard N F) n (Arc b a d m t)=(L6 N (Cp F) b a n d m t)
 | 0,_,_,_=>by kernel_rfl
 | n+1,d,m,t=>Eq.trans (by kernel_rfl) (Bs (Xy N (Cp F) b a · d m t) (funext fun d=>funext fun m=>funext fun t=>(YT F b a n d m t)):_)
theorem YU (F:KF R) (b:Bool) (a:LA):∀ (n e:Nat) (o:Int) (u:LA),Ap (Arf N F) n (Are b a e o u)=(L7 N (Cp F) b a n e o u)
 | 0,_,_,_=>by kernel_rfl
 | n+1,e,o,u=>Eq.trans (by kernel_rfl) (Bs (Xz N (Cp F) b a · e o u) (funext fun e=>funext fun o=>funext fun u=>(YU F b a n e o u)):_)
theorem YV (F:KF R) (b:Bool) (a:LA):∀ (n f:Nat) (p:Int) (v:LA),Ap (Arh N F) n (Arg b a f p v)=(L8 N (Cp F) b a n f p v)
 | 0,_,_,_=>by kernel_rfl
 | n+1,f,p,v=>Eq.trans (by kernel_rfl) (Bs (X0 N (Cp F) b a · f p v) (funext fun f=>funext fun p=>funext fun v=>(YV F b a n f p v)):_)
theorem YW (F:KF R) (b:Bool) (a:LA):∀ (n g:Nat) (q:Int) (w:LA),Ap (Arj N F) n (Ari b a g q w)=(L9 N (Cp F) b a n g q w)
 | 0,_,_,_=>by kernel_rfl
 | n+1,g,q,w=>Eq.trans (by kernel_rfl) (Bs (X1 N (Cp F) b a · g q w) (funext fun g=>funext fun q=>funext fun w=>(YW F b a n g q w)):_)
theorem YX (F:KF R) (b:Bool) (a:LA):∀ (n i:Nat) (r:Int) (x:LA),Ap (Arl N F) n (Ark b a i r x)=(Ma N (Cp F) b a n i r x)
 | 0,_,_,_=>by kernel_rfl
 | n+1,i,r,x=>Eq.trans (by kernel_rfl) (Bs (X2 N (Cp F) b a · i r x) (funext fun i=>funext fun r=>funext fun x=>(YX F b a n i r x)):_)
theorem qS (a:LA) (b:Bool) (y:Int) (F:KF R):Cn [] qR N 182 [(.pagg a b),(.int .i64 y)] [] F=(Hi N a b y (Cp F)):=by
 rw[Jy]
 exact Eq.trans (by kernel_rfl) (Bdv (Mb N (Cp F) · · · · · · a b y) (funext fun c=>funext fun l=>funext fun s=>(Ak ..).trans (YS N F b a N c l s)) (funext fun d=>funext fun m=>funext fun t=>(Ak ..).trans (YT N F b a N d m t)) (funext fun e=>funext fun o=>funext fun u=>(Ak ..).trans (YU N F b a N e o u)) (funext fun f=>funext fun p=>funext fun v=>(Ak ..).trans (YV N F b a N f p v)) (funext fun g=>funext fun q=>funext fun w=>(Ak ..).trans (YW N F b a N g q w)) (funext fun i=>funext fun r=>funext fun x=>(Ak ..).trans (YX N F b a N i r x)):_)
def kZ (args:List AV) (h:Am) (k:KF R):O R :=
 match args,h with
 | [(.pagg a b),(.int .i64 y)],[]=>(Hi N a b y (Cp k))
 | _,_=>none
theorem qT:Aq N 182 @kZ:=by
 intro R Q args h k j;unfold kZ;split
 exact A2 (qS ..) (qS ..) trivial
 exact A5
def UZ:=A4 (qT N)
theorem qU:A1 Tryz.prog 182 (UZ N):=A6 (qT N) follows
def tP (N:Nat) (r0:Int→O R) (a:Int):O R :=
 (cond (Ad a 7) (Ao .i64 (List.drop (0+((a.toNat)*1)) [(.int .i64 0),(.int .i64 32),(.int .i64 64),(.int .i64 16),(.int .i64 8),(.int .i64 8),(.int .i64 64)]) fun b=>(r0 b)) none)
def O2:=(Ah (fun (N:Nat) (a:Int) (r0:Int→O R)=>(tP N r0 a))).1
theorem qV (a r0):(@O2 R N a r0)=(tP N r0 a):=by rw[O2,(Ah _).2]
def Avu:Hints:={ H:=hL }
def xH (F:KF R):Int→O R:=(fun c=>F (.int .i64 c) [])
theorem xI (a:Int) (F:KF R):Cn [] Avu N 183 [(.int .i64 a)] [] F=(O2 N a (xH F)):=by
 rw[qV]
 kernel_rfl
def qW (args:List AV) (h:Am) (k:KF R):O R :=
 match args,h with
 | [(.int .i64 a)],[]=>(O2 N a (xH k))
 | _,_=>none
theorem xJ:Aq N 183 @qW:=by
 intro R Q args h k j;unfold qW;split
 exact A2 (xI ..) (xI ..) trivial
 exact A5
def xK:=A4 (xJ N)
theorem Avv:A1 Tryz.prog 183 (xK N):=A6 (xJ N) follows
def Ch (r0:LA→O R) (b:Bool) (a:LA) (k0:Int→LA→O R) (c:Int) (d:LA):O R :=
 (cond (decide (c≤6)) (cond (Nat.ble 8 (a.length)) (Hi N (a.take 8) b c (fun f w=>(O2 N c (fun g=>(Ab N (decide (((f:Nat):Int)≤g)) 0 0 (wrap .i64 (c+1)) 8 d (fun i=>(k0 (wrap .i64 (c+1)) i))))))) none) (r0 d))
def Bl (r0:LA→O R) (b:Bool) (a:LA):Nat→Int→LA→O R
 | 0,_,_=>none
 | n+1,c,d=>(Ch N r0 b a (Bl r0 b a n) c d)
def Mc (r0:LA→O R) (q0:Int→LA→O R) (a:LA) (b:Bool) (e:LA):O R :=
 (Ao .i64 a fun l=>(Aw N 1 24 [(.int .i64 l)] 1 false true (fun m=>(Ab N m 0 0 0 3 e (fun o=>(cond (Nat.ble 8 (a.length)) (Ct 1 (a.drop 1) fun p q=>(Cc N (a.take 8) b p q false b 0 1048576 0 0 1 o (fun r=>(Ct 3 (a.drop 2) fun x s=>(Aw N 1 32 [(.int .i64 ((s:Nat):Int))] 1 false true (fun t=>(Ab N t 0 0 2 8 r (fun u=>(q0 2 u))))))))) none))))))
def Gi:=(Ah (fun (N:Nat) (a:LA) (b:Bool) (e:LA) (r0:LA→O R)=>(Mc N r0 (fun c d=>(Bl N r0 b a N c d)) a b e))).1
theorem Vn (a b e r0):(@Gi R N a b e r0)=(Mc N r0 (fun c d=>(Bl N r0 b a N c d)) a b e):=by rw[Gi,(Ah _).2]
def Y3:Hints:={ H:=(hS hL (hS hL (hS hL (hS hL (hS hL (hS (hP [0,3,4] hL) hL)))))) }
def BK:Ek:=[(156,Cv N),(155,Bj N),(154,Ia N),(182,UZ N),(183,xK N)]
def ef (F:KF R):=Kk Tryz.f152 Y3 (BK N) [100000] N F
def Gb (F:KF R):LA→O R:=(fun v=>F (.tup []) [(100000,(bQ 0 v))])
def eg (b:Bool) (a:LA) (c:Int) (d:LA):St:=⟨[(0,(.optr 100000 0)),(3,(.optr 300000 0)),(4,(.int .i64 c))],[(100000,(bQ 0 d)),(300000,(bP b 0 a))]⟩
def eh (F:KF R):=ef N F [1,1,1,1,1,0] []
theorem Tq (F:KF R) (b:Bool) (a:LA):∀ (n:Nat) (c:Int) (d:LA),Ap (eh N F) n (eg b a c d)=(Bl N (Gb F) b a n c d)
 | 0,_,_=>by kernel_rfl
 | n+1,c,d=>Eq.trans (by kernel_rfl) (Bs (Ch N (Gb F) b a · c d) (funext fun c=>funext fun d=>(Tq F b a n c d)):_)
theorem Y4 (a:LA) (b:Bool) (e:LA) (F:KF R):Cn (BK N) Y3 N 152 [(.optr 100000 0),(.pagg a b)] [(100000,(bQ 0 e))] F=(Gi N a b e (Gb F)):=by
 rw[Vn]
 exact Eq.trans (by kernel_rfl) (Bs (Mc N (Gb F) · a b e) (funext fun c=>funext fun d=>(Ak ..).trans (Tq N F b a N c d)):_)
def Vo (args:List AV) (h:Am) (k:KF R):O R :=
 match args,h with
 | [(.optr 100000 0),(.pagg a b)],[(100000,⟨false,false,true,false,0,e,false⟩)]=>(Gi N a b e (Gb k))
 | _,_=>none
theorem Y5:Aq N 152 @Vo:=by
 intro R Q args h k j;unfold Vo;split
 exact A2 (Y4 ..) (Y4 ..) ⟨Dd N,Br N,No N,qU N,Avv N,trivial⟩
 exact A5
def Y6:=A4 (Y5 N)
theorem ei:A1 Tryz.prog 152 (Y6 N):=A6 (Y5 N) follows
def LL (N:Nat) (k1:Int→O R) (r0:Bool→O R) (a:List UInt8) (c:Int) (d:Bool):O R :=
 (cond ((!d)==true) (cond ((c==0)==false) (cond (Ad c (a.length)) (cond ((((UInt8.toNat (List.getD a (c.toNat) 0):Nat):Int) != 95)==true) (cond (Ad c (a.length)) (cond ((decide (((UInt8.toNat (List.getD a (c.toNat) 0):Nat):Int)<48))==false) (cond (Ad c (a.length)) (cond (cond true (cond false true (cond true (cond false true (decide (((UInt8.toNat (List.getD a (c.toNat) 0):Nat):Int)>57))) false)) false) (r0 false) (k1 (wrap .i64 (c+1)))) none) (r0 false)) none) (k1 (wrap .i64 (c+1)))) none) (r0 false)) (k1 (wrap .i64 (c+1))))
def DG (N:Nat) (r0:Bool→O R) (a:List UInt8) (k1:Int→O R) (q2:Int→Bool→O R) (b:Int):O R :=
 (cond (decide (b<(((a.length):Nat):Int))) (cond (Ad b (a.length)) (cond ((decide (((UInt8.toNat (List.getD a (b.toNat) 0):Nat):Int)≥97))==true) (cond (Ad b (a.length)) (q2 b (cond true (decide (((UInt8.toNat (List.getD a (b.toNat) 0):Nat):Int)≤122)) false)) none) (q2 b false)) none) (r0 true))
def O3 (r0:Bool→O R) (a:List UInt8):Nat→Int→O R
 | 0,_=>none
 | n+1,b=>(DG N r0 a (O3 r0 a n) (fun c d=>(LL N (O3 r0 a n) r0 a c d)) b)
def U_ (N:Nat) (r0:Bool→O R) (a:List UInt8) (q1:Int→O R):O R :=
 (q1 0)
def LM (r0:Bool→O R) (a:List UInt8):O R:=(U_ N r0 a (fun b=>(O3 N r0 a N b)))
def gf (N:Nat) (r0:Bool→O R) (q0:O R) (a:List UInt8):O R :=
 (cond ((decide ((((a.length):Nat):Int)<1))==false) (cond ((cond false true (decide ((((a.length):Nat):Int)>16)))==false) (cond (cond false true (a==([99,111,114,114,101,99,116,105,118,101]:List UInt8))) (r0 false) q0) (r0 false)) (r0 false))
def QL:=(Ah (fun (N:Nat) (a:List UInt8) (r0:Bool→O R)=>(gf N r0 (LM N r0 a) a))).1
theorem qX (a r0):(@QL R N a r0)=(gf N r0 (LM N r0 a) a):=by rw[QL,(Ah _).2]
def xL:Hints:={ H:=(hS hL (hJ [0] hL (hS (hS hL (hS (hP [0,3] (hS hL (hS (hS (hJ [0,3,4] hL hL) hL) hL))) hL)) hL))) }
def ej (F:KF R):=Kk Tryz.f184 xL [] [] N F
def Jd (F:KF R):Bool→O R:=(fun e=>F (.bool e) [])
def Avw (a:List UInt8) (c:Int) (d:Bool):St:=⟨[(0,(.str a)),(3,(.int .i64 c)),(4,(.bool d))],[]⟩
def Avx (F:KF R) (Q1:St→O R):=ej N F [1,1,0,1,0,0,1,0,0,1] [Q1]
def xM (a:List UInt8) (b:Int):St:=⟨[(0,(.str a)),(3,(.int .i64 b))],[]⟩
def xN (F:KF R):=ej N F [1,1,0,1,0] []
def Avy (a:List UInt8):St:=⟨[(0,(.str a))],[]⟩
def Avz (F:KF R):=ej N F [1,1] []
theorem Agy (Q1:St→O R) (F:KF R) (a:List UInt8):∀ (c:Int) (d:Bool),Bb (Avx N F Q1) (Avw a c d)=(LL N (fun b=>Q1 (xM a b)) (Jd F) a c d):=by
 intro c d
 kernel_rfl
theorem ek (F:KF R) (a:List UInt8):∀ (n:Nat) (b:Int),Ap (xN N F) n (xM a b)=(O3 N (Jd F) a n b)
 | 0,_=>by kernel_rfl
 | n+1,b=>have e0:=(funext fun b=>(ek F a n b))
  Eq.trans (by kernel_rfl) (bJ (DG N (Jd F) a · · b) e0 (funext fun c=>funext fun d=>(As ..).trans ((Agy N (Ap (xN N F) n) F a c d).trans (Bs (LL N · (Jd F) a c d) e0))):_)
theorem Agz (F:KF R) (a:List UInt8):Bb (Avz N F) (Avy a)=(LM N (Jd F) a):=by
 exact Eq.trans (by kernel_rfl) (Bs (U_ N (Jd F) a ·) (funext fun b=>(Ak ..).trans (ek N F a N b)):_)
theorem xO (a:List UInt8) (F:KF R):Cn [] xL N 184 [(.str a)] [] F=(QL N a (Jd F)):=by
 rw[qX]
 exact Eq.trans (by kernel_rfl) (Bs (gf N (Jd F) · a) ((As ..).trans (Agz N F a)):_)
def qY (args:List AV) (h:Am) (k:KF R):O R :=
 match args,h with
 | [(.str a)],[]=>(QL N a (Jd k))
 | _,_=>none
theorem xP:Aq N 184 @qY:=by
 intro R Q args h k j;unfold qY;split
 exact A2 (xO ..) (xO ..) trivial
 exact A5
def xQ:=A4 (xP N)
theorem Av0:A1 Tryz.prog 184 (xQ N):=A6 (xP N) follows
def Je (r0:LA→O R) (b a:Int) (c:Nat) (d:LA) (k0:Int→LA→O R) (e:Int) (f:LA):O R :=
 (cond (decide (e<a)) (cond (Ad e c) (Ass (d.drop (0+((e.toNat)*1))) fun m=>(cond (Ad a c) (Ass (d.drop (0+((a.toNat)*1))) fun o=>(Ab N (!(m==o)) b a 0 10 f (fun p=>(k0 (wrap .i64 (e+1)) p)))) none)) none) (r0 f))
def Du (r0:LA→O R) (b a:Int) (c:Nat) (d:LA):Nat→Int→LA→O R
 | 0,_,_=>none
 | n+1,e,f=>(Je N r0 b a c d (Du r0 b a c d n) e f)
def N1 (r0:LA→O R) (q0:Nat→LA→Int→LA→O R) (g:LA) (i:Bool) (b a:Int) (l:LA):O R :=
 (cond (Nat.ble 8 (g.length)) (Hi N (g.take 8) i b (fun c d=>(cond (Ad a c) (Ass (d.drop (0+((a.toNat)*1))) fun q=>(QL N q (fun r=>(Ab N r b a 0 9 l (fun s=>(q0 c d 0 s)))))) none))) none)
def Cj:=(Ah (fun (N:Nat) (g:LA) (i:Bool) (b a:Int) (l:LA) (r0:LA→O R)=>(N1 N r0 (fun c d e f=>(Du N r0 b a c d N e f)) g i b a l))).1
theorem Y7 (g i b a l r0):(@Cj R N g i b a l r0)=(N1 N r0 (fun c d e f=>(Du N r0 b a c d N e f)) g i b a l):=by rw[Cj,(Ah _).2]
def BL:Hints:={ H:=(hS hL (hS hL (hS hL (hS hL (hS (hP [0,2,3,8,9] hL) hL))))) }
def GY:Ek:=[(182,UZ N),(184,xQ N),(155,Bj N)]
def iA (F:KF R):=Kk Tryz.f153 BL (GY N) [100000] N F
def Gz (F:KF R):LA→O R:=(fun t=>F (.tup []) [(100000,(bQ 0 t))])
def iB (b a:Int) (c:Nat) (d:LA) (e:Int) (f:LA):St:=⟨[(0,(.optr 100000 0)),(2,(.int .i64 b)),(3,(.int .i64 a)),(8,(.own 300000 0 c)),(9,(.int .i64 e))],[(100000,(bQ 0 f)),(300000,(bQ 1 d))]⟩
def iC (F:KF R):=iA N F [1,1,1,1,0] []
theorem Us (F:KF R) (b a:Int) (c:Nat) (d:LA):∀ (n:Nat) (e:Int) (f:LA),Ap (iC N F) n (iB b a c d e f)=(Du N (Gz F) b a c d n e f)
 | 0,_,_=>by kernel_rfl
 | n+1,e,f=>Eq.trans (by kernel_rfl) (Bs (Je N (Gz F) b a c d · e f) (funext fun e=>funext fun f=>(Us F b a c d n e f)):_)
theorem BM (g:LA) (i:Bool) (b a:Int) (l:LA) (F:KF R):Cn (GY N) BL N 153 [(.optr 100000 0),(.pagg g i),(.int .i64 b),(.int .i64 a)] [(100000,(bQ 0 l))] F=(Cj N g i b a l (Gz F)):=by
 rw[Y7]
 exact Eq.trans (by kernel_rfl) (Bs (N1 N (Gz F) · g i b a l) (funext fun c=>funext fun d=>funext fun e=>funext fun f=>(Ak ..).trans (Us N F b a c d N e f)):_)
def Y8 (args:List AV) (h:Am) (k:KF R):O R :=
 match args,h with
 | [(.optr 100000 0),(.pagg g i),(.int .i64 b),(.int .i64 a)],[(100000,⟨false,false,true,false,0,l,false⟩)]=>(Cj N g i b a l (Gz k))
 | _,_=>none
theorem BN:Aq N 153 @Y8:=by
 intro R Q args h k j;unfold Y8;split
 exact A2 (BM ..) (BM ..) ⟨qU N,Av0 N,Br N,trivial⟩
 exact A5
def Dv:=A4 (BN N)
theorem E7:A1 Tryz.prog 153 (Dv N):=A6 (BN N) follows
def Wv (r0:LA→O R) (a:LA) (g:Bool) (b c d e:Int) (f:LA):O R :=
 (Ct 3 (a.drop 2) fun o i=>(Aw N 0 (wrap .i64 (((i:Nat):Int) - 1)) [(.int .i64 b)] 1 false true (fun l=>(Ab N l c d e 12 f (fun m=>(r0 m))))))
def Di:=(Ah (fun (N:Nat) (a:LA) (g:Bool) (b c d e:Int) (f:LA) (r0:LA→O R)=>(Wv N r0 a g b c d e f))).1
theorem BO (a g b c d e f r0):(@Di R N a g b c d e f r0)=(Wv N r0 a g b c d e f):=by rw[Di,(Ah _).2]
def mg:Hints:={ H:=hL }
def qZ:Ek:=[(156,Cv N),(155,Bj N)]
def GZ (F:KF R):LA→O R:=(fun n=>F (.tup []) [(100000,(bQ 0 n))])
theorem G_ (a:LA) (g:Bool) (b c d e:Int) (f:LA) (F:KF R):Cn (qZ N) mg N 185 [(.optr 100000 0),(.pagg a g),(.int .i64 b),(.int .i64 c),(.int .i64 d),(.int .i64 e)] [(100000,(bQ 0 f))] F=(Di N a g b c d e f (GZ F)):=by
 rw[BO]
 kernel_rfl
def BP (args:List AV) (h:Am) (k:KF R):O R :=
 match args,h with
 | [(.optr 100000 0),(.pagg a g),(.int .i64 b),(.int .i64 c),(.int .i64 d),(.int .i64 e)],[(100000,⟨false,false,true,false,0,f,false⟩)]=>(Di N a g b c d e f (GZ k))
 | _,_=>none
theorem G':Aq N 185 @BP:=by
 intro R Q args h k j;unfold BP;split
 exact A2 (G_ ..) (G_ ..) ⟨Dd N,Br N,trivial⟩
 exact A5
def H4:=A4 (G' N)
theorem Md:A1 Tryz.prog 185 (H4 N):=A6 (G' N) follows
def ND (r0:Bool→O R) (a:LA) (b:Bool):O R :=
 (Ao .i64 (a.drop 1) fun c=>(Aw N 1 1048576 [(.int .i64 c)] 1 false true (fun d=>(cond (d==true) (Ao .i64 a fun e=>(Aw N (-1048576) 1048576 [(.int .i64 e)] 1 false true (fun f=>(r0 (cond true f false))))) (r0 false)))))
def G3:=(Ah (fun (N:Nat) (a:LA) (b:Bool) (r0:Bool→O R)=>(ND N r0 a b))).1
theorem QM (a b r0):(@G3 R N a b r0)=(ND N r0 a b):=by rw[G3,(Ah _).2]
def zK:Hints:={ H:=hL }
def Ag0:Ek:=[(156,Cv N)]
def YY (F:KF R):Bool→O R:=(fun g=>F (.bool g) [])
theorem YZ (a:LA) (b:Bool) (F:KF R):Cn (Ag0 N) zK N 186 [(.pagg a b)] [] F=(G3 N a b (YY F)):=by
 rw[QM]
 kernel_rfl
def QN (args:List AV) (h:Am) (k:KF R):O R :=
 match args,h with
 | [(.pagg a b)],[]=>(G3 N a b (YY k))
 | _,_=>none
theorem Y_:Aq N 186 @QN:=by
 intro R Q args h k j;unfold QN;split
 exact A2 (YZ ..) (YZ ..) ⟨Dd N,trivial⟩
 exact A5
def AH:=A4 (Y_ N)
theorem ZA:A1 Tryz.prog 186 (AH N):=A6 (Y_ N) follows
def O4 (N:Nat) (r0:Bool→O R) (b:LA) (a:Nat) (c d:Bool) (k0:Int→O R) (e:Int):O R :=
 (cond (decide (e<((a:Nat):Int))) (cond (Ad e a) (Ao .i64 (b.drop ((e.toNat)*1)) fun f=>(cond (Ad (wrap .i64 (e - 1)) a) (Ao .i64 (b.drop (((wrap .i64 (e - 1)).toNat)*1)) fun g=>(cond (decide (f≤g)) (r0 false) (k0 (wrap .i64 (e+1))))) none)) none) (r0 true))
def Hd (r0:Bool→O R) (b:LA) (a:Nat) (c d:Bool):Nat→Int→O R
 | 0,_=>none
 | n+1,e=>(O4 N r0 b a c d (Hd r0 b a c d n) e)
def LN (N:Nat) (r0:Bool→O R) (q0:Int→O R) (b:LA) (a:Nat) (c d:Bool):O R :=
 (q0 1)
def O5:=(Ah (fun (N:Nat) (b:LA) (a:Nat) (c d:Bool) (r0:Bool→O R)=>(LN N r0 (fun e=>(Hd N r0 b a c d N e)) b a c d))).1
theorem eo (b a c d r0):(@O5 R N b a c d r0)=(LN N r0 (fun e=>(Hd N r0 b a c d N e)) b a c d):=by rw[O5,(Ah _).2]
def k8:Hints:={ H:=(hS hL (hS (hS hL (hS (hP [0,3] hL) hL)) hL)) }
def Akg (F:KF R):=Kk Tryz.f189 k8 [] [] N F
def Rh (F:KF R):Bool→O R:=(fun i=>F (.bool i) [])
def Akh (b:LA) (a:Nat) (c d:Bool) (e:Int):St:=⟨[(0,(.imm b a 1 c d)),(3,(.int .i64 e))],[]⟩
def Aki (F:KF R):=Akg N F [1,0,1,0] []
theorem QO (F:KF R) (b:LA) (a:Nat) (c d:Bool):∀ (n:Nat) (e:Int),Ap (Aki N F) n (Akh b a c d e)=(Hd N (Rh F) b a c d n e)
 | 0,_=>by kernel_rfl
 | n+1,e=>Eq.trans (by kernel_rfl) (Bs (O4 N (Rh F) b a c d · e) (funext fun e=>(QO F b a c d n e)):_)
theorem k_ (b:LA) (a:Nat) (c d:Bool) (F:KF R):Cn [] k8 N 189 [(.imm b a 1 c d)] [] F=(O5 N b a c d (Rh F)):=by
 rw[eo]
 exact Eq.trans (by kernel_rfl) (Bs (LN N (Rh F) · b a c d) (funext fun e=>(Ak ..).trans (QO N F b a c d N e)):_)
def ep (args:List AV) (h:Am) (k:KF R):O R :=
 match args,h with
 | [(.imm b a 1 c d)],[]=>(O5 N b a c d (Rh k))
 | _,_=>none
theorem kc:Aq N 189 @ep:=by
 intro R Q args h k j;unfold ep;split
 exact A2 (k_ ..) (k_ ..) trivial
 exact A5
def NE:=A4 (kc N)
theorem ke:A1 Tryz.prog 189 (NE N):=A6 (kc N) follows
def Ut (r0:LA→O R) (g:LA) (l:Bool) (a:LA) (b:Nat) (m c:Bool) (d e f:Int) (i:LA):O R :=
 (Ao .i64 g fun n=>(Aw N 0 (wrap .i64 (n - 1)) a b false c (fun o=>(Ab N o d e f 3 i (fun p=>(O5 N a b false c (fun q=>(Ab N q d e f 11 p (fun r=>(r0 r))))))))))
def Fr:=(Ah (fun (N:Nat) (g:LA) (l:Bool) (a:LA) (b:Nat) (m c:Bool) (d e f:Int) (i:LA) (r0:LA→O R)=>(Ut N r0 g l a b m c d e f i))).1
theorem Y9 (g l a b m c d e f i r0):(@Fr R N g l a b m c d e f i r0)=(Ut N r0 g l a b m c d e f i):=by rw[Fr,(Ah _).2]
def iD:Hints:={ H:=hL }
def mh:Ek:=[(156,Cv N),(155,Bj N),(189,NE N)]
def BQ (F:KF R):LA→O R:=(fun s=>F (.tup []) [(100000,(bQ 0 s))])
theorem BR (g:LA) (l:Bool) (a:LA) (b:Nat) (m c:Bool) (d e f:Int) (i:LA) (F:KF R):Cn (mh N) iD N 187 [(.optr 100000 0),(.pagg g l),(.imm a b 1 m c),(.int .i64 d),(.int .i64 e),(.int .i64 f)] [(100000,(bQ 0 i))] F=(Fr N g l a b m c d e f i (BQ F)):=by
 rw[Y9]
 kernel_rfl
def Za (args:List AV) (h:Am) (k:KF R):O R :=
 match args,h with
 | [(.optr 100000 0),(.pagg g l),(.imm a b 1 m c),(.int .i64 d),(.int .i64 e),(.int .i64 f)],[(100000,⟨false,false,true,false,0,i,false⟩)]=>(Fr N g l a b m c d e f i (BQ k))
 | _,_=>none
theorem BS:Aq N 187 @Za:=by
 intro R Q args h k j;unfold Za;split
 exact A2 (BR ..) (BR ..) ⟨Dd N,Br N,ke N,trivial⟩
 exact A5
def Qs:=A4 (BS N)
theorem BT:A1 Tryz.prog 187 (Qs N):=A6 (BS N) follows
end
end Gx

namespace Gx
open Go Go.Proofs
open IntKind (wrap)
set_option maxRecDepth 100000
noncomputable section
variable {R:Type} (N:Nat)
def Qt (r0:LA→O R) (a:Int) (b:Bool) (c d:LA) (l:LA):O R :=
 (Ao .i64 (d.drop 9) fun n=>(Aw N 0 1048576 [(.int .i64 n)] 1 false true (fun o=>(Ab N o 2 a 6 3 l (fun p=>(Ao .i64 (d.drop 9) fun q=>(Ao .i64 (d.drop 10) fun r=>(Aw N q 1048576 [(.int .i64 r)] 1 false true (fun s=>(Ab N s 2 a 7 3 p (fun t=>(cond (Nat.ble 8 (c.length)) (Ct 1 (d.drop 11) fun u v=>(Fr N (c.take 8) b u v false b 2 a 8 t (fun w=>(r0 w)))) none))))))))))))
def O6 (r0:LA→O R) (a:Int) (b:Bool) (c d:LA) (q2:LA→O R) (f:LA):O R :=
 (cond (Nat.ble 2 ((d.drop 7).length)) (cond ((!b)||(Bd ((d.drop 7).take 2))) (G3 N ((d.drop 7).take 2) false (fun x=>(cond (x==true) (Ao .i64 (d.drop 7) fun y=>(Ab N (cond true (decide (y≥0)) false) 2 a 5 3 f (fun z=>(q2 z)))) (Ab N false 2 a 5 3 f (fun aa=>(q2 aa)))))) none) none)
def Qu (r0:LA→O R) (a:Int) (b:Bool) (c d:LA) (f:LA):O R:=(O6 N r0 a b c d (fun l=>(Qt N r0 a b c d l)) f)
def O7 (r0:LA→O R) (a:Int) (b:Bool) (c:LA) (q1:LA→O R) (e d:LA):O R :=
 (cond (Nat.ble 2 ((d.drop 5).length)) (cond ((!b)||(Bd ((d.drop 5).take 2))) (G3 N ((d.drop 5).take 2) false (fun ab=>(cond (ab==true) (Ao .i64 (d.drop 5) fun ac=>(Ab N (cond true (decide (ac≤0)) false) 2 a 4 3 e (fun ad=>(q1 ad)))) (Ab N false 2 a 4 3 e (fun ae=>(q1 ae)))))) none) none)
def Kd (r0:LA→O R) (a:Int) (b:Bool) (c:LA) (e d:LA):O R:=(O7 N r0 a b c (fun f=>(Qu N r0 a b c d f)) e d)
def N2 (r0:LA→O R) (q0:LA→LA→O R) (c:LA) (b:Bool) (a:Int) (g:LA):O R :=
 (Ct 12 (c.drop 3) fun i af=>(cond (Ad a af) (cond (Nat.ble 12 ((i.drop ((a.toNat)*12)).length)) (cond ((Nat.beq 0 0)&&((Nat.beq (((i.drop ((a.toNat)*12)).take 12).length) 12)&&(Nat.beq 12 12))) (cond (Nat.ble 8 (c.length)) (Cj N (c.take 8) b 2 a g (fun ag=>(cond (Nat.ble 8 (c.length)) (Ao .i64 (((i.drop ((a.toNat)*12)).take 12).drop 1) fun ah=>(Di N (c.take 8) b ah 2 a 1 ag (fun ai=>(cond (Nat.ble 8 (c.length)) (Ao .i64 (((i.drop ((a.toNat)*12)).take 12).drop 2) fun aj=>(Di N (c.take 8) b aj 2 a 2 ai (fun ak=>(Ao .i64 (((i.drop ((a.toNat)*12)).take 12).drop 1) fun al=>(Ao .i64 (((i.drop ((a.toNat)*12)).take 12).drop 2) fun am=>(Ab N (al != am) 2 a 2 1 ak (fun m=>(cond (Nat.ble 2 ((((i.drop ((a.toNat)*12)).take 12).drop 3).length)) (cond ((!b)||(Bd ((((i.drop ((a.toNat)*12)).take 12).drop 3).take 2))) (G3 N ((((i.drop ((a.toNat)*12)).take 12).drop 3).take 2) false (fun an=>(cond (an==true) (Ao .i64 (((i.drop ((a.toNat)*12)).take 12).drop 3) fun ao=>(Ab N (cond true (decide (ao>0)) false) 2 a 3 3 m (fun ap=>(q0 ap ((i.drop ((a.toNat)*12)).take 12))))) (Ab N false 2 a 3 3 m (fun aq=>(q0 aq ((i.drop ((a.toNat)*12)).take 12))))))) none) none)))))))) none)))) none))) none) none) none) none))
def Hj:=(Ah (fun (N:Nat) (c:LA) (b:Bool) (a:Int) (g:LA) (r0:LA→O R)=>(N2 N r0 (fun e d=>(Kd N r0 a b c e d)) c b a g))).1
theorem Zb (c b a g r0):(@Hj R N c b a g r0)=(N2 N r0 (fun e d=>(Kd N r0 a b c e d)) c b a g):=by rw[Hj,(Ah _).2]
def BU:Hints:={ H:=(hS hL (hS hL (hS hL (hS hL (hS hL (hS hL (hJ [0,2,4,6,7] hL (hJ [0,2,4,6,7] hL (hJ [0,2,4,6,7] hL hL))))))))) }
def HA:Ek:=[(153,Dv N),(185,H4 N),(155,Bj N),(186,AH N),(156,Cv N),(187,Qs N)]
def Qv (F:KF R):=Kk Tryz.f157 BU (HA N) [100000] N F
def C0 (F:KF R):LA→O R:=(fun ar=>F (.tup []) [(100000,(bQ 0 ar))])
def iE (a:Int) (b:Bool) (c d l:LA):St:=⟨[(0,(.optr 100000 0)),(2,(.int .i64 a)),(4,(.optr 300000 0)),(6,(.optr 300001 0)),(7,(.int .i64 2))],[(100000,(bQ 0 l)),(300000,(bP b 0 c)),(300001,(bP b 0 d))]⟩
def iF (F:KF R):=Qv N F [1,1,1,1,1,1,1,1,1] []
def iG (a:Int) (b:Bool) (c d f:LA):St:=⟨[(0,(.optr 100000 0)),(2,(.int .i64 a)),(4,(.optr 300000 0)),(6,(.optr 300001 0)),(7,(.int .i64 2))],[(100000,(bQ 0 f)),(300000,(bP b 0 c)),(300001,(bP b 0 d))]⟩
def iH (F:KF R):=Qv N F [1,1,1,1,1,1,1,1] []
def iI (a:Int) (b:Bool) (c e d:LA):St:=⟨[(0,(.optr 100000 0)),(2,(.int .i64 a)),(4,(.optr 300000 0)),(6,(.optr 300001 0)),(7,(.int .i64 2))],[(100000,(bQ 0 e)),(300000,(bP b 0 c)),(300001,(bP b 0 d))]⟩
def iJ (F:KF R):=Qv N F [1,1,1,1,1,1,1] []
theorem VA (F:KF R) (a:Int) (b:Bool) (c d:LA):∀ (l:LA),Bb (iF N F) (iE a b c d l)=(Qt N (C0 F) a b c d l):=by
 intro l
 kernel_rfl
theorem VB (F:KF R) (a:Int) (b:Bool) (c d:LA):∀ (f:LA),Bb (iH N F) (iG a b c d f)=(Qu N (C0 F) a b c d f):=by
 intro f
 exact Eq.trans (by kernel_rfl) (Bs (O6 N (C0 F) a b c d · f) (funext fun l=>(As ..).trans (VA N F a b c d l)):_)
theorem VC (F:KF R) (a:Int) (b:Bool) (c:LA):∀ (e d:LA),Bb (iJ N F) (iI a b c e d)=(Kd N (C0 F) a b c e d):=by
 intro e d
 exact Eq.trans (by kernel_rfl) (Bs (O7 N (C0 F) a b c · e d) (funext fun f=>(As ..).trans (VB N F a b c d f)):_)
theorem BV (c:LA) (b:Bool) (a:Int) (g:LA) (F:KF R):Cn (HA N) BU N 157 [(.optr 100000 0),(.pagg c b),(.int .i64 a)] [(100000,(bQ 0 g))] F=(Hj N c b a g (C0 F)):=by
 rw[Zb]
 exact Eq.trans (by kernel_rfl) (Bs (N2 N (C0 F) · c b a g) (funext fun e=>funext fun d=>(As ..).trans (VC N F a b c e d)):_)
def Zc (args:List AV) (h:Am) (k:KF R):O R :=
 match args,h with
 | [(.optr 100000 0),(.pagg c b),(.int .i64 a)],[(100000,⟨false,false,true,false,0,g,false⟩)]=>(Hj N c b a g (C0 k))
 | _,_=>none
theorem BW:Aq N 157 @Zc:=by
 intro R Q args h k j;unfold Zc;split
 exact A2 (BV ..) (BV ..) ⟨E7 N,Md N,Br N,ZA N,Dd N,BT N,trivial⟩
 exact A5
def BX:=A4 (BW N)
theorem iK:A1 Tryz.prog 157 (BX N):=A6 (BW N) follows
def F0 (r0:LA→O R) (b:Int) (d:LA) (c:Bool) (a:LA) (k2:Int→Int→O R) (p o:Int):O R :=
 (Ct 2 (a.drop 4) fun az r=>(cond ((decide (o<((r:Nat):Int)))==true) (Ao .i64 (d.drop 3) fun s=>(cond (cond true (s==0) false) (Ct 2 (a.drop 4) fun t u=>(cond (Ad o u) (Ao .i64 (t.drop ((o.toNat)*2)) fun v=>(k2 (wrap .i64 (p+v)) (wrap .i64 (o+1)))) none)) (Ao .i64 (d.drop 3) fun w=>(cond ((w != 0)==false) (Ao .i64 (a.drop 3) fun x=>(Ao .i64 (a.drop 2) fun y=>(Ab N (cond false true (p==(wrap .i64 (x - y)))) 3 b 4 4 d (fun z=>(r0 z))))) (Ab N true 3 b 4 4 d (fun aa=>(r0 aa))))))) (Ao .i64 (d.drop 3) fun ab=>(cond ((ab != 0)==false) (Ao .i64 (a.drop 3) fun ac=>(Ao .i64 (a.drop 2) fun ad=>(Ab N (cond false true (p==(wrap .i64 (ac - ad)))) 3 b 4 4 d (fun ae=>(r0 ae))))) (Ab N true 3 b 4 4 d (fun af=>(r0 af)))))))
def C7 (r0:LA→O R) (b:Int) (d:LA) (c:Bool) (a:LA):Nat→Int→Int→O R
 | 0,_,_=>none
 | n+1,p,o=>(F0 N r0 b d c a (C7 r0 b d c a n) p o)
def D4 (r0:LA→O R) (b:Int) (c:Bool) (a:LA) (k1:Int→LA→O R) (q2:Int→Int→O R) (g:Int) (d:LA):O R :=
 (Ct 2 (a.drop 4) fun ba ag=>(cond (decide (g<((ag:Nat):Int))) (Ct 2 (a.drop 4) fun ah ai=>(cond (Ad g ai) (Ao .i64 ((ah.drop ((g.toNat)*2)).drop 1) fun aj=>(Ct 2 (a.drop 4) fun ak al=>(cond (Ad (wrap .i64 (g - 1)) al) (Ao .i64 ((ak.drop (((wrap .i64 (g - 1)).toNat)*2)).drop 1) fun am=>(Ab N (decide (aj≥am)) 3 b 4 11 d (fun an=>(k1 (wrap .i64 (g+1)) an)))) none))) none)) (q2 0 0)))
def Ck (r0:LA→O R) (b:Int) (c:Bool) (a:LA):Nat→Int→LA→O R
 | 0,_,_=>none
 | n+1,g,d=>(D4 N r0 b c a (Ck r0 b c a n) (fun p o=>(C7 N r0 b d c a N p o)) g d)
def F1 (r0:LA→O R) (b:Int) (f:LA) (i:Nat) (c:Bool) (a:LA) (k0:Int→Int→LA→O R) (q1:Int→LA→O R) (l e:Int) (m:LA):O R :=
 (cond (decide (e<l)) (cond (Ad e i) (cond (Nat.ble 2 ((f.drop ((e.toNat)*2)).length)) (cond ((!c)||(Bd ((f.drop ((e.toNat)*2)).take 2))) (cond ((Nat.beq (((f.drop ((e.toNat)*2)).take 2).length) 2)&&((Nat.ble 2 2)&&(!false))) (Ao .i64 (setCells [(.int .i64 0),(.int .i64 0)] 0 ((f.drop ((e.toNat)*2)).take 2)) fun ao=>(Aw N 1 1048576 [(.int .i64 ao)] 1 false true (fun ap=>(cond (ap==true) (Ao .i64 ((setCells [(.int .i64 0),(.int .i64 0)] 0 ((f.drop ((e.toNat)*2)).take 2)).drop 1) fun aq=>(Aw N (-1048576) 1048576 [(.int .i64 aq)] 1 false true (fun ar=>(Ab N (cond true ar false) 3 b 4 3 m (fun au=>(k0 l (wrap .i64 (e+1)) au)))))) (Ab N false 3 b 4 3 m (fun av=>(k0 l (wrap .i64 (e+1)) av))))))) none) none) none) none) (q1 1 m))
def Cl (r0:LA→O R) (b:Int) (f:LA) (i:Nat) (c:Bool) (a:LA):Nat→Int→Int→LA→O R
 | 0,_,_,_=>none
 | n+1,l,e,m=>(F1 N r0 b f i c a (Cl r0 b f i c a n) (fun g d=>(Ck N r0 b c a N g d)) l e m)
def Ib (r0:LA→O R) (q0:LA→Nat→Int→Int→LA→O R) (a:LA) (c:Bool) (b:Int) (q:LA):O R :=
 (Ct 2 (a.drop 4) fun bb aw=>(Ab N (decide (((aw:Nat):Int)≤8)) 3 b 4 8 q (fun ax=>(Ct 2 (a.drop 4) fun f i=>(q0 f i ((i:Nat):Int) 0 ax)))))
def De:=(Ah (fun (N:Nat) (a:LA) (c:Bool) (b:Int) (q:LA) (r0:LA→O R)=>(Ib N r0 (fun f i l e m=>(Cl N r0 b f i c a N l e m)) a c b q))).1
theorem Ri (a c b q r0):(@De R N a c b q r0)=(Ib N r0 (fun f i l e m=>(Cl N r0 b f i c a N l e m)) a c b q):=by rw[De,(Ah _).2]
def Tr:Hints:={ H:=(hS hL (hS hL (hS hL (hS (hS hL (hS (hP [0,2,4,6,21,22,23] hL) hL)) (hS (hS hL (hS (hP [0,2,4,6,9] hL) hL)) (hS hL (hS (hS hL (hS (hP [0,2,4,6,10,11] hL) hL)) hL))))))) }
def Uu:Ek:=[(155,Bj N),(156,Cv N)]
def K4 (F:KF R):=Kk Tryz.f188 Tr (Uu N) [100000] N F
def Bo (F:KF R):LA→O R:=(fun ay=>F (.tup []) [(100000,(bQ 0 ay))])
def QP (b:Int) (d:LA) (c:Bool) (a:LA) (p o:Int):St:=⟨[(0,(.optr 100000 0)),(2,(.int .i64 b)),(4,(.optr 300000 0)),(6,(.int .i64 3)),(10,(.int .i64 p)),(11,(.int .i64 o))],[(100000,(bQ 0 d)),(300000,(bP c 0 a))]⟩
def QQ (F:KF R):=K4 N F [1,1,1,1,1,1,0,1,0] []
def QR (b:Int) (c:Bool) (a:LA) (g:Int) (d:LA):St:=⟨[(0,(.optr 100000 0)),(2,(.int .i64 b)),(4,(.optr 300000 0)),(6,(.int .i64 3)),(9,(.int .i64 g))],[(100000,(bQ 0 d)),(300000,(bP c 0 a))]⟩
def QS (F:KF R):=K4 N F [1,1,1,1,0,1,0] []
def QT (b:Int) (f:LA) (i:Nat) (c:Bool) (a:LA) (l e:Int) (m:LA):St:=⟨[(0,(.optr 100000 0)),(2,(.int .i64 b)),(4,(.optr 300000 0)),(6,(.int .i64 3)),(21,(.imm f i 2 false c)),(22,(.int .i64 l)),(23,(.int .i64 e))],[(100000,(bQ 0 m)),(300000,(bP c 0 a))]⟩
def QU (F:KF R):=K4 N F [1,1,1,0,1,0] []
theorem O8 (F:KF R) (b:Int) (d:LA) (c:Bool) (a:LA):∀ (n:Nat) (p o:Int),Ap (QQ N F) n (QP b d c a p o)=(C7 N (Bo F) b d c a n p o)
 | 0,_,_=>by kernel_rfl
 | n+1,p,o=>Eq.trans (by kernel_rfl) (Bs (F0 N (Bo F) b d c a · p o) (funext fun p=>funext fun o=>(O8 F b d c a n p o)):_)
theorem O9 (F:KF R) (b:Int) (c:Bool) (a:LA):∀ (n:Nat) (g:Int) (d:LA),Ap (QS N F) n (QR b c a g d)=(Ck N (Bo F) b c a n g d)
 | 0,_,_=>by kernel_rfl
 | n+1,g,d=>Eq.trans (by kernel_rfl) (bJ (D4 N (Bo F) b c a · · g d) (funext fun g=>funext fun d=>(O9 F b c a n g d)) (funext fun p=>funext fun o=>(Ak ..).trans (O8 N F b d c a N p o)):_)
theorem Pa (F:KF R) (b:Int) (f:LA) (i:Nat) (c:Bool) (a:LA):∀ (n:Nat) (l e:Int) (m:LA),Ap (QU N F) n (QT b f i c a l e m)=(Cl N (Bo F) b f i c a n l e m)
 | 0,_,_,_=>by kernel_rfl
 | n+1,l,e,m=>Eq.trans (by kernel_rfl) (bJ (F1 N (Bo F) b f i c a · · l e m) (funext fun l=>funext fun e=>funext fun m=>(Pa F b f i c a n l e m)) (funext fun g=>funext fun d=>(Ak ..).trans (O9 N F b c a N g d)):_)
theorem Ts (a:LA) (c:Bool) (b:Int) (q:LA) (F:KF R):Cn (Uu N) Tr N 188 [(.optr 100000 0),(.pagg a c),(.int .i64 b)] [(100000,(bQ 0 q))] F=(De N a c b q (Bo F)):=by
 rw[Ri]
 exact Eq.trans (by kernel_rfl) (Bs (Ib N (Bo F) · a c b q) (funext fun f=>funext fun i=>funext fun l=>funext fun e=>funext fun m=>(Ak ..).trans (Pa N F b f i c a N l e m)):_)
def Rj (args:List AV) (h:Am) (k:KF R):O R :=
 match args,h with
 | [(.optr 100000 0),(.pagg a c),(.int .i64 b)],[(100000,⟨false,false,true,false,0,q,false⟩)]=>(De N a c b q (Bo k))
 | _,_=>none
theorem Tt:Aq N 188 @Rj:=by
 intro R Q args h k j;unfold Rj;split
 exact A2 (Ts ..) (Ts ..) ⟨Br N,Dd N,trivial⟩
 exact A5
def Tu:=A4 (Tt N)
theorem QV:A1 Tryz.prog 188 (Tu N):=A6 (Tt N) follows
def Qw (r0:LA→O R) (a:Int) (b:Bool) (c g:LA):O R :=
 (Ao .i64 (c.drop 19) fun n=>(cond (n==2) (Ao .i64 (c.drop 2) fun o=>(Ao .i64 (c.drop 3) fun p=>(Ao .i64 (c.drop 21) fun q=>(Aw N o p [(.int .i64 q)] 1 false true (fun r=>(Ab N r 3 a 21 3 g (fun s=>(r0 s)))))))) (Ao .i64 (c.drop 21) fun t=>(Ab N (t==0) 3 a 21 3 g (fun u=>(r0 u))))))
def Pb (r0:LA→O R) (a:Int) (b:Bool) (q1:LA→O R) (f c:LA):O R :=
 (Ao .i64 (c.drop 20) fun v=>(Aw N 1 48 [(.int .i64 v)] 1 false true (fun w=>(Ab N w 3 a 20 3 f (fun l=>(Ao .i64 (c.drop 19) fun x=>(cond ((x != 1)==false) (Ao .i64 (c.drop 20) fun y=>(Ao .i64 (c.drop 12) fun z=>(Ab N (cond false true (decide (y≤z))) 3 a 20 3 l (fun aa=>(q1 aa))))) (Ab N true 3 a 20 3 l (fun ab=>(q1 ab))))))))))
def Ke (r0:LA→O R) (a:Int) (b:Bool) (f c:LA):O R:=(Pb N r0 a b (fun g=>(Qw N r0 a b c g)) f c)
def N3 (r0:LA→O R) (q0:LA→LA→O R) (e:LA) (b:Bool) (a:Int) (i:LA):O R :=
 (Ct 22 (e.drop 4) fun d ac=>(cond (Ad a ac) (cond (Nat.ble 22 ((d.drop ((a.toNat)*22)).length)) (cond ((Nat.beq 0 0)&&((Nat.beq (((d.drop ((a.toNat)*22)).take 22).length) 22)&&(Nat.beq 22 22))) (cond (Nat.ble 8 (e.length)) (Cj N (e.take 8) b 3 a i (fun ad=>(cond (Nat.ble 8 (e.length)) (Ao .i64 (((d.drop ((a.toNat)*22)).take 22).drop 1) fun ae=>(Di N (e.take 8) b ae 3 a 1 ad (fun af=>(Ao .i64 (((d.drop ((a.toNat)*22)).take 22).drop 2) fun ag=>(Aw N 0 1048576 [(.int .i64 ag)] 1 false true (fun ah=>(Ab N ah 3 a 2 3 af (fun ai=>(Ao .i64 (((d.drop ((a.toNat)*22)).take 22).drop 2) fun aj=>(Ao .i64 (((d.drop ((a.toNat)*22)).take 22).drop 3) fun ak=>(Aw N aj 1048576 [(.int .i64 ak)] 1 false true (fun al=>(Ab N al 3 a 3 3 ai (fun am=>(cond (Nat.ble 22 (((d.drop ((a.toNat)*22)).take 22).length)) (De N (((d.drop ((a.toNat)*22)).take 22).take 22) b a am (fun an=>(Ao .i64 (((d.drop ((a.toNat)*22)).take 22).drop 5) fun ao=>(Aw N 0 1048576 [(.int .i64 ao)] 1 false true (fun ap=>(Ab N ap 3 a 5 3 an (fun aq=>(Ao .i64 (((d.drop ((a.toNat)*22)).take 22).drop 6) fun ar=>(Aw N 0 1048576 [(.int .i64 ar)] 1 false true (fun au=>(Ab N au 3 a 6 3 aq (fun av=>(Ao .i64 (((d.drop ((a.toNat)*22)).take 22).drop 7) fun aw=>(Aw N 0 1048576 [(.int .i64 aw)] 1 false true (fun ax=>(Ab N ax 3 a 7 3 av (fun ay=>(Ao .i64 (((d.drop ((a.toNat)*22)).take 22).drop 2) fun az=>(Ao .i64 (((d.drop ((a.toNat)*22)).take 22).drop 3) fun ba=>(Ao .i64 (((d.drop ((a.toNat)*22)).take 22).drop 8) fun bb=>(Aw N az ba [(.int .i64 bb)] 1 false true (fun bc=>(Ab N bc 3 a 8 3 ay (fun bd=>(Ao .i64 (((d.drop ((a.toNat)*22)).take 22).drop 2) fun be=>(Ao .i64 (((d.drop ((a.toNat)*22)).take 22).drop 3) fun bf=>(Ao .i64 (((d.drop ((a.toNat)*22)).take 22).drop 9) fun bg=>(Aw N be bf [(.int .i64 bg)] 1 false true (fun bh=>(Ab N bh 3 a 9 3 bd (fun bi=>(Ao .i64 (((d.drop ((a.toNat)*22)).take 22).drop 10) fun bj=>(Aw N 0 24 [(.int .i64 bj)] 1 false true (fun bk=>(Ab N bk 3 a 10 3 bi (fun bl=>(Ao .i64 (((d.drop ((a.toNat)*22)).take 22).drop 11) fun bm=>(Aw N 0 24 [(.int .i64 bm)] 1 false true (fun bn=>(Ab N bn 3 a 11 3 bl (fun bo=>(Ao .i64 (((d.drop ((a.toNat)*22)).take 22).drop 12) fun bp=>(Aw N 0 24 [(.int .i64 bp)] 1 false true (fun bq=>(Ab N bq 3 a 12 3 bo (fun br=>(Ao .i64 (((d.drop ((a.toNat)*22)).take 22).drop 13) fun bs=>(Aw N 0 1048576 [(.int .i64 bs)] 1 false true (fun bt=>(Ab N bt 3 a 13 3 br (fun bu=>(Ao .i64 (((d.drop ((a.toNat)*22)).take 22).drop 14) fun bv=>(Aw N 0 1048576 [(.int .i64 bv)] 1 false true (fun bw=>(Ab N bw 3 a 14 3 bu (fun bx=>(Ao .i64 (((d.drop ((a.toNat)*22)).take 22).drop 15) fun bz=>(Aw N 0 24 [(.int .i64 bz)] 1 false true (fun ca=>(Ab N ca 3 a 15 3 bx (fun cb=>(Ao .i64 (((d.drop ((a.toNat)*22)).take 22).drop 16) fun cc=>(Aw N 0 1048576 [(.int .i64 cc)] 1 false true (fun cd=>(Ab N cd 3 a 16 3 cb (fun ce=>(Ao .i64 (((d.drop ((a.toNat)*22)).take 22).drop 17) fun cf=>(Aw N 0 1048576 [(.int .i64 cf)] 1 false true (fun cg=>(Ab N cg 3 a 17 3 ce (fun ch=>(cond (Nat.ble 8 (e.length)) (Ct 1 (((d.drop ((a.toNat)*22)).take 22).drop 18) fun ci cj=>(Fr N (e.take 8) b ci cj false b 3 a 18 ch (fun ck=>(Ao .i64 (((d.drop ((a.toNat)*22)).take 22).drop 19) fun cl=>(Aw N 0 2 [(.int .i64 cl)] 1 false true (fun cm=>(Ab N cm 3 a 19 12 ck (fun m=>(Ao .i64 (((d.drop ((a.toNat)*22)).take 22).drop 19) fun cn=>(cond ((cn != 1)==false) (Ao .i64 (((d.drop ((a.toNat)*22)).take 22).drop 12) fun co=>(Ab N (cond false true (decide (co>0))) 3 a 19 16 m (fun cp=>(q0 cp ((d.drop ((a.toNat)*22)).take 22))))) (Ab N true 3 a 19 16 m (fun cq=>(q0 cq ((d.drop ((a.toNat)*22)).take 22)))))))))))))) none)))))))))))))))))))))))))))))))))))))))))))))))))))))))))))))))))))))))) none))))))))))))))) none))) none) none) none) none))
def Hk:=(Ah (fun (N:Nat) (e:LA) (b:Bool) (a:Int) (i:LA) (r0:LA→O R)=>(N3 N r0 (fun f c=>(Ke N r0 a b f c)) e b a i))).1
theorem Zd (e b a i r0):(@Hk R N e b a i r0)=(N3 N r0 (fun f c=>(Ke N r0 a b f c)) e b a i):=by rw[Hk,(Ah _).2]
def BY:Hints:={ H:=(hS hL (hS hL (hS hL (hS hL (hS hL (hS hL (hS hL (hS hL (hS hL (hS hL (hS hL (hS hL (hS hL (hS hL (hS hL (hS hL (hS hL (hS hL (hS hL (hS hL (hS hL (hS hL (hJ [0,2,6,7] hL (hS hL (hJ [0,2,6,7] hL hL))))))))))))))))))))))))) }
def HB:Ek:=[(153,Dv N),(185,H4 N),(156,Cv N),(155,Bj N),(188,Tu N),(187,Qs N)]
def BZ (F:KF R):=Kk Tryz.f158 BY (HB N) [100000] N F
def E8 (F:KF R):LA→O R:=(fun cr=>F (.tup []) [(100000,(bQ 0 cr))])
def iL (a:Int) (b:Bool) (c g:LA):St:=⟨[(0,(.optr 100000 0)),(2,(.int .i64 a)),(6,(.optr 300000 0)),(7,(.int .i64 3))],[(100000,(bQ 0 g)),(300000,(bP b 0 c))]⟩
def iM (F:KF R):=BZ N F [1,1,1,1,1,1,1,1,1,1,1,1,1,1,1,1,1,1,1,1,1,1,1,1,1] []
def iN (a:Int) (b:Bool) (f c:LA):St:=⟨[(0,(.optr 100000 0)),(2,(.int .i64 a)),(6,(.optr 300000 0)),(7,(.int .i64 3))],[(100000,(bQ 0 f)),(300000,(bP b 0 c))]⟩
def iO (F:KF R):=BZ N F [1,1,1,1,1,1,1,1,1,1,1,1,1,1,1,1,1,1,1,1,1,1,1] []
theorem VD (F:KF R) (a:Int) (b:Bool) (c:LA):∀ (g:LA),Bb (iM N F) (iL a b c g)=(Qw N (E8 F) a b c g):=by
 intro g
 kernel_rfl
theorem VE (F:KF R) (a:Int) (b:Bool):∀ (f c:LA),Bb (iO N F) (iN a b f c)=(Ke N (E8 F) a b f c):=by
 intro f c
 exact Eq.trans (by kernel_rfl) (Bs (Pb N (E8 F) a b · f c) (funext fun g=>(As ..).trans (VD N F a b c g)):_)
theorem B_ (e:LA) (b:Bool) (a:Int) (i:LA) (F:KF R):Cn (HB N) BY N 158 [(.optr 100000 0),(.pagg e b),(.int .i64 a)] [(100000,(bQ 0 i))] F=(Hk N e b a i (E8 F)):=by
 rw[Zd]
 exact Eq.trans (by kernel_rfl) (Bs (N3 N (E8 F) · e b a i) (funext fun f=>funext fun c=>(As ..).trans (VE N F a b f c)):_)
def Ze (args:List AV) (h:Am) (k:KF R):O R :=
 match args,h with
 | [(.optr 100000 0),(.pagg e b),(.int .i64 a)],[(100000,⟨false,false,true,false,0,i,false⟩)]=>(Hk N e b a i (E8 k))
 | _,_=>none
theorem B':Aq N 158 @Ze:=by
 intro R Q args h k j;unfold Ze;split
 exact A2 (B_ ..) (B_ ..) ⟨E7 N,Md N,Dd N,Br N,QV N,BT N,trivial⟩
 exact A5
def CA:=A4 (B' N)
theorem iP:A1 Tryz.prog 158 (CA N):=A6 (B' N) follows
def Sp (r0:LA→O R) (c:LA) (d:Bool) (a:Int) (e:LA):O R :=
 (Ct 9 (c.drop 5) fun b g=>(cond (Ad a g) (cond (Nat.ble 9 ((b.drop ((a.toNat)*9)).length)) (cond ((Nat.beq 0 0)&&((Nat.beq (((b.drop ((a.toNat)*9)).take 9).length) 9)&&(Nat.beq 9 9))) (cond (Nat.ble 8 (c.length)) (Cj N (c.take 8) d 4 a e (fun i=>(cond (Nat.ble 8 (c.length)) (Ao .i64 (((b.drop ((a.toNat)*9)).take 9).drop 1) fun l=>(Di N (c.take 8) d l 4 a 1 i (fun m=>(Ao .i64 (((b.drop ((a.toNat)*9)).take 9).drop 2) fun n=>(Aw N 0 1048576 [(.int .i64 n)] 1 false true (fun o=>(Ab N o 4 a 2 3 m (fun p=>(Ao .i64 (((b.drop ((a.toNat)*9)).take 9).drop 2) fun q=>(Ao .i64 (((b.drop ((a.toNat)*9)).take 9).drop 3) fun r=>(Aw N 0 q [(.int .i64 r)] 1 false true (fun s=>(Ab N s 4 a 3 3 p (fun t=>(Ao .i64 (((b.drop ((a.toNat)*9)).take 9).drop 2) fun u=>(Ao .i64 (((b.drop ((a.toNat)*9)).take 9).drop 4) fun v=>(Aw N 0 u [(.int .i64 v)] 1 false true (fun w=>(Ab N w 4 a 4 3 t (fun x=>(Ao .i64 (((b.drop ((a.toNat)*9)).take 9).drop 5) fun y=>(Aw N 0 1048576 [(.int .i64 y)] 1 false true (fun z=>(Ab N z 4 a 5 3 x (fun aa=>(Ao .i64 (((b.drop ((a.toNat)*9)).take 9).drop 6) fun ab=>(Aw N 0 1048576 [(.int .i64 ab)] 1 false true (fun ac=>(Ab N ac 4 a 6 3 aa (fun f=>(cond (Nat.ble 2 ((((b.drop ((a.toNat)*9)).take 9).drop 7).length)) (cond ((!d)||(Bd ((((b.drop ((a.toNat)*9)).take 9).drop 7).take 2))) (G3 N ((((b.drop ((a.toNat)*9)).take 9).drop 7).take 2) false (fun ad=>(cond (ad==true) (Ao .i64 (((b.drop ((a.toNat)*9)).take 9).drop 7) fun ae=>(cond ((cond true (decide (ae>0)) false)==true) (Ao .i64 (((b.drop ((a.toNat)*9)).take 9).drop 7) fun af=>(Ao .i64 (((b.drop ((a.toNat)*9)).take 9).drop 8) fun ag=>(Ab N (cond true (decide (af≤ag)) false) 4 a 7 3 f (fun ah=>(r0 ah))))) (Ab N false 4 a 7 3 f (fun ai=>(r0 ai))))) (Ab N false 4 a 7 3 f (fun aj=>(r0 aj)))))) none) none))))))))))))))))))))))))))))))) none))) none) none) none) none))
def Gj:=(Ah (fun (N:Nat) (c:LA) (d:Bool) (a:Int) (e:LA) (r0:LA→O R)=>(Sp N r0 c d a e))).1
theorem Vp (c d a e r0):(@Gj R N c d a e r0)=(Sp N r0 c d a e):=by rw[Gj,(Ah _).2]
def ex:Hints:={ H:=hL }
def iQ:Ek:=[(153,Dv N),(185,H4 N),(156,Cv N),(155,Bj N),(186,AH N)]
def Zf (F:KF R):LA→O R:=(fun ak=>F (.tup []) [(100000,(bQ 0 ak))])
theorem Zg (c:LA) (d:Bool) (a:Int) (e:LA) (F:KF R):Cn (iQ N) ex N 159 [(.optr 100000 0),(.pagg c d),(.int .i64 a)] [(100000,(bQ 0 e))] F=(Gj N c d a e (Zf F)):=by
 rw[Vp]
 kernel_rfl
def Vq (args:List AV) (h:Am) (k:KF R):O R :=
 match args,h with
 | [(.optr 100000 0),(.pagg c d),(.int .i64 a)],[(100000,⟨false,false,true,false,0,e,false⟩)]=>(Gj N c d a e (Zf k))
 | _,_=>none
theorem Zh:Aq N 159 @Vq:=by
 intro R Q args h k j;unfold Vq;split
 exact A2 (Zg ..) (Zg ..) ⟨E7 N,Md N,Dd N,Br N,ZA N,trivial⟩
 exact A5
def Zi:=A4 (Zh N)
theorem ey:A1 Tryz.prog 159 (Zi N):=A6 (Zh N) follows
def Ww (r0:LA→O R) (b:LA) (c:Bool) (a:Int) (d:LA):O R :=
 (Ct 5 (b.drop 6) fun e f=>(cond (Ad a f) (cond (Nat.ble 5 ((e.drop ((a.toNat)*5)).length)) (cond ((Nat.beq 0 0)&&((Nat.beq (((e.drop ((a.toNat)*5)).take 5).length) 5)&&(Nat.beq 5 5))) (cond (Nat.ble 8 (b.length)) (Cj N (b.take 8) c 5 a d (fun g=>(cond (Nat.ble 8 (b.length)) (Ao .i64 (((e.drop ((a.toNat)*5)).take 5).drop 1) fun i=>(Di N (b.take 8) c i 5 a 1 g (fun l=>(cond (Nat.ble 8 (b.length)) (Ct 1 (((e.drop ((a.toNat)*5)).take 5).drop 2) fun m n=>(Cc N (b.take 8) c m n false c 0 1048576 5 a 2 l (fun o=>(cond (Nat.ble 8 (b.length)) (Ct 1 (((e.drop ((a.toNat)*5)).take 5).drop 3) fun p q=>(Cc N (b.take 8) c p q false c 0 1048576 5 a 3 o (fun r=>(cond (Nat.ble 8 (b.length)) (Ct 1 (((e.drop ((a.toNat)*5)).take 5).drop 4) fun s t=>(Cc N (b.take 8) c s t false c (-1048576) 1048576 5 a 4 r (fun u=>(r0 u)))) none)))) none)))) none)))) none))) none) none) none) none))
def Iz:=(Ah (fun (N:Nat) (b:LA) (c:Bool) (a:Int) (d:LA) (r0:LA→O R)=>(Ww N r0 b c a d))).1
theorem CB (b c a d r0):(@Iz R N b c a d r0)=(Ww N r0 b c a d):=by rw[Iz,(Ah _).2]
def mj:Hints:={ H:=hL }
def q_:Ek:=[(153,Dv N),(185,H4 N),(154,Ia N)]
def HC (F:KF R):LA→O R:=(fun v=>F (.tup []) [(100000,(bQ 0 v))])
theorem HD (b:LA) (c:Bool) (a:Int) (d:LA) (F:KF R):Cn (q_ N) mj N 160 [(.optr 100000 0),(.pagg b c),(.int .i64 a)] [(100000,(bQ 0 d))] F=(Iz N b c a d (HC F)):=by
 rw[CB]
 kernel_rfl
def CC (args:List AV) (h:Am) (k:KF R):O R :=
 match args,h with
 | [(.optr 100000 0),(.pagg b c),(.int .i64 a)],[(100000,⟨false,false,true,false,0,d,false⟩)]=>(Iz N b c a d (HC k))
 | _,_=>none
theorem HE:Aq N 160 @CC:=by
 intro R Q args h k j;unfold CC;split
 exact A2 (HD ..) (HD ..) ⟨E7 N,Md N,No N,trivial⟩
 exact A5
def HF:=A4 (HE N)
theorem mm:A1 Tryz.prog 160 (HF N):=A6 (HE N) follows
end
end Gx

namespace Gx
open Go Go.Proofs
open IntKind (wrap)
set_option maxRecDepth 100000
noncomputable section
variable {R:Type} (N:Nat)
def G4 (r0:LA→O R) (a:Int) (i:LA) (m:Nat) (b:Bool) (k2:Int→Int→LA→O R) (q e:Int) (r:LA):O R :=
 (cond (decide (e<q)) (cond (Ad e m) (cond (Nat.ble 3 ((i.drop ((e.toNat)*3)).length)) (cond ((!b)||(Bd ((i.drop ((e.toNat)*3)).take 3))) (cond ((Nat.beq (((i.drop ((e.toNat)*3)).take 3).length) 3)&&((Nat.ble 3 3)&&(!false))) (Ao .i64 ((setCells [(.int .i64 0),(.int .i64 0),(.int .i64 0)] 0 ((i.drop ((e.toNat)*3)).take 3)).drop 1) fun y=>(Ao .i64 ((setCells [(.int .i64 0),(.int .i64 0),(.int .i64 0)] 0 ((i.drop ((e.toNat)*3)).take 3)).drop 2) fun z=>(Aw N 0 1048576 [(.int .i64 y),(.int .i64 z)] 2 false true (fun aa=>(Ab N aa 6 a 3 3 r (fun ab=>(k2 q (wrap .i64 (e+1)) ab))))))) none) none) none) none) (r0 r))
def Dy (r0:LA→O R) (a:Int) (i:LA) (m:Nat) (b:Bool):Nat→Int→Int→LA→O R
 | 0,_,_,_=>none
 | n+1,q,e,r=>(G4 N r0 a i m b (Dy r0 a i m b n) q e r)
def G5 (r0:LA→O R) (a:Int) (l:LA) (o:Nat) (b:Bool) (s c d:LA) (k1:Nat→Int→Int→LA→O R) (q2:LA→Nat→Int→Int→LA→O R) (f:Nat) (t g:Int) (p:LA):O R :=
 (cond (decide (g<t)) (cond (Ad g o) (cond (Nat.ble 3 ((l.drop ((g.toNat)*3)).length)) (cond ((!b)||(Bd ((l.drop ((g.toNat)*3)).take 3))) (cond ((Nat.beq (((l.drop ((g.toNat)*3)).take 3).length) 3)&&((Nat.ble 3 3)&&(!false))) (Ao .i64 (setCells [(.int .i64 0),(.int .i64 0),(.int .i64 0)] 0 ((l.drop ((g.toNat)*3)).take 3)) fun ac=>(cond ((Nat.ble (f+1) 140737488355328)&&(Nat.ble ((f+1)*8) 140737488355328)) (k1 (f+1) t (wrap .i64 (g+1)) ((p.take (f*1))++[(.int .i64 ac)])) none)) none) none) none) none) (Ct 22 (c.drop 4) fun bd ad=>(Aw N 0 (wrap .i64 (((ad:Nat):Int) - 1)) (p.take (f*1)) f false true (fun ae=>(Ab N ae 6 a 3 12 s (fun af=>(O5 N (p.take (f*1)) f false true (fun ag=>(Ab N ag 6 a 3 11 af (fun ah=>(Ct 3 (d.drop 3) fun i m=>(q2 i m ((m:Nat):Int) 0 ah))))))))))))
def Dz (r0:LA→O R) (a:Int) (l:LA) (o:Nat) (b:Bool) (s c d:LA):Nat→Nat→Int→Int→LA→O R
 | 0,_,_,_,_=>none
 | n+1,f,t,g,p=>(G5 N r0 a l o b s c d (Dz r0 a l o b s c d n) (fun i m q e r=>(Dy N r0 a i m b N q e r)) f t g p)
def Me (r0:LA→O R) (a:Int) (b:Bool) (c:LA) (q1:LA→Nat→LA→Nat→Int→Int→LA→O R) (u d:LA):O R :=
 (Ct 3 (d.drop 3) fun be ai=>(Ab N (decide (((ai:Nat):Int)≤16)) 6 a 3 8 u (fun s=>(Ct 3 (d.drop 3) fun l o=>(q1 l o s 0 ((o:Nat):Int) 0 [])))))
def Ic (r0:LA→O R) (a:Int) (b:Bool) (c:LA) (u d:LA):O R:=(Me N r0 a b c (fun l o s f t g p=>(Dz N r0 a l o b s c d N f t g p)) u d)
def Kf (r0:LA→O R) (q0:LA→LA→O R) (c:LA) (b:Bool) (a:Int) (v:LA):O R :=
 (Ct 4 (c.drop 7) fun w aj=>(cond (Ad a aj) (cond (Nat.ble 4 ((w.drop ((a.toNat)*4)).length)) (cond ((Nat.beq 0 0)&&((Nat.beq (((w.drop ((a.toNat)*4)).take 4).length) 4)&&(Nat.beq 4 4))) (cond (Nat.ble 8 (c.length)) (Cj N (c.take 8) b 6 a v (fun ak=>(Ct 1 (((w.drop ((a.toNat)*4)).take 4).drop 1) fun bf al=>(Aw N 1 2 [(.int .i64 ((al:Nat):Int))] 1 false true (fun am=>(Ab N am 6 a 1 4 ak (fun an=>(Ct 12 (c.drop 3) fun bg ao=>(Ct 1 (((w.drop ((a.toNat)*4)).take 4).drop 1) fun ap aq=>(Aw N 0 (wrap .i64 (((ao:Nat):Int) - 1)) ap aq false b (fun ar=>(Ab N ar 6 a 1 12 an (fun au=>(Ct 1 (((w.drop ((a.toNat)*4)).take 4).drop 1) fun av aw=>(O5 N av aw false b (fun ax=>(Ab N ax 6 a 1 11 au (fun x=>(N_ (((w.drop ((a.toNat)*4)).take 4).drop 2) fun ay=>(cond (ay==false) (Ct 3 (((w.drop ((a.toNat)*4)).take 4).drop 3) fun bh az=>(Ab N (cond false true (((az:Nat):Int)==0)) 6 a 3 16 x (fun ba=>(q0 ba ((w.drop ((a.toNat)*4)).take 4))))) (Ab N true 6 a 3 16 x (fun bb=>(q0 bb ((w.drop ((a.toNat)*4)).take 4)))))))))))))))))))))))) none) none) none) none))
def Fs:=(Ah (fun (N:Nat) (c:LA) (b:Bool) (a:Int) (v:LA) (r0:LA→O R)=>(Kf N r0 (fun u d=>(Ic N r0 a b c u d)) c b a v))).1
theorem Uv (c b a v r0):(@Fs R N c b a v r0)=(Kf N r0 (fun u d=>(Ic N r0 a b c u d)) c b a v):=by rw[Fs,(Ah _).2]
def Vr:Hints:={ H:=(hS hL (hS hL (hS hL (hS hL (hS hL (hS hL (hJ [0,2,4,6,7] hL (hS hL (hS hL (hS (hS hL (hS (hP [0,2,4,6,7,8,71,72,73] hL) hL)) (hS hL (hS hL (hS hL (hS (hP [0,2,7,100,101,102] hL) hL)))))))))))))),nils:=[(8,1)] }
def Zj:Ek:=[(153,Dv N),(156,Cv N),(155,Bj N),(189,NE N)]
def Np (F:KF R):=Kk Tryz.f161 Vr (Zj N) [100000] N F
def B6 (F:KF R):LA→O R:=(fun bc=>F (.tup []) [(100000,(bQ 0 bc))])
def aL (a:Int) (i:LA) (m:Nat) (b:Bool) (q e:Int) (r:LA):St:=⟨[(0,(.optr 100000 0)),(2,(.int .i64 a)),(7,(.int .i64 6)),(100,(.imm i m 3 false b)),(101,(.int .i64 q)),(102,(.int .i64 e))],[(100000,(bQ 0 r))]⟩
def aM (F:KF R):=Np N F [1,1,1,1,1,1,1,1,1,1,1,1,1,0] []
def aN (a:Int) (l:LA) (o:Nat) (b:Bool) (s c d:LA) (f:Nat) (t g:Int) (p:LA):St:=⟨[(0,(.optr 100000 0)),(2,(.int .i64 a)),(4,(.optr 300000 0)),(6,(.optr 300001 0)),(7,(.int .i64 6)),(8,(.own 300002 0 f)),(71,(.imm l o 3 false b)),(72,(.int .i64 t)),(73,(.int .i64 g))],[(100000,(bQ 0 s)),(300000,(bP b 0 c)),(300001,(bP b 0 d)),(300002,(bQ 1 p))]⟩
def aO (F:KF R):=Np N F [1,1,1,1,1,1,1,1,1,0,1,0] []
def aP (a:Int) (b:Bool) (c u d:LA):St:=⟨[(0,(.optr 100000 0)),(2,(.int .i64 a)),(4,(.optr 300000 0)),(6,(.optr 300001 0)),(7,(.int .i64 6))],[(100000,(bQ 0 u)),(300000,(bP b 0 c)),(300001,(bP b 0 d))]⟩
def aQ (F:KF R):=Np N F [1,1,1,1,1,1,1] []
theorem Rk (F:KF R) (a:Int) (i:LA) (m:Nat) (b:Bool):∀ (n:Nat) (q e:Int) (r:LA),Ap (aM N F) n (aL a i m b q e r)=(Dy N (B6 F) a i m b n q e r)
 | 0,_,_,_=>by kernel_rfl
 | n+1,q,e,r=>Eq.trans (by kernel_rfl) (Bs (G4 N (B6 F) a i m b · q e r) (funext fun q=>funext fun e=>funext fun r=>(Rk F a i m b n q e r)):_)
theorem Rl (F:KF R) (a:Int) (l:LA) (o:Nat) (b:Bool) (s c d:LA):∀ (n f:Nat) (t g:Int) (p:LA),Ap (aO N F) n (aN a l o b s c d f t g p)=(Dz N (B6 F) a l o b s c d n f t g p)
 | 0,_,_,_,_=>by kernel_rfl
 | n+1,f,t,g,p=>Eq.trans (by kernel_rfl) (bJ (G5 N (B6 F) a l o b s c d · · f t g p) (funext fun f=>funext fun t=>funext fun g=>funext fun p=>(Rl F a l o b s c d n f t g p)) (funext fun i=>funext fun m=>funext fun q=>funext fun e=>funext fun r=>(Ak ..).trans (Rk N F a i m b N q e r)):_)
theorem NF (F:KF R) (a:Int) (b:Bool) (c:LA):∀ (u d:LA),Bb (aQ N F) (aP a b c u d)=(Ic N (B6 F) a b c u d):=by
 intro u d
 exact Eq.trans (by kernel_rfl) (Bs (Me N (B6 F) a b c · u d) (funext fun l=>funext fun o=>funext fun s=>funext fun f=>funext fun t=>funext fun g=>funext fun p=>(Ak ..).trans (Rl N F a l o b s c d N f t g p)):_)
theorem Vs (c:LA) (b:Bool) (a:Int) (v:LA) (F:KF R):Cn (Zj N) Vr N 161 [(.optr 100000 0),(.pagg c b),(.int .i64 a)] [(100000,(bQ 0 v))] F=(Fs N c b a v (B6 F)):=by
 rw[Uv]
 exact Eq.trans (by kernel_rfl) (Bs (Kf N (B6 F) · c b a v) (funext fun u=>funext fun d=>(As ..).trans (NF N F a b c u d)):_)
def Uw (args:List AV) (h:Am) (k:KF R):O R :=
 match args,h with
 | [(.optr 100000 0),(.pagg c b),(.int .i64 a)],[(100000,⟨false,false,true,false,0,v,false⟩)]=>(Fs N c b a v (B6 k))
 | _,_=>none
theorem Vt:Aq N 161 @Uw:=by
 intro R Q args h k j;unfold Uw;split
 exact A2 (Vs ..) (Vs ..) ⟨E7 N,Dd N,Br N,ke N,trivial⟩
 exact A5
def Vu:=A4 (Vt N)
theorem aR:A1 Tryz.prog 161 (Vu N):=A6 (Vt N) follows
def LO (N:Nat) (r0:Bool→O R) (b:LA) (a:Nat) (d e:Bool) (c:Int) (k0:Int→O R) (f:Int):O R :=
 (cond (decide (f<((a:Nat):Int))) (cond (Ad f a) (Ao .i64 (b.drop ((f.toNat)*1)) fun g=>(cond (g==c) (r0 true) (k0 (wrap .i64 (f+1))))) none) (r0 false))
def Ss (r0:Bool→O R) (b:LA) (a:Nat) (d e:Bool) (c:Int):Nat→Int→O R
 | 0,_=>none
 | n+1,f=>(LO N r0 b a d e c (Ss r0 b a d e c n) f)
def qa (N:Nat) (r0:Bool→O R) (q0:Int→O R) (b:LA) (a:Nat) (d e:Bool) (c:Int):O R :=
 (q0 0)
def LP:=(Ah (fun (N:Nat) (b:LA) (a:Nat) (d e:Bool) (c:Int) (r0:Bool→O R)=>(qa N r0 (fun f=>(Ss N r0 b a d e c N f)) b a d e c))).1
theorem xR (b a d e c r0):(@LP R N b a d e c r0)=(qa N r0 (fun f=>(Ss N r0 b a d e c N f)) b a d e c):=by rw[LP,(Ah _).2]
def Ag1:Hints:={ H:=(hS hL (hS (hS hL (hS (hP [0,1,5] hL) hL)) hL)) }
def A0j (F:KF R):=Kk Tryz.f163 Ag1 [] [] N F
def HG (F:KF R):Bool→O R:=(fun i=>F (.bool i) [])
def A0k (b:LA) (a:Nat) (d e:Bool) (c f:Int):St:=⟨[(0,(.imm b a 1 d e)),(1,(.int .i64 c)),(5,(.int .i64 f))],[]⟩
def A0l (F:KF R):=A0j N F [1,0,1,0] []
theorem kf (F:KF R) (b:LA) (a:Nat) (d e:Bool) (c:Int):∀ (n:Nat) (f:Int),Ap (A0l N F) n (A0k b a d e c f)=(Ss N (HG F) b a d e c n f)
 | 0,_=>by kernel_rfl
 | n+1,f=>Eq.trans (by kernel_rfl) (Bs (LO N (HG F) b a d e c · f) (funext fun f=>(kf F b a d e c n f)):_)
theorem Ag2 (b:LA) (a:Nat) (d e:Bool) (c:Int) (F:KF R):Cn [] Ag1 N 163 [(.imm b a 1 d e),(.int .i64 c)] [] F=(LP N b a d e c (HG F)):=by
 rw[xR]
 exact Eq.trans (by kernel_rfl) (Bs (qa N (HG F) · b a d e c) (funext fun f=>(Ak ..).trans (kf N F b a d e c N f)):_)
def xS (args:List AV) (h:Am) (k:KF R):O R :=
 match args,h with
 | [(.imm b a 1 d e),(.int .i64 c)],[]=>(LP N b a d e c (HG k))
 | _,_=>none
theorem Ag3:Aq N 163 @xS:=by
 intro R Q args h k j;unfold xS;split
 exact A2 (Ag2 ..) (Ag2 ..) trivial
 exact A5
def VF:=A4 (Ag3 N)
theorem mo:A1 Tryz.prog 163 (VF N):=A6 (Ag3 N) follows
def N4 (r0:Nat→LA→O R) (b:Int) (c:Bool) (a:LA) (k0:Nat→Int→LA→O R) (d:Nat) (e:Int) (f:LA):O R :=
 (Ct 12 (a.drop 3) fun s g=>(cond (decide (e<((g:Nat):Int))) (Ct 12 (a.drop 3) fun i l=>(cond (Ad e l) (Ct 1 ((i.drop ((e.toNat)*12)).drop 11) fun m o=>(LP N m o false c b (fun p=>(cond (!p) (cond ((Nat.ble (d+1) 140737488355328)&&(Nat.ble ((d+1)*8) 140737488355328)) (k0 (d+1) (wrap .i64 (e+1)) ((f.take (d*1))++[(.int .i64 e)])) none) (k0 d (wrap .i64 (e+1)) f))))) none)) (r0 d f)))
def Ft (r0:Nat→LA→O R) (b:Int) (c:Bool) (a:LA):Nat→Nat→Int→LA→O R
 | 0,_,_,_=>none
 | n+1,d,e,f=>(N4 N r0 b c a (Ft r0 b c a n) d e f)
def Ux (N:Nat) (r0:Nat→LA→O R) (q0:Nat→Int→LA→O R) (a:LA) (c:Bool) (b:Int):O R :=
 (q0 0 0 [])
def Nj:=(Ah (fun (N:Nat) (a:LA) (c:Bool) (b:Int) (r0:Nat→LA→O R)=>(Ux N r0 (fun d e f=>(Ft N r0 b c a N d e f)) a c b))).1
theorem LQ (a c b r0):(@Nj R N a c b r0)=(Ux N r0 (fun d e f=>(Ft N r0 b c a N d e f)) a c b):=by rw[Nj,(Ah _).2]
def QW:Hints:={ H:=(hS hL (hS hL (hS (hS hL (hS (hP [1,2,5,6] hL) hL)) hL))),nils:=[(4,1),(5,1)],modes:=[(2,1)] }
def ZB:Ek:=[(163,VF N)]
def tQ (F:KF R):=Kk Tryz.f190 QW (ZB N) [] N F
def K5 (F:KF R):Nat→LA→O R:=(fun q r=>F (.own 300000 0 q) [(300000,(bQ 1 r))])
def tR (b:Int) (c:Bool) (a:LA) (d:Nat) (e:Int) (f:LA):St:=⟨[(1,(.int .i64 b)),(2,(.optr 300000 0)),(5,(.own 300001 0 d)),(6,(.int .i64 e))],[(300000,(bP c 0 a)),(300001,(bQ 1 f))]⟩
def tS (F:KF R):=tQ N F [1,1,0,1,0] []
theorem CD (F:KF R) (b:Int) (c:Bool) (a:LA):∀ (n d:Nat) (e:Int) (f:LA),Ap (tS N F) n (tR b c a d e f)=(Ft N (K5 F) b c a n d e f)
 | 0,_,_,_=>by kernel_rfl
 | n+1,d,e,f=>Eq.trans (by kernel_rfl) (Bs (N4 N (K5 F) b c a · d e f) (funext fun d=>funext fun e=>funext fun f=>(CD F b c a n d e f)):_)
theorem QX (a:LA) (c:Bool) (b:Int) (F:KF R):Cn (ZB N) QW N 190 [(.pagg a c),(.int .i64 b)] [] F=(Nj N a c b (K5 F)):=by
 rw[LQ]
 exact Eq.trans (by kernel_rfl) (Bs (Ux N (K5 F) · a c b) (funext fun d=>funext fun e=>funext fun f=>(Ak ..).trans (CD N F b c a N d e f)):_)
def LR (args:List AV) (h:Am) (k:KF R):O R :=
 match args,h with
 | [(.pagg a c),(.int .i64 b)],[]=>(Nj N a c b (K5 k))
 | _,_=>none
theorem QY:Aq N 190 @LR:=by
 intro R Q args h k j;unfold LR;split
 exact A2 (QX ..) (QX ..) ⟨mo N,trivial⟩
 exact A5
def QZ:=A4 (QY N)
theorem tT:A1 Tryz.prog 190 (QZ N):=A6 (QY N) follows
def X3 (N:Nat) (r0:Nat→Nat→LA→LA→O R) (c:Nat) (b:Bool) (a f:LA) (k0:Nat→Int→Int→LA→O R) (d:Nat) (g e:Int) (i:LA):O R :=
 (cond (decide (e<g)) (cond (Ad e c) (Ao .i64 (f.drop (0+((e.toNat)*1))) fun m=>(Ct 12 (a.drop 3) fun o p=>(cond (Ad m p) (Ao .i64 ((o.drop ((m.toNat)*12)).drop 1) fun q=>(Ct 12 (a.drop 3) fun r s=>(cond (Ad m s) (Ao .i64 ((r.drop ((m.toNat)*12)).drop 2) fun t=>(cond ((Nat.ble (d+1) 140737488355328)&&(Nat.ble ((d+1)*16) 140737488355328)) (k0 (d+1) g (wrap .i64 (e+1)) ((i.take (d*2))++[(.int .i64 q),(.int .i64 t)])) none)) none))) none))) none) (r0 d c i f))
def Mf (r0:Nat→Nat→LA→LA→O R) (c:Nat) (b:Bool) (a f:LA):Nat→Nat→Int→Int→LA→O R
 | 0,_,_,_,_=>none
 | n+1,d,g,e,i=>(X3 N r0 c b a f (Mf r0 c b a f n) d g e i)
def VG (r0:Nat→Nat→LA→LA→O R) (q0:Nat→LA→Nat→Int→Int→LA→O R) (a:LA) (b:Bool) (l:Int):O R :=
 (cond (Nat.ble 8 (a.length)) (Nj N (a.take 8) b l (fun c f=>(q0 c f 0 ((c:Nat):Int) 0 []))) none)
def ED:=(Ah (fun (N:Nat) (a:LA) (b:Bool) (l:Int) (r0:Nat→Nat→LA→LA→O R)=>(VG N r0 (fun c f d g e i=>(Mf N r0 c b a f N d g e i)) a b l))).1
theorem kg (a b l r0):(@ED R N a b l r0)=(VG N r0 (fun c f d g e i=>(Mf N r0 c b a f N d g e i)) a b l):=by rw[ED,(Ah _).2]
def qb:Hints:={ H:=(hS hL (hS hL (hS hL (hS (hS hL (hS (hP [2,6,7,13,14,15] hL) hL)) hL)))),nils:=[(4,2),(5,1),(7,2)],modes:=[(2,2),(2,1)] }
def xT:Ek:=[(190,QZ N)]
def Arm (F:KF R):=Kk Tryz.f162 qb (xT N) [] N F
def Uy (F:KF R):Nat→Nat→LA→LA→O R:=(fun u v w x=>F (.tup [(.own 300000 0 u),(.own 300001 0 v)]) [(300000,(bQ 2 w)),(300001,(bQ 1 x))])
def Arn (c:Nat) (b:Bool) (a f:LA) (d:Nat) (g e:Int) (i:LA):St:=⟨[(2,(.optr 300000 0)),(6,(.own 300001 0 c)),(7,(.own 300002 0 d)),(13,(.own 300001 0 c)),(14,(.int .i64 g)),(15,(.int .i64 e))],[(300000,(bP b 0 a)),(300001,(bQ 1 f)),(300002,(bQ 2 i))]⟩
def Aro (F:KF R):=Arm N F [1,1,1,0,1,0] []
theorem ZC (F:KF R) (c:Nat) (b:Bool) (a f:LA):∀ (n d:Nat) (g e:Int) (i:LA),Ap (Aro N F) n (Arn c b a f d g e i)=(Mf N (Uy F) c b a f n d g e i)
 | 0,_,_,_,_=>by kernel_rfl
 | n+1,d,g,e,i=>Eq.trans (by kernel_rfl) (Bs (X3 N (Uy F) c b a f · d g e i) (funext fun d=>funext fun g=>funext fun e=>funext fun i=>(ZC F c b a f n d g e i)):_)
theorem qc (a:LA) (b:Bool) (l:Int) (F:KF R):Cn (xT N) qb N 162 [(.pagg a b),(.int .i64 l)] [] F=(ED N a b l (Uy F)):=by
 rw[kg]
 exact Eq.trans (by kernel_rfl) (Bs (VG N (Uy F) · a b l) (funext fun c=>funext fun f=>funext fun d=>funext fun g=>funext fun e=>funext fun i=>(Ak ..).trans (ZC N F c b a f N d g e i)):_)
def ki (args:List AV) (h:Am) (k:KF R):O R :=
 match args,h with
 | [(.pagg a b),(.int .i64 l)],[]=>(ED N a b l (Uy k))
 | _,_=>none
theorem qd:Aq N 162 @ki:=by
 intro R Q args h k j;unfold ki;split
 exact A2 (qc ..) (qc ..) ⟨tT N,trivial⟩
 exact A5
def qe:=A4 (qd N)
theorem Arp:A1 Tryz.prog 162 (qe N):=A6 (qd N) follows
def R3 (N:Nat) (k1:Bool→LA→O R) (r0:Nat→LA→O R) (a:LA) (c:Nat) (e d:Bool) (b:Nat) (k2:Bool→Int→Int→LA→O R) (r:Bool) (o f:Int) (i:LA):O R :=
 (cond (decide (f<o)) (cond (Ad f c) (cond (Nat.ble 2 ((a.drop ((f.toNat)*2)).length)) (cond ((!d)||(Bd ((a.drop ((f.toNat)*2)).take 2))) (cond ((Nat.beq (((a.drop ((f.toNat)*2)).take 2).length) 2)&&((Nat.ble 2 2)&&(!false))) (Ao .i64 (setCells [(.int .i64 0),(.int .i64 0)] 0 ((a.drop ((f.toNat)*2)).take 2)) fun aa=>(cond (Ad aa b) (Ao .i64 (i.drop (0+((aa.toNat)*1))) fun s=>(Ao .i64 ((setCells [(.int .i64 0),(.int .i64 0)] 0 ((a.drop ((f.toNat)*2)).take 2)).drop 1) fun ab=>(cond (Ad ab b) (Ao .i64 (i.drop (0+((ab.toNat)*1))) fun t=>(cond (r==false) (Ao .i64 (setCells [(.int .i64 0),(.int .i64 0)] 0 ((a.drop ((f.toNat)*2)).take 2)) fun ac=>(cond (Ad ac b) (Ao .i64 (i.drop (0+((ac.toNat)*1))) fun ae=>(cond ((cond false true (ae != (Bv s t)))==false) (Ao .i64 ((setCells [(.int .i64 0),(.int .i64 0)] 0 ((a.drop ((f.toNat)*2)).take 2)).drop 1) fun ad=>(cond (Ad ad b) (Ao .i64 (i.drop (0+((ad.toNat)*1))) fun af=>(Ao .i64 (setCells [(.int .i64 0),(.int .i64 0)] 0 ((a.drop ((f.toNat)*2)).take 2)) fun u=>(Ao .i64 ((setCells [(.int .i64 0),(.int .i64 0)] 0 ((a.drop ((f.toNat)*2)).take 2)).drop 1) fun x=>(cond (Ad u b) (cond ((Nat.beq 1 1)&&((Nat.ble ((0+((u.toNat)*1))+1) (i.length))&&(!false))) (cond (Ad x b) (cond ((Nat.beq 1 1)&&((Nat.ble ((0+((x.toNat)*1))+1) ((i.set (0+((u.toNat)*1)) (.int .i64 (Bv s t))).length))&&(!false))) (k2 (cond false true (af != (Bv s t))) o (wrap .i64 (f+1)) ((i.set (0+((u.toNat)*1)) (.int .i64 (Bv s t))).set (0+((x.toNat)*1)) (.int .i64 (Bv s t)))) none) none) none) none)))) none)) (Ao .i64 (setCells [(.int .i64 0),(.int .i64 0)] 0 ((a.drop ((f.toNat)*2)).take 2)) fun v=>(Ao .i64 ((setCells [(.int .i64 0),(.int .i64 0)] 0 ((a.drop ((f.toNat)*2)).take 2)).drop 1) fun y=>(cond (Ad v b) (cond ((Nat.beq 1 1)&&((Nat.ble ((0+((v.toNat)*1))+1) (i.length))&&(!false))) (cond (Ad y b) (cond ((Nat.beq 1 1)&&((Nat.ble ((0+((y.toNat)*1))+1) ((i.set (0+((v.toNat)*1)) (.int .i64 (Bv s t))).length))&&(!false))) (k2 true o (wrap .i64 (f+1)) ((i.set (0+((v.toNat)*1)) (.int .i64 (Bv s t))).set (0+((y.toNat)*1)) (.int .i64 (Bv s t)))) none) none) none) none))))) none)) (Ao .i64 (setCells [(.int .i64 0),(.int .i64 0)] 0 ((a.drop ((f.toNat)*2)).take 2)) fun w=>(Ao .i64 ((setCells [(.int .i64 0),(.int .i64 0)] 0 ((a.drop ((f.toNat)*2)).take 2)).drop 1) fun z=>(cond (Ad w b) (cond ((Nat.beq 1 1)&&((Nat.ble ((0+((w.toNat)*1))+1) (i.length))&&(!false))) (cond (Ad z b) (cond ((Nat.beq 1 1)&&((Nat.ble ((0+((z.toNat)*1))+1) ((i.set (0+((w.toNat)*1)) (.int .i64 (Bv s t))).length))&&(!false))) (k2 true o (wrap .i64 (f+1)) ((i.set (0+((w.toNat)*1)) (.int .i64 (Bv s t))).set (0+((z.toNat)*1)) (.int .i64 (Bv s t)))) none) none) none) none))))) none))) none)) none) none) none) none) (k1 r i))
def H5 (k1:Bool→LA→O R) (r0:Nat→LA→O R) (a:LA) (c:Nat) (e d:Bool) (b:Nat):Nat→Bool→Int→Int→LA→O R
 | 0,_,_,_,_=>none
 | n+1,r,o,f,i=>(R3 N k1 r0 a c e d b (H5 k1 r0 a c e d b n) r o f i)
def R4 (N:Nat) (r0:Nat→LA→O R) (a:LA) (c:Nat) (e d:Bool) (b:Nat) (k1:Bool→LA→O R) (q2:Bool→Int→Int→LA→O R) (p:Bool) (m:LA):O R :=
 (cond p (q2 false ((c:Nat):Int) 0 m) (r0 b m))
def Df (r0:Nat→LA→O R) (a:LA) (c:Nat) (e d:Bool) (b:Nat):Nat→Bool→LA→O R
 | 0,_,_=>none
 | n+1,p,m=>(R4 N r0 a c e d b (Df r0 a c e d b n) (fun r o f i=>(H5 N (Df r0 a c e d b n) r0 a c e d b N r o f i)) p m)
def R5 (N:Nat) (r0:Nat→LA→O R) (g:Int) (a:LA) (c:Nat) (e d:Bool) (k0:Nat→Int→LA→O R) (q1:Bool→LA→O R) (b:Nat) (l:Int) (q:LA):O R :=
 (cond (decide (l<g)) (cond (Ad l b) (cond ((Nat.beq 1 1)&&((Nat.ble ((0+((l.toNat)*1))+1) (q.length))&&(!false))) (k0 b (wrap .i64 (l+1)) (q.set (0+((l.toNat)*1)) (.int .i64 l))) none) none) (q1 true q))
def H6 (r0:Nat→LA→O R) (g:Int) (a:LA) (c:Nat) (e d:Bool):Nat→Nat→Int→LA→O R
 | 0,_,_,_=>none
 | n+1,b,l,q=>(R5 N r0 g a c e d (H6 r0 g a c e d n) (fun p m=>(Df N r0 a c e d b N p m)) b l q)
def DH (N:Nat) (r0:Nat→LA→O R) (q0:Nat→Int→LA→O R) (g:Int) (a:LA) (c:Nat) (e d:Bool):O R :=
 (cond ((decide (0≤g))&&((decide (g≤g))&&((decide (g≤140737488355328))&&(decide ((g*((8:Nat):Int))≤140737488355328))))) (q0 (g.toNat) 0 (List.replicate (g.toNat) (.int .i64 0))) none)
def Pc:=(Ah (fun (N:Nat) (g:Int) (a:LA) (c:Nat) (e d:Bool) (r0:Nat→LA→O R)=>(DH N r0 (fun b l q=>(H6 N r0 g a c e d N b l q)) g a c e d))).1
theorem ZD (g a c e d r0):(@Pc R N g a c e d r0)=(DH N r0 (fun b l q=>(H6 N r0 g a c e d N b l q)) g a c e d):=by rw[Pc,(Ah _).2]
def ez:Hints:={ H:=(hS hL (hS hL (hS (hS hL (hS (hP [0,1,5,6] hL) hL)) (hS (hS hL (hS (hP [1,5,7] (hS hL (hS (hS hL (hS hL (hS (hP [1,5,7,23,24,25] hL) hL))) hL))) hL)) hL)))),nils:=[(4,1)],modes:=[(2,1)] }
def HH (F:KF R):=Kk Tryz.f192 ez [] [] N F
def D5 (F:KF R):Nat→LA→O R:=(fun ag ah=>F (.own 300000 0 ag) [(300000,(bQ 1 ah))])
def Ag4 (a:LA) (c:Nat) (e d:Bool) (b:Nat) (r:Bool) (o f:Int) (i:LA):St:=⟨[(1,(.imm a c 2 e d)),(5,(.own 300000 0 b)),(7,(.bool r)),(23,(.imm a c 2 e d)),(24,(.int .i64 o)),(25,(.int .i64 f))],[(300000,(bQ 1 i))]⟩
def Ag5 (F:KF R) (Q1:St→O R):=HH N F [1,1,1,0,1,0,0,1,0,1,1,0] [Q1]
def HI (a:LA) (c:Nat) (e d:Bool) (b:Nat) (p:Bool) (m:LA):St:=⟨[(1,(.imm a c 2 e d)),(5,(.own 300000 0 b)),(7,(.bool p))],[(300000,(bQ 1 m))]⟩
def fA (F:KF R):=HH N F [1,1,1,0,1,0] []
def Ag6 (g:Int) (a:LA) (c:Nat) (e d:Bool) (b:Nat) (l:Int) (q:LA):St:=⟨[(0,(.int .i64 g)),(1,(.imm a c 2 e d)),(5,(.own 300000 0 b)),(6,(.int .i64 l))],[(300000,(bQ 1 q))]⟩
def Ag7 (F:KF R):=HH N F [1,1,0,1,0] []
theorem LT (Q1:St→O R) (F:KF R) (a:LA) (c:Nat) (e d:Bool) (b:Nat):∀ (n:Nat) (r:Bool) (o f:Int) (i:LA),Ap (Ag5 N F Q1) n (Ag4 a c e d b r o f i)=(H5 N (fun p m=>Q1 (HI a c e d b p m)) (D5 F) a c e d b n r o f i)
 | 0,_,_,_,_=>by kernel_rfl
 | n+1,r,o,f,i=>Eq.trans (by kernel_rfl) (Bs (R3 N (fun p m=>Q1 (HI a c e d b p m)) (D5 F) a c e d b · r o f i) (funext fun r=>funext fun o=>funext fun f=>funext fun i=>(LT Q1 F a c e d b n r o f i)):_)
theorem LU (F:KF R) (a:LA) (c:Nat) (e d:Bool) (b:Nat):∀ (n:Nat) (p:Bool) (m:LA),Ap (fA N F) n (HI a c e d b p m)=(Df N (D5 F) a c e d b n p m)
 | 0,_,_=>by kernel_rfl
 | n+1,p,m=>have e0:=(funext fun p=>funext fun m=>(LU F a c e d b n p m))
  Eq.trans (by kernel_rfl) (bJ (R4 N (D5 F) a c e d b · · p m) e0 (funext fun r=>funext fun o=>funext fun f=>funext fun i=>(Ak ..).trans ((LT N (Ap (fA N F) n) F a c e d b N r o f i).trans (Bs (H5 N · (D5 F) a c e d b N r o f i) e0))):_)
theorem LV (F:KF R) (g:Int) (a:LA) (c:Nat) (e d:Bool):∀ (n b:Nat) (l:Int) (q:LA),Ap (Ag7 N F) n (Ag6 g a c e d b l q)=(H6 N (D5 F) g a c e d n b l q)
 | 0,_,_,_=>by kernel_rfl
 | n+1,b,l,q=>Eq.trans (by kernel_rfl) (bJ (R5 N (D5 F) g a c e d · · b l q) (funext fun b=>funext fun l=>funext fun q=>(LV F g a c e d n b l q)) (funext fun p=>funext fun m=>(Ak ..).trans (LU N F a c e d b N p m)):_)
theorem fB (g:Int) (a:LA) (c:Nat) (e d:Bool) (F:KF R):Cn [] ez N 192 [(.int .i64 g),(.imm a c 2 e d)] [] F=(Pc N g a c e d (D5 F)):=by
 rw[ZD]
 exact Eq.trans (by kernel_rfl) (Bs (DH N (D5 F) · g a c e d) (funext fun b=>funext fun l=>funext fun q=>(Ak ..).trans (LV N F g a c e d N b l q)):_)
def ZE (args:List AV) (h:Am) (k:KF R):O R :=
 match args,h with
 | [(.int .i64 g),(.imm a c 2 e d)],[]=>(Pc N g a c e d (D5 k))
 | _,_=>none
theorem fC:Aq N 192 @ZE:=by
 intro R Q args h k j;unfold ZE;split
 exact A2 (fB ..) (fB ..) trivial
 exact A5
def fD:=A4 (fC N)
theorem Ag8:A1 Tryz.prog 192 (fD N):=A6 (fC N) follows
def X4 (N:Nat) (r0:Int→O R) (b:LA) (a:Nat) (c d:Bool) (k0:Int→Int→O R) (f e:Int):O R :=
 (cond (decide (e<((a:Nat):Int))) (cond (Ad e a) (Ao .i64 (b.drop ((e.toNat)*1)) fun g=>(cond (g==e) (k0 (wrap .i64 (f+1)) (wrap .i64 (e+1))) (k0 f (wrap .i64 (e+1))))) none) (r0 f))
def Mg (r0:Int→O R) (b:LA) (a:Nat) (c d:Bool):Nat→Int→Int→O R
 | 0,_,_=>none
 | n+1,f,e=>(X4 N r0 b a c d (Mg r0 b a c d n) f e)
def VH (N:Nat) (r0:Int→O R) (q0:Int→Int→O R) (b:LA) (a:Nat) (c d:Bool):O R :=
 (q0 0 0)
def Wx:=(Ah (fun (N:Nat) (b:LA) (a:Nat) (c d:Bool) (r0:Int→O R)=>(VH N r0 (fun f e=>(Mg N r0 b a c d N f e)) b a c d))).1
theorem kj (b a c d r0):(@Wx R N b a c d r0)=(VH N r0 (fun f e=>(Mg N r0 b a c d N f e)) b a c d):=by rw[Wx,(Ah _).2]
def qf:Hints:={ H:=(hS hL (hS hL (hS (hS hL (hS (hP [0,3,4] hL) hL)) hL))) }
def Arq (F:KF R):=Kk Tryz.f191 qf [] [] N F
def Uz (F:KF R):Int→O R:=(fun i=>F (.int .i64 i) [])
def Arr (b:LA) (a:Nat) (c d:Bool) (f e:Int):St:=⟨[(0,(.imm b a 1 c d)),(3,(.int .i64 f)),(4,(.int .i64 e))],[]⟩
def Ars (F:KF R):=Arq N F [1,1,0,1,0] []
theorem ZF (F:KF R) (b:LA) (a:Nat) (c d:Bool):∀ (n:Nat) (f e:Int),Ap (Ars N F) n (Arr b a c d f e)=(Mg N (Uz F) b a c d n f e)
 | 0,_,_=>by kernel_rfl
 | n+1,f,e=>Eq.trans (by kernel_rfl) (Bs (X4 N (Uz F) b a c d · f e) (funext fun f=>funext fun e=>(ZF F b a c d n f e)):_)
theorem qg (b:LA) (a:Nat) (c d:Bool) (F:KF R):Cn [] qf N 191 [(.imm b a 1 c d)] [] F=(Wx N b a c d (Uz F)):=by
 rw[kj]
 exact Eq.trans (by kernel_rfl) (Bs (VH N (Uz F) · b a c d) (funext fun f=>funext fun e=>(Ak ..).trans (ZF N F b a c d N f e)):_)
def ko (args:List AV) (h:Am) (k:KF R):O R :=
 match args,h with
 | [(.imm b a 1 c d)],[]=>(Wx N b a c d (Uz k))
 | _,_=>none
theorem qk:Aq N 191 @ko:=by
 intro R Q args h k j;unfold ko;split
 exact A2 (qg ..) (qg ..) trivial
 exact A5
def qn:=A4 (qk N)
theorem Art:A1 Tryz.prog 191 (qn N):=A6 (qk N) follows
def N5 (r0:Bool→O R) (c:Int) (a:LA) (b:Nat) (l d:Bool) (e:LA) (f:Nat) (m g:Bool) (k0:Nat→Int→LA→O R) (o:Nat) (i:Int) (p:LA):O R :=
 (cond (decide (i<((b:Nat):Int))) (LP N e f false g i (fun s=>(cond (!s) (cond (Ad i b) (cond (Nat.ble 2 ((a.drop ((i.toNat)*2)).length)) (cond ((!d)||(Bd ((a.drop ((i.toNat)*2)).take 2))) (cond ((Nat.beq (((a.drop ((i.toNat)*2)).take 2).length) 2)&&(Nat.ble 2 2)) (cond ((Nat.ble (o+1) 140737488355328)&&(Nat.ble ((o+1)*16) 140737488355328)) (k0 (o+1) (wrap .i64 (i+1)) ((p.take (o*2))++((setCells [(.int .i64 0),(.int .i64 0)] 0 ((a.drop ((i.toNat)*2)).take 2)).take 2))) none) none) none) none) none) (k0 o (wrap .i64 (i+1)) p)))) (Pc N c (p.take (o*2)) o false true (fun q t=>(Wx N (t.take (q*1)) q false true (fun u=>(Pc N c a b false d (fun r v=>(Wx N (v.take (r*1)) r false true (fun w=>(r0 (decide (u>w))))))))))))
def Fu (r0:Bool→O R) (c:Int) (a:LA) (b:Nat) (l d:Bool) (e:LA) (f:Nat) (m g:Bool):Nat→Nat→Int→LA→O R
 | 0,_,_,_=>none
 | n+1,o,i,p=>(N5 N r0 c a b l d e f m g (Fu r0 c a b l d e f m g n) o i p)
def U0 (N:Nat) (r0:Bool→O R) (q0:Nat→Int→LA→O R) (c:Int) (a:LA) (b:Nat) (l d:Bool) (e:LA) (f:Nat) (m g:Bool):O R :=
 (q0 0 0 [])
def Nk:=(Ah (fun (N:Nat) (c:Int) (a:LA) (b:Nat) (l d:Bool) (e:LA) (f:Nat) (m g:Bool) (r0:Bool→O R)=>(U0 N r0 (fun o i p=>(Fu N r0 c a b l d e f m g N o i p)) c a b l d e f m g))).1
theorem LW (c a b l d e f m g r0):(@Nk R N c a b l d e f m g r0)=(U0 N r0 (fun o i p=>(Fu N r0 c a b l d e f m g N o i p)) c a b l d e f m g):=by rw[Nk,(Ah _).2]
def Q_:Hints:={ H:=(hS hL (hS hL (hS (hS hL (hS (hP [0,1,2,7,8] hL) hL)) hL))),nils:=[(7,2)] }
def ZG:Ek:=[(163,VF N),(192,fD N),(191,qn N)]
def tU (F:KF R):=Kk Tryz.f164 Q_ (ZG N) [] N F
def K6 (F:KF R):Bool→O R:=(fun x=>F (.bool x) [])
def tV (c:Int) (a:LA) (b:Nat) (l d:Bool) (e:LA) (f:Nat) (m g:Bool) (o:Nat) (i:Int) (p:LA):St:=⟨[(0,(.int .i64 c)),(1,(.imm a b 2 l d)),(2,(.imm e f 1 m g)),(7,(.own 300000 0 o)),(8,(.int .i64 i))],[(300000,(bQ 2 p))]⟩
def tW (F:KF R):=tU N F [1,1,0,1,0] []
theorem CE (F:KF R) (c:Int) (a:LA) (b:Nat) (l d:Bool) (e:LA) (f:Nat) (m g:Bool):∀ (n o:Nat) (i:Int) (p:LA),Ap (tW N F) n (tV c a b l d e f m g o i p)=(Fu N (K6 F) c a b l d e f m g n o i p)
 | 0,_,_,_=>by kernel_rfl
 | n+1,o,i,p=>Eq.trans (by kernel_rfl) (Bs (N5 N (K6 F) c a b l d e f m g · o i p) (funext fun o=>funext fun i=>funext fun p=>(CE F c a b l d e f m g n o i p)):_)
theorem Q' (c:Int) (a:LA) (b:Nat) (l d:Bool) (e:LA) (f:Nat) (m g:Bool) (F:KF R):Cn (ZG N) Q_ N 164 [(.int .i64 c),(.imm a b 2 l d),(.imm e f 1 m g)] [] F=(Nk N c a b l d e f m g (K6 F)):=by
 rw[LW]
 exact Eq.trans (by kernel_rfl) (Bs (U0 N (K6 F) · c a b l d e f m g) (funext fun o=>funext fun i=>funext fun p=>(Ak ..).trans (CE N F c a b l d e f m g N o i p)):_)
def LX (args:List AV) (h:Am) (k:KF R):O R :=
 match args,h with
 | [(.int .i64 c),(.imm a b 2 l d),(.imm e f 1 m g)],[]=>(Nk N c a b l d e f m g (K6 k))
 | _,_=>none
theorem RA:Aq N 164 @LX:=by
 intro R Q args h k j;unfold LX;split
 exact A2 (Q' ..) (Q' ..) ⟨mo N,Ag8 N,Art N,trivial⟩
 exact A5
def RB:=A4 (RA N)
theorem tX:A1 Tryz.prog 164 (RB N):=A6 (RA N) follows
end
end Gx

namespace Gx
open Go Go.Proofs
open IntKind (wrap)
set_option maxRecDepth 100000
noncomputable section
variable {R:Type} (N:Nat)
def U4 (k0:Int→LA→O R) (r0:LA→Int→O R) (b:Bool) (a:LA) (v:Int) (ak:LA):O R :=
 (cond (Nat.ble 8 (a.length)) (Cj N (a.take 8) b 1 v ak (fun al=>(cond (Nat.ble 8 (a.length)) (Ct 3 (a.drop 2) fun am an=>(cond (Ad v an) (Ct 1 ((am.drop ((v.toNat)*3)).drop 1) fun ao ap=>(Cc N (a.take 8) b ao ap false b 0 1048576 1 v 1 al (fun aq=>(Ct 3 (a.drop 2) fun ar au=>(cond (Ad v au) (Ao .i64 ((ar.drop ((v.toNat)*3)).drop 2) fun av=>(Aw N 0 1048576 [(.int .i64 av)] 1 false true (fun aw=>(Ab N aw 1 v 2 3 aq (fun ax=>(k0 (wrap .i64 (v+1)) ax)))))) none))))) none)) none))) none)
def U5 (k7:Int→LA→O R) (k9:Int→Int→LA→O R) (r0:LA→Int→O R) (d e:Nat) (b:Bool) (a f g:LA) (k10:Int→Int→Nat→Int→LA→LA→O R) (u o:Int) (l:Nat) (p:Int) (w x:LA):O R :=
 (cond (decide (p<((e:Nat):Int))) (Ct 4 (a.drop 7) fun ay az=>(cond (Ad o az) (Ct 1 ((ay.drop ((o.toNat)*4)).drop 1) fun ba bb=>(cond (Ad p e) (Ao .i64 (g.drop (0+((p.toNat)*1))) fun bc=>(LP N ba bb false b bc (fun bd=>(cond bd (cond ((Nat.ble (l+1) 140737488355328)&&(Nat.ble ((l+1)*8) 140737488355328)) (k10 u o (l+1) (wrap .i64 (p+1)) w ((x.take (l*1))++[(.int .i64 p)])) none) (k10 u o l (wrap .i64 (p+1)) w x))))) none)) none)) (Ct 3 (a.drop 2) fun ch be=>(Nk N ((be:Nat):Int) (f.take (d*2)) d false true (x.take (l*1)) l false true (fun bf=>(Ab N (!bf) 6 o u 13 w (fun bg=>(k9 u (wrap .i64 (o+1)) bg)))))))
def Jz (k7:Int→LA→O R) (k9:Int→Int→LA→O R) (r0:LA→Int→O R) (d e:Nat) (b:Bool) (a f g:LA):Nat→Int→Int→Nat→Int→LA→LA→O R
 | 0,_,_,_,_,_,_=>none
 | n+1,u,o,l,p,w,x=>(U5 N k7 k9 r0 d e b a f g (Jz k7 k9 r0 d e b a f g n) u o l p w x)
def X5 (N:Nat) (k7:Int→LA→O R) (r0:LA→Int→O R) (d e:Nat) (b:Bool) (a f g:LA) (k9:Int→Int→LA→O R) (q10:Int→Int→Nat→Int→LA→LA→O R) (q r:Int) (s:LA):O R :=
 (Ct 4 (a.drop 7) fun ci bh=>(cond (decide (r<((bh:Nat):Int))) (q10 q r 0 0 s []) (k7 (wrap .i64 (q+1)) s)))
def Jf (k7:Int→LA→O R) (r0:LA→Int→O R) (d e:Nat) (b:Bool) (a f g:LA):Nat→Int→Int→LA→O R
 | 0,_,_,_=>none
 | n+1,q,r,s=>(X5 N k7 r0 d e b a f g (Jf k7 r0 d e b a f g n) (fun u o l p w x=>(Jz N k7 (Jf k7 r0 d e b a f g n) r0 d e b a f g N u o l p w x)) q r s)
def NG (k7:Int→LA→O R) (r0:LA→Int→O R) (b:Bool) (a:LA) (q9:Nat→Nat→LA→LA→Int→Int→LA→O R) (ai:Int) (aj:LA):O R :=
 (cond (Nat.ble 8 (a.length)) (ED N (a.take 8) b ai (fun d e f g=>(q9 d e f g ai 0 aj))) none)
def DI (k7:Int→LA→O R) (r0:LA→Int→O R) (b:Bool) (a:LA) (ai:Int) (aj:LA):O R:=(NG N k7 r0 b a (fun d e f g q r s=>(Jf N k7 r0 d e b a f g N q r s)) ai aj)
def Rm (N:Nat) (r0:LA→Int→O R) (b:Bool) (a:LA) (k7:Int→LA→O R) (q8:Int→LA→O R) (i:Int) (c:LA):O R :=
 (Ao .i64 a fun bi=>(cond ((decide (i<bi))==true) (Ao .i64 (c.drop 3) fun bj=>(cond (cond true (bj==0) false) (q8 i c) (cond (Nat.ble 3 (c.length)) (Ao .i64 (c.drop 3) fun bk=>(cond ((Nat.beq ((c.take 3).length) 3)&&((Nat.ble 3 3)&&(!false))) (cond (Nat.ble 3 ((setCells [(.int .i64 0),(.int .i64 0),(.int .i64 0)] 0 (c.take 3)).length)) (r0 ((setCells [(.int .i64 0),(.int .i64 0),(.int .i64 0)] 0 (c.take 3)).take 3) bk) none) none)) none))) (cond (Nat.ble 3 (c.length)) (Ao .i64 (c.drop 3) fun bl=>(cond ((Nat.beq ((c.take 3).length) 3)&&((Nat.ble 3 3)&&(!false))) (cond (Nat.ble 3 ((setCells [(.int .i64 0),(.int .i64 0),(.int .i64 0)] 0 (c.take 3)).length)) (r0 ((setCells [(.int .i64 0),(.int .i64 0),(.int .i64 0)] 0 (c.take 3)).take 3) bl) none) none)) none)))
def D6 (r0:LA→Int→O R) (b:Bool) (a:LA):Nat→Int→LA→O R
 | 0,_,_=>none
 | n+1,i,c=>(Rm N r0 b a (D6 r0 b a n) (fun ai aj=>(DI N (D6 r0 b a n) r0 b a ai aj)) i c)
def X6 (r0:LA→Int→O R) (b:Bool) (a:LA) (k6:Int→LA→O R) (q7:Int→LA→O R) (ad:Int) (y:LA):O R :=
 (Ct 4 (a.drop 7) fun cj bm=>(cond ((decide (ad<((bm:Nat):Int)))==true) (Ao .i64 (y.drop 3) fun bn=>(cond (cond true (bn==0) false) (cond (Nat.ble 8 (a.length)) (Fs N (a.take 8) b ad y (fun bo=>(k6 (wrap .i64 (ad+1)) bo))) none) (q7 0 y))) (q7 0 y)))
def Mh (r0:LA→Int→O R) (b:Bool) (a:LA):Nat→Int→LA→O R
 | 0,_,_=>none
 | n+1,ad,y=>(X6 N r0 b a (Mh r0 b a n) (fun i c=>(D6 N r0 b a N i c)) ad y)
def X7 (r0:LA→Int→O R) (b:Bool) (a:LA) (k5:Int→LA→O R) (q6:Int→LA→O R) (ae:Int) (z:LA):O R :=
 (Ct 5 (a.drop 6) fun ck bp=>(cond ((decide (ae<((bp:Nat):Int)))==true) (Ao .i64 (z.drop 3) fun bq=>(cond (cond true (bq==0) false) (cond (Nat.ble 8 (a.length)) (Iz N (a.take 8) b ae z (fun br=>(k5 (wrap .i64 (ae+1)) br))) none) (q6 0 z))) (q6 0 z)))
def Mi (r0:LA→Int→O R) (b:Bool) (a:LA):Nat→Int→LA→O R
 | 0,_,_=>none
 | n+1,ae,z=>(X7 N r0 b a (Mi r0 b a n) (fun ad y=>(Mh N r0 b a N ad y)) ae z)
def X8 (r0:LA→Int→O R) (b:Bool) (a:LA) (k4:Int→LA→O R) (q5:Int→LA→O R) (af:Int) (aa:LA):O R :=
 (Ct 9 (a.drop 5) fun cl bs=>(cond ((decide (af<((bs:Nat):Int)))==true) (Ao .i64 (aa.drop 3) fun bt=>(cond (cond true (bt==0) false) (cond (Nat.ble 8 (a.length)) (Gj N (a.take 8) b af aa (fun bu=>(k4 (wrap .i64 (af+1)) bu))) none) (q5 0 aa))) (q5 0 aa)))
def Mj (r0:LA→Int→O R) (b:Bool) (a:LA):Nat→Int→LA→O R
 | 0,_,_=>none
 | n+1,af,aa=>(X8 N r0 b a (Mj r0 b a n) (fun ae z=>(Mi N r0 b a N ae z)) af aa)
def X9 (r0:LA→Int→O R) (b:Bool) (a:LA) (k3:Int→LA→O R) (q4:Int→LA→O R) (ag:Int) (ab:LA):O R :=
 (Ct 22 (a.drop 4) fun cm bv=>(cond ((decide (ag<((bv:Nat):Int)))==true) (Ao .i64 (ab.drop 3) fun bw=>(cond (cond true (bw==0) false) (cond (Nat.ble 8 (a.length)) (Hk N (a.take 8) b ag ab (fun bx=>(k3 (wrap .i64 (ag+1)) bx))) none) (q4 0 ab))) (q4 0 ab)))
def Mk (r0:LA→Int→O R) (b:Bool) (a:LA):Nat→Int→LA→O R
 | 0,_,_=>none
 | n+1,ag,ab=>(X9 N r0 b a (Mk r0 b a n) (fun af aa=>(Mj N r0 b a N af aa)) ag ab)
def Ya (r0:LA→Int→O R) (b:Bool) (a:LA) (k2:Int→LA→O R) (q3:Int→LA→O R) (ah:Int) (ac:LA):O R :=
 (Ct 12 (a.drop 3) fun cn bz=>(cond ((decide (ah<((bz:Nat):Int)))==true) (Ao .i64 (ac.drop 3) fun ca=>(cond (cond true (ca==0) false) (cond (Nat.ble 8 (a.length)) (Hj N (a.take 8) b ah ac (fun cb=>(k2 (wrap .i64 (ah+1)) cb))) none) (q3 0 ac))) (q3 0 ac)))
def Ml (r0:LA→Int→O R) (b:Bool) (a:LA):Nat→Int→LA→O R
 | 0,_,_=>none
 | n+1,ah,ac=>(Ya N r0 b a (Ml r0 b a n) (fun ag ab=>(Mk N r0 b a N ag ab)) ah ac)
def Yb (N:Nat) (r0:LA→Int→O R) (b:Bool) (a:LA) (k0:Int→LA→O R) (q1:Int→LA→O R) (q2:Int→LA→O R) (t:Int) (m:LA):O R :=
 (Ct 3 (a.drop 2) fun co cc=>(cond ((decide (t<((cc:Nat):Int)))==true) (Ao .i64 (m.drop 3) fun cd=>(cond (cond true (cd==0) false) (q1 t m) (q2 0 m))) (q2 0 m)))
def Jg (r0:LA→Int→O R) (b:Bool) (a:LA):Nat→Int→LA→O R
 | 0,_,_=>none
 | n+1,t,m=>(Yb N r0 b a (Jg r0 b a n) (fun v ak=>(U4 N (Jg r0 b a n) r0 b a v ak)) (fun ah ac=>(Ml N r0 b a N ah ac)) t m)
def VI (r0:LA→Int→O R) (q0:Int→LA→O R) (a:LA) (b:Bool):O R :=
 (cond (Nat.ble 8 (a.length)) (Gi N (a.take 8) b [(.int .i64 0),(.int .i64 0),(.int .i64 0),(.int .i64 0)] (fun ce=>(q0 0 ce))) none)
def EE:=(Ah (fun (N:Nat) (a:LA) (b:Bool) (r0:LA→Int→O R)=>(VI N r0 (fun t m=>(Jg N r0 b a N t m)) a b))).1
theorem kp (a b r0):(@EE R N a b r0)=(VI N r0 (fun t m=>(Jg N r0 b a N t m)) a b):=by rw[EE,(Ah _).2]
def qo:Hints:={ H:=(hS hL (hS hL (hS hL (hS (hS hL (hS (hP [1,2,4,5] (hJ [1,2,4,5] hL hL)) hL)) (hS (hS hL (hS (hP [1,2,4,6] hL) hL)) (hS (hS hL (hS (hP [1,2,4,7] hL) hL)) (hS (hS hL (hS (hP [1,2,4,8] hL) hL)) (hS (hS hL (hS (hP [1,2,4,9] hL) hL)) (hS (hS hL (hS (hP [1,2,4,10] hL) hL)) (hS (hS hL (hS (hP [1,2,4,11] (hJ [1,2,4,11] hL (hS (hS (hS hL (hS hL (hS (hP [1,2,4,11,12,13,14] (hS hL (hS (hS (hS hL (hS (hS hL (hS (hP [1,2,4,11,12,13,14,15,16] hL) hL)) hL)) hL) hL))) hL))) hL) hL))) hL)) hL)))))))))),nils:=[(15,1)],modes:=[(3,0),(0,0)] }
def xU:Ek:=[(152,Y6 N),(153,Dv N),(154,Ia N),(156,Cv N),(155,Bj N),(157,BX N),(158,CA N),(159,Zi N),(160,HF N),(161,Vu N),(162,qe N),(163,VF N),(164,RB N)]
def E3 (F:KF R):=Kk Tryz.f112 qo (xU N) [] N F
def A9 (F:KF R):LA→Int→O R:=(fun cf cg=>F (.tup [(.pagg cf false),(.int .i64 cg)]) [])
def Aru (b:Bool) (a:LA) (v:Int) (ak:LA):St:=⟨[(1,(.optr 300000 0)),(2,(.optr 300001 0)),(4,(.optr 300002 0)),(5,(.int .i64 v))],[(300000,(bP b 0 a)),(300001,(bQ 0 [(.int .i64 0),(.int .i64 0),(.int .i64 0)])),(300002,(bQ 0 ak))]⟩
def Arv (F:KF R) (Q0:St→O R):=E3 N F [1,1,1,0,1,0,0,1] [Q0]
def Akj (d e:Nat) (b:Bool) (a f g:LA) (u o:Int) (l:Nat) (p:Int) (w x:LA):St:=⟨[(1,(.optr 300000 0)),(2,(.optr 300001 0)),(4,(.optr 300002 0)),(11,(.int .i64 u)),(12,(.own 300003 0 d)),(13,(.own 300004 0 e)),(14,(.int .i64 o)),(15,(.own 300005 0 l)),(16,(.int .i64 p))],[(300000,(bP b 0 a)),(300001,(bQ 0 [(.int .i64 0),(.int .i64 0),(.int .i64 0)])),(300002,(bQ 0 w)),(300003,(bQ 2 f)),(300004,(bQ 1 g)),(300005,(bQ 1 x))]⟩
def Akk (F:KF R) (Q7 Q9:St→O R):=E3 N F [1,1,1,1,1,1,1,1,1,0,1,0,0,1,0,0,1,1,0,0,1,0,0,1,0,1,0] [Q7,Q9]
def VJ (d e:Nat) (b:Bool) (a f g:LA) (q r:Int) (s:LA):St:=⟨[(1,(.optr 300000 0)),(2,(.optr 300001 0)),(4,(.optr 300002 0)),(11,(.int .i64 q)),(12,(.own 300003 0 d)),(13,(.own 300004 0 e)),(14,(.int .i64 r))],[(300000,(bP b 0 a)),(300001,(bQ 0 [(.int .i64 0),(.int .i64 0),(.int .i64 0)])),(300002,(bQ 0 s)),(300003,(bQ 2 f)),(300004,(bQ 1 g))]⟩
def qp (F:KF R) (Q7:St→O R):=E3 N F [1,1,1,1,1,1,1,1,1,0,1,0,0,1,0,0,1,1,0] [Q7]
def Arw (b:Bool) (a:LA) (ai:Int) (aj:LA):St:=⟨[(1,(.optr 300000 0)),(2,(.optr 300001 0)),(4,(.optr 300002 0)),(11,(.int .i64 ai))],[(300000,(bP b 0 a)),(300001,(bQ 0 [(.int .i64 0),(.int .i64 0),(.int .i64 0)])),(300002,(bQ 0 aj))]⟩
def Arx (F:KF R) (Q7:St→O R):=E3 N F [1,1,1,1,1,1,1,1,1,0,1,0,0,1] [Q7]
def Jh (b:Bool) (a:LA) (i:Int) (c:LA):St:=⟨[(1,(.optr 300000 0)),(2,(.optr 300001 0)),(4,(.optr 300002 0)),(11,(.int .i64 i))],[(300000,(bP b 0 a)),(300001,(bQ 0 [(.int .i64 0),(.int .i64 0),(.int .i64 0)])),(300002,(bQ 0 c))]⟩
def qq (F:KF R):=E3 N F [1,1,1,1,1,1,1,1,1,0,1,0] []
def Ary (b:Bool) (a:LA) (ad:Int) (y:LA):St:=⟨[(1,(.optr 300000 0)),(2,(.optr 300001 0)),(4,(.optr 300002 0)),(10,(.int .i64 ad))],[(300000,(bP b 0 a)),(300001,(bQ 0 [(.int .i64 0),(.int .i64 0),(.int .i64 0)])),(300002,(bQ 0 y))]⟩
def Arz (F:KF R):=E3 N F [1,1,1,1,1,1,1,1,0,1,0] []
def Ar0 (b:Bool) (a:LA) (ae:Int) (z:LA):St:=⟨[(1,(.optr 300000 0)),(2,(.optr 300001 0)),(4,(.optr 300002 0)),(9,(.int .i64 ae))],[(300000,(bP b 0 a)),(300001,(bQ 0 [(.int .i64 0),(.int .i64 0),(.int .i64 0)])),(300002,(bQ 0 z))]⟩
def Ar1 (F:KF R):=E3 N F [1,1,1,1,1,1,1,0,1,0] []
def Ar2 (b:Bool) (a:LA) (af:Int) (aa:LA):St:=⟨[(1,(.optr 300000 0)),(2,(.optr 300001 0)),(4,(.optr 300002 0)),(8,(.int .i64 af))],[(300000,(bP b 0 a)),(300001,(bQ 0 [(.int .i64 0),(.int .i64 0),(.int .i64 0)])),(300002,(bQ 0 aa))]⟩
def Ar3 (F:KF R):=E3 N F [1,1,1,1,1,1,0,1,0] []
def Ar4 (b:Bool) (a:LA) (ag:Int) (ab:LA):St:=⟨[(1,(.optr 300000 0)),(2,(.optr 300001 0)),(4,(.optr 300002 0)),(7,(.int .i64 ag))],[(300000,(bP b 0 a)),(300001,(bQ 0 [(.int .i64 0),(.int .i64 0),(.int .i64 0)])),(300002,(bQ 0 ab))]⟩
def Ar5 (F:KF R):=E3 N F [1,1,1,1,1,0,1,0] []
def Ar6 (b:Bool) (a:LA) (ah:Int) (ac:LA):St:=⟨[(1,(.optr 300000 0)),(2,(.optr 300001 0)),(4,(.optr 300002 0)),(6,(.int .i64 ah))],[(300000,(bP b 0 a)),(300001,(bQ 0 [(.int .i64 0),(.int .i64 0),(.int .i64 0)])),(300002,(bQ 0 ac))]⟩
def Ar7 (F:KF R):=E3 N F [1,1,1,1,0,1,0] []
def qr (b:Bool) (a:LA) (t:Int) (m:LA):St:=⟨[(1,(.optr 300000 0)),(2,(.optr 300001 0)),(4,(.optr 300002 0)),(5,(.int .i64 t))],[(300000,(bP b 0 a)),(300001,(bQ 0 [(.int .i64 0),(.int .i64 0),(.int .i64 0)])),(300002,(bQ 0 m))]⟩
def qs (F:KF R):=E3 N F [1,1,1,0,1,0] []
theorem zL (Q0:St→O R) (F:KF R) (b:Bool) (a:LA):∀ (v:Int) (ak:LA),Bb (Arv N F Q0) (Aru b a v ak)=(U4 N (fun t m=>Q0 (qr b a t m)) (A9 F) b a v ak):=by
 intro v ak
 kernel_rfl
theorem RC (Q7 Q9:St→O R) (F:KF R) (d e:Nat) (b:Bool) (a f g:LA):∀ (n:Nat) (u o:Int) (l:Nat) (p:Int) (w x:LA),Ap (Akk N F Q7 Q9) n (Akj d e b a f g u o l p w x)=(Jz N (fun i c=>Q7 (Jh b a i c)) (fun q r s=>Q9 (VJ d e b a f g q r s)) (A9 F) d e b a f g n u o l p w x)
 | 0,_,_,_,_,_,_=>by kernel_rfl
 | n+1,u,o,l,p,w,x=>Eq.trans (by kernel_rfl) (Bs (U5 N (fun i c=>Q7 (Jh b a i c)) (fun q r s=>Q9 (VJ d e b a f g q r s)) (A9 F) d e b a f g · u o l p w x) (funext fun u=>funext fun o=>funext fun l=>funext fun p=>funext fun w=>funext fun x=>(RC Q7 Q9 F d e b a f g n u o l p w x)):_)
theorem ZH (Q7:St→O R) (F:KF R) (d e:Nat) (b:Bool) (a f g:LA):∀ (n:Nat) (q r:Int) (s:LA),Ap (qp N F Q7) n (VJ d e b a f g q r s)=(Jf N (fun i c=>Q7 (Jh b a i c)) (A9 F) d e b a f g n q r s)
 | 0,_,_,_=>by kernel_rfl
 | n+1,q,r,s=>have e0:=(funext fun q=>funext fun r=>funext fun s=>(ZH Q7 F d e b a f g n q r s))
  Eq.trans (by kernel_rfl) (bJ (X5 N (fun i c=>Q7 (Jh b a i c)) (A9 F) d e b a f g · · q r s) e0 (funext fun u=>funext fun o=>funext fun l=>funext fun p=>funext fun w=>funext fun x=>(Ak ..).trans ((RC N Q7 (Ap (qp N F Q7) n) F d e b a f g N u o l p w x).trans (Bs (Jz N (fun i c=>Q7 (Jh b a i c)) · (A9 F) d e b a f g N u o l p w x) e0))):_)
theorem zM (Q7:St→O R) (F:KF R) (b:Bool) (a:LA):∀ (ai:Int) (aj:LA),Bb (Arx N F Q7) (Arw b a ai aj)=(DI N (fun i c=>Q7 (Jh b a i c)) (A9 F) b a ai aj):=by
 intro ai aj
 exact Eq.trans (by kernel_rfl) (Bs (NG N (fun i c=>Q7 (Jh b a i c)) (A9 F) b a · ai aj) (funext fun d=>funext fun e=>funext fun f=>funext fun g=>funext fun q=>funext fun r=>funext fun s=>(Ak ..).trans (ZH N Q7 F d e b a f g N q r s)):_)
theorem ZI (F:KF R) (b:Bool) (a:LA):∀ (n:Nat) (i:Int) (c:LA),Ap (qq N F) n (Jh b a i c)=(D6 N (A9 F) b a n i c)
 | 0,_,_=>by kernel_rfl
 | n+1,i,c=>have e0:=(funext fun i=>funext fun c=>(ZI F b a n i c))
  Eq.trans (by kernel_rfl) (bJ (Rm N (A9 F) b a · · i c) e0 (funext fun ai=>funext fun aj=>(As ..).trans ((zM N (Ap (qq N F) n) F b a ai aj).trans (Bs (DI N · (A9 F) b a ai aj) e0))):_)
theorem ZJ (F:KF R) (b:Bool) (a:LA):∀ (n:Nat) (ad:Int) (y:LA),Ap (Arz N F) n (Ary b a ad y)=(Mh N (A9 F) b a n ad y)
 | 0,_,_=>by kernel_rfl
 | n+1,ad,y=>Eq.trans (by kernel_rfl) (bJ (X6 N (A9 F) b a · · ad y) (funext fun ad=>funext fun y=>(ZJ F b a n ad y)) (funext fun i=>funext fun c=>(Ak ..).trans (ZI N F b a N i c)):_)
theorem ZK (F:KF R) (b:Bool) (a:LA):∀ (n:Nat) (ae:Int) (z:LA),Ap (Ar1 N F) n (Ar0 b a ae z)=(Mi N (A9 F) b a n ae z)
 | 0,_,_=>by kernel_rfl
 | n+1,ae,z=>Eq.trans (by kernel_rfl) (bJ (X7 N (A9 F) b a · · ae z) (funext fun ae=>funext fun z=>(ZK F b a n ae z)) (funext fun ad=>funext fun y=>(Ak ..).trans (ZJ N F b a N ad y)):_)
theorem ZL (F:KF R) (b:Bool) (a:LA):∀ (n:Nat) (af:Int) (aa:LA),Ap (Ar3 N F) n (Ar2 b a af aa)=(Mj N (A9 F) b a n af aa)
 | 0,_,_=>by kernel_rfl
 | n+1,af,aa=>Eq.trans (by kernel_rfl) (bJ (X8 N (A9 F) b a · · af aa) (funext fun af=>funext fun aa=>(ZL F b a n af aa)) (funext fun ae=>funext fun z=>(Ak ..).trans (ZK N F b a N ae z)):_)
theorem ZM (F:KF R) (b:Bool) (a:LA):∀ (n:Nat) (ag:Int) (ab:LA),Ap (Ar5 N F) n (Ar4 b a ag ab)=(Mk N (A9 F) b a n ag ab)
 | 0,_,_=>by kernel_rfl
 | n+1,ag,ab=>Eq.trans (by kernel_rfl) (bJ (X9 N (A9 F) b a · · ag ab) (funext fun ag=>funext fun ab=>(ZM F b a n ag ab)) (funext fun af=>funext fun aa=>(Ak ..).trans (ZL N F b a N af aa)):_)
theorem ZN (F:KF R) (b:Bool) (a:LA):∀ (n:Nat) (ah:Int) (ac:LA),Ap (Ar7 N F) n (Ar6 b a ah ac)=(Ml N (A9 F) b a n ah ac)
 | 0,_,_=>by kernel_rfl
 | n+1,ah,ac=>Eq.trans (by kernel_rfl) (bJ (Ya N (A9 F) b a · · ah ac) (funext fun ah=>funext fun ac=>(ZN F b a n ah ac)) (funext fun ag=>funext fun ab=>(Ak ..).trans (ZM N F b a N ag ab)):_)
theorem ZO (F:KF R) (b:Bool) (a:LA):∀ (n:Nat) (t:Int) (m:LA),Ap (qs N F) n (qr b a t m)=(Jg N (A9 F) b a n t m)
 | 0,_,_=>by kernel_rfl
 | n+1,t,m=>have e0:=(funext fun t=>funext fun m=>(ZO F b a n t m))
  Eq.trans (by kernel_rfl) (Bcd (Yb N (A9 F) b a · · · t m) e0 (funext fun v=>funext fun ak=>(As ..).trans ((zL N (Ap (qs N F) n) F b a v ak).trans (Bs (U4 N · (A9 F) b a v ak) e0))) (funext fun ah=>funext fun ac=>(Ak ..).trans (ZN N F b a N ah ac)):_)
theorem qt (a:LA) (b:Bool) (F:KF R):Cn (xU N) qo N 112 [(.pagg a b)] [] F=(EE N a b (A9 F)):=by
 rw[kp]
 exact Eq.trans (by kernel_rfl) (Bs (VI N (A9 F) · a b) (funext fun t=>funext fun m=>(Ak ..).trans (ZO N F b a N t m)):_)
def kq (args:List AV) (h:Am) (k:KF R):O R :=
 match args,h with
 | [(.pagg a b)],[]=>(EE N a b (A9 k))
 | _,_=>none
theorem qu:Aq N 112 @kq:=by
 intro R Q args h k j;unfold kq;split
 exact A2 (qt ..) (qt ..) ⟨ei N,E7 N,No N,Dd N,Br N,iK N,iP N,ey N,mm N,aR N,Arp N,mo N,tX N,trivial⟩
 exact A5
def qv:=A4 (qu N)
theorem Ar8:A1 Tryz.prog 112 (qv N):=A6 (qu N) follows
end
end Gx

namespace Gx
open Go Go.Proofs
open IntKind (wrap)
set_option maxRecDepth 100000
noncomputable section
variable {R:Type} (N:Nat)
def VK (k2:Int→Int→Nat→LA→O R) (r0:LA→O R) (l:Int) (a:LA) (b:Nat) (c:Bool) (e:Int) (f d:Nat) (i g:LA) (ar au:Int) (am:Nat) (av:LA):O R :=
 (Af N l a b false c au (fun bb bp=>(Af N (wrap .i64 (l - 1)) a b false c bp (fun bq br=>(cond (l==0) none (Ly N ((am:Nat):Int) bb (Int.tmod (wrap .i64 ((wrap .i64 (bb+1))+bq)) l) e a b false c br (fun bc bs=>(cond ((Nat.beq (bc.length) 12)&&(Nat.ble 12 12)) (cond ((Nat.ble (am+1) 140737488355328)&&(Nat.ble ((am+1)*120) 140737488355328)) (k2 (wrap .i64 (ar - 1)) bs (am+1) ((av.take (am*12))++((setCells [(.str ([]:List UInt8)),(.int .i64 0),(.int .i64 0),(.int .i64 0),(.int .i64 0),(.int .i64 0),(.int .i64 0),(.int .i64 0),(.int .i64 0),(.int .i64 0),(.int .i64 0),.nsl] 0 bc).take 12))) none) none))))))))
def VL (k7:Int→Int→Nat→LA→O R) (r0:LA→O R) (a:LA) (b:Nat) (c:Bool) (e:Int) (f d o m r t:Nat) (i g p q s u:LA) (aq aw:Int) (v:Nat) (an:LA):O R :=
 (K3 N ((v:Nat):Int) ((o:Nat):Int) ((m:Nat):Int) a b false c aw (fun ay bd=>(cond ((Nat.beq 0 0)&&((Nat.beq (ay.length) 4)&&(Nat.beq 4 4))) (cond ((Nat.ble (0+v) 140737488355328)&&(Nat.ble ((0+v)*72) 140737488355328)) (cond (Nat.ble 4 (ay.length)) (cond ((Nat.beq ((ay.take 4).length) 4)&&(Nat.ble 4 4)) (cond ((Nat.ble ((0+v)+1) 140737488355328)&&(Nat.ble (((0+v)+1)*72) 140737488355328)) (EE N [(.int .i64 e),(.imm (i.take (f*1)) f 1 false true),(.imm (g.take (d*3)) d 3 false true),(.imm (p.take (o*12)) o 12 false true),(.imm (q.take (m*22)) m 22 false true),(.imm (s.take (r*9)) r 9 false true),(.imm (u.take (t*5)) t 5 false true),(.imm (List.take (((0+v)+1)*4) (((an.take (v*4)).take ((0+v)*4))++((setCells [(.str ([]:List UInt8)),.nsl,(.bool false),.nsl] 0 (ay.take 4)).take 4))) ((0+v)+1) 4 false true)] true (fun bt bu=>(cond ((Nat.beq (bt.length) 3)&&((Nat.ble 3 3)&&(!false))) (cond (bu==0) (k7 (wrap .i64 (aq - 1)) bd ((0+v)+1) (((an.take (v*4)).take ((0+v)*4))++((setCells [(.str ([]:List UInt8)),.nsl,(.bool false),.nsl] 0 (ay.take 4)).take 4))) (k7 (wrap .i64 (aq - 1)) bd v an)) none))) none) none) none) none) none)))
def Zk (N:Nat) (r0:LA→O R) (a:LA) (b:Nat) (c:Bool) (e:Int) (f d o m r t:Nat) (i g p q s u:LA) (k7:Int→Int→Nat→LA→O R) (q8:Int→Int→Nat→LA→O R) (ad ah:Int) (w:Nat) (y:LA):O R :=
 (cond ((decide (ad>0))==true) (cond (cond true (decide (((o:Nat):Int)>0)) false) (q8 ad ah w y) (r0 [(.int .i64 e),(.imm (i.take (f*1)) f 1 false false),(.imm (g.take (d*3)) d 3 false false),(.imm (p.take (o*12)) o 12 false false),(.imm (q.take (m*22)) m 22 false false),(.imm (s.take (r*9)) r 9 false false),(.imm (u.take (t*5)) t 5 false false),(.imm (y.take (w*4)) w 4 false false)])) (r0 [(.int .i64 e),(.imm (i.take (f*1)) f 1 false false),(.imm (g.take (d*3)) d 3 false false),(.imm (p.take (o*12)) o 12 false false),(.imm (q.take (m*22)) m 22 false false),(.imm (s.take (r*9)) r 9 false false),(.imm (u.take (t*5)) t 5 false false),(.imm (y.take (w*4)) w 4 false false)]))
def H7 (r0:LA→O R) (a:LA) (b:Nat) (c:Bool) (e:Int) (f d o m r t:Nat) (i g p q s u:LA):Nat→Int→Int→Nat→LA→O R
 | 0,_,_,_,_=>none
 | n+1,ad,ah,w,y=>(Zk N r0 a b c e f d o m r t i g p q s u (H7 r0 a b c e f d o m r t i g p q s u n) (fun aq aw v an=>(VL N (H7 r0 a b c e f d o m r t i g p q s u n) r0 a b c e f d o m r t i g p q s u aq aw v an)) ad ah w y)
def fE (r0:LA→O R) (a:LA) (b:Nat) (c:Bool) (e:Int) (f d o m r:Nat) (i g p q s:LA) (q7:Int→Int→Nat→LA→O R) (ao:Int) (t:Nat) (u:LA):O R :=
 (Af N 4 a b false c ao (fun bv bw=>(q7 bv bw 0 [])))
def VM (r0:LA→O R) (a:LA) (b:Nat) (c:Bool) (e:Int) (f d o m r:Nat) (i g p q s:LA) (ao:Int) (t:Nat) (u:LA):O R:=(fE N r0 a b c e f d o m r i g p q s (fun ad ah w y=>(H7 N r0 a b c e f d o m r t i g p q s u N ad ah w y)) ao t u)
def LY (r0:LA→O R) (l:Int) (a:LA) (b:Nat) (c:Bool) (e:Int) (f d o m:Nat) (i g p q:LA) (q6:Int→Nat→LA→O R) (ap:Int) (r:Nat) (s:LA):O R :=
 (Af N 3 a b false c ap (fun bx be=>(cond (bx==2) (Af N l a b false c be (fun bz ca=>(Ep N e 12 a b false c ca (fun bf cb cc=>(Ep N e 12 a b false c cb (fun bg cd ce=>(Ep N e 40 a b false c cd (fun bh cf cg=>(q6 cf 1 [(.str ([116,48]:List UInt8)),(.int .i64 bz),(.imm (cc.take (bf*1)) bf 1 false false),(.imm (ce.take (bg*1)) bg 1 false false),(.imm (cg.take (bh*1)) bh 1 false false)]))))))))) (q6 be 0 []))))
def HJ (r0:LA→O R) (l:Int) (a:LA) (b:Nat) (c:Bool) (e:Int) (f d o m:Nat) (i g p q:LA) (ap:Int) (r:Nat) (s:LA):O R:=(LY N r0 l a b c e f d o m i g p q (fun ao t u=>(VM N r0 a b c e f d o m r i g p q s ao t u)) ap r s)
def Zl (r0:LA→O R) (l:Int) (a:LA) (b:Nat) (c:Bool) (e:Int) (f d:Nat) (i g:LA) (k4:Int→Int→Nat→Nat→LA→LA→O R) (q5:Int→Nat→LA→O R) (ai aj:Int) (o m:Nat) (p q:LA):O R :=
 (cond (decide (ai>0)) (Qd N ((m:Nat):Int) l e a b false c aj (fun bi ch=>(cond ((Nat.beq (bi.length) 22)&&(Nat.ble 22 22)) (cond ((Nat.ble (m+1) 140737488355328)&&(Nat.ble ((m+1)*216) 140737488355328)) (k4 (wrap .i64 (ai - 1)) ch o (m+1) p ((q.take (m*22))++((setCells [(.str ([]:List UInt8)),(.int .i64 0),(.int .i64 0),(.int .i64 0),.nsl,(.int .i64 0),(.int .i64 0),(.int .i64 0),(.int .i64 0),(.int .i64 0),(.int .i64 0),(.int .i64 0),(.int .i64 0),(.int .i64 0),(.int .i64 0),(.int .i64 0),(.int .i64 0),(.int .i64 0),.nsl,(.int .i64 0),(.int .i64 0),(.int .i64 0)] 0 bi).take 22))) none) none))) (Af N 3 a b false c aj (fun ci bj=>(cond (ci==2) (Af N l a b false c bj (fun cj ck=>(Af N 20 a b false c ck (fun ba cl=>(Af N 8 a b false c cl (fun cm cn=>(Af N 8 a b false c cn (fun co cp=>(Af N 4 a b false c cp (fun cq cr=>(Af N (wrap .i64 (ba+1)) a b false c cr (fun cs ct=>(Af N (wrap .i64 (ba+1)) a b false c ct (fun cu cv=>(q5 cv 1 [(.str ([115,48]:List UInt8)),(.int .i64 cj),(.int .i64 ba),(.int .i64 cs),(.int .i64 cu),(.int .i64 cm),(.int .i64 co),(.int .i64 (wrap .i64 (1+cq))),(.int .i64 4)]))))))))))))))) (q5 bj 0 [])))))
def Pd (r0:LA→O R) (l:Int) (a:LA) (b:Nat) (c:Bool) (e:Int) (f d:Nat) (i g:LA):Nat→Int→Int→Nat→Nat→LA→LA→O R
 | 0,_,_,_,_,_,_=>none
 | n+1,ai,aj,o,m,p,q=>(Zl N r0 l a b c e f d i g (Pd r0 l a b c e f d i g n) (fun ap r s=>(HJ N r0 l a b c e f d o m i g p q ap r s)) ai aj o m p q)
def Zm (r0:LA→O R) (l:Int) (a:LA) (b:Nat) (c:Bool) (e:Int) (f d:Nat) (i g:LA) (k2:Int→Int→Nat→LA→O R) (q3:Int→Int→Nat→LA→O R) (q4:Int→Int→Nat→Nat→LA→LA→O R) (ae z:Int) (aa:Nat) (ab:LA):O R :=
 (cond ((decide (ae>0))==true) (cond (cond true (decide (l>1)) false) (q3 ae z aa ab) (Af N 3 a b false c z (fun cw cx=>(q4 (wrap .i64 (1+cw)) cx aa 0 ab [])))) (Af N 3 a b false c z (fun cy cz=>(q4 (wrap .i64 (1+cy)) cz aa 0 ab []))))
def Pe (r0:LA→O R) (l:Int) (a:LA) (b:Nat) (c:Bool) (e:Int) (f d:Nat) (i g:LA):Nat→Int→Int→Nat→LA→O R
 | 0,_,_,_,_=>none
 | n+1,ae,z,aa,ab=>(Zm N r0 l a b c e f d i g (Pe r0 l a b c e f d i g n) (fun ar au am av=>(VK N (Pe r0 l a b c e f d i g n) r0 l a b c e f d i g ar au am av)) (fun ai aj o m p q=>(Pd N r0 l a b c e f d i g N ai aj o m p q)) ae z aa ab)
def LZ (r0:LA→O R) (a:LA) (b:Nat) (c:Bool) (e:Int) (f d:Nat) (i g:LA) (k1:Int→Int→Int→Nat→LA→O R) (q2:Int→Int→Nat→LA→O R) (l af ak:Int) (x:Nat) (al:LA):O R :=
 (cond (decide (af<l)) (Af N af a b false c ak (fun da db=>(Ly N ((x:Nat):Int) da af e a b false c db (fun bk dc=>(cond ((Nat.beq (bk.length) 12)&&(Nat.ble 12 12)) (cond ((Nat.ble (x+1) 140737488355328)&&(Nat.ble ((x+1)*120) 140737488355328)) (k1 l (wrap .i64 (af+1)) dc (x+1) ((al.take (x*12))++((setCells [(.str ([]:List UInt8)),(.int .i64 0),(.int .i64 0),(.int .i64 0),(.int .i64 0),(.int .i64 0),(.int .i64 0),(.int .i64 0),(.int .i64 0),(.int .i64 0),(.int .i64 0),.nsl] 0 bk).take 12))) none) none))))) (Af N 5 a b false c ak (fun dd de=>(q2 dd de x al))))
def Wy (r0:LA→O R) (a:LA) (b:Nat) (c:Bool) (e:Int) (f d:Nat) (i g:LA):Nat→Int→Int→Int→Nat→LA→O R
 | 0,_,_,_,_,_=>none
 | n+1,l,af,ak,x,al=>(LZ N r0 a b c e f d i g (Wy r0 a b c e f d i g n) (fun ae z aa ab=>(Pe N r0 l a b c e f d i g N ae z aa ab)) l af ak x al)
def Zn (r0:LA→O R) (a:LA) (b:Nat) (c:Bool) (f:Nat) (i:LA) (k0:Int→Int→Int→Nat→LA→O R) (q1:Int→Int→Int→Nat→LA→O R) (ac ag e:Int) (d:Nat) (g:LA):O R :=
 (cond (decide (ac>0)) (DE N ([98]:List UInt8) ((d:Nat):Int) (fun bl=>(Ep N e 14 a b false c ag (fun az df bm=>(Af N 2 a b false c df (fun dg bn=>(cond (dg==1) (Af N 200 a b false c bn (fun dh di=>(cond ((Nat.ble (d+1) 140737488355328)&&(Nat.ble ((d+1)*48) 140737488355328)) (k0 (wrap .i64 (ac - 1)) di e (d+1) ((g.take (d*3))++[(.str bl),(.imm (bm.take (az*1)) az 1 false false),(.int .i64 (wrap .i64 (100+dh)))])) none))) (cond ((Nat.ble (d+1) 140737488355328)&&(Nat.ble ((d+1)*48) 140737488355328)) (k0 (wrap .i64 (ac - 1)) bn e (d+1) ((g.take (d*3))++[(.str bl),(.imm (bm.take (az*1)) az 1 false false),(.int .i64 0)])) none)))))))) (q1 ((d:Nat):Int) 1 ag 0 []))
def Mm (r0:LA→O R) (a:LA) (b:Nat) (c:Bool) (f:Nat) (i:LA):Nat→Int→Int→Int→Nat→LA→O R
 | 0,_,_,_,_,_=>none
 | n+1,ac,ag,e,d,g=>(Zn N r0 a b c f i (Mm r0 a b c f i n) (fun l af ak x al=>(Wy N r0 a b c e f d i g N l af ak x al)) ac ag e d g)
def qw (r0:LA→O R) (q0:Nat→LA→Int→Int→Int→Nat→LA→O R) (a:LA) (b:Nat) (ax c:Bool):O R :=
 (Agi N a b false c (Af N 3 a b false c 0 (fun bo dj=>(Ep N (wrap .i64 (1+bo)) 5 a b false c dj (fun f dk i=>(Af N 4 a b false c dk (fun dl dm=>(q0 f i (wrap .i64 (1+dl)) dm (wrap .i64 (1+bo)) 0 []))))))))
def gh:=(Ah (fun (N:Nat) (a:LA) (b:Nat) (ax c:Bool) (r0:LA→O R)=>(qw N r0 (fun f i ac ag e d g=>(Mm N r0 a b c f i N ac ag e d g)) a b ax c))).1
theorem xV (a b ax c r0):(@gh R N a b ax c r0)=(qw N r0 (fun f i ac ag e d g=>(Mm N r0 a b c f i N ac ag e d g)) a b ax c):=by rw[gh,(Ah _).2]
def Ag9:Hints:={ H:=(hS hL (hS hL (hS hL (hS hL (hS (hS hL (hS (hP [2,3,4,5] hL) hL)) (hS hL (hS (hS hL (hS (hP [2,3,4,7,8] hL) hL)) (hS (hS hL (hS (hP [2,3,4,7,9] (hJ [2,3,4,7,9] hL hL)) hL)) (hS (hS hL (hS (hP [2,3,4,7,11] hL) hL)) (hJ [2,3,4,7] hL (hJ [2,3,4] hL (hS (hS hL (hS (hP [2,3,4,13] (hJ [2,3,4,13] hL hL)) hL)) hL)))))))))))),modes:=[(3,0)],cob:=[23,44,192] }
def An4:Ek:=[(105,Anz N),(106,Gr N),(107,QF N),(108,GV N),(109,YK N),(110,YP N),(111,LJ N),(112,qv N)]
def Mn (F:KF R):=Kk Tryz.f61 Ag9 (An4 N) [] N F
def Cd (F:KF R):LA→O R:=(fun dn=>F (.pagg dn false) [])
def A0m (l:Int) (a:LA) (b:Nat) (c:Bool) (e:Int) (f d:Nat) (i g:LA) (ar au:Int) (am:Nat) (av:LA):St:=⟨[(2,(.optr 300000 0)),(3,(.optr 300001 0)),(4,(.optr 300002 0)),(7,(.int .i64 l)),(9,(.int .i64 ar))],[(300000,⟨false,false,false,false,0,[(.int .i64 0),.nsl,.nsl,.nsl,.nsl,.nsl,.nsl,.nsl],false⟩),(300001,⟨false,false,false,false,0,[(.imm a b 1 false c),(.int .i64 au)],false⟩),(300002,⟨false,false,false,false,0,[(.int .i64 e),(.own 300003 0 f),(.own 300004 0 d),(.own 300005 0 am),(.own 300006 0 0),(.own 300007 0 0),(.own 300008 0 0),(.own 300009 0 0)],false⟩),(300003,(bQ 1 i)),(300004,(bQ 3 g)),(300005,(bQ 12 av)),(300006,(bQ 22 [])),(300007,(bQ 9 [])),(300008,(bQ 5 [])),(300009,(bQ 4 []))]⟩
def A0n (F:KF R) (Q2:St→O R):=Mn N F [1,1,1,1,1,1,1,0,1,0,0,1] [Q2]
def A0o (a:LA) (b:Nat) (c:Bool) (e:Int) (f d o m r t:Nat) (i g p q s u:LA) (aq aw:Int) (v:Nat) (an:LA):St:=⟨[(2,(.optr 300000 0)),(3,(.optr 300001 0)),(4,(.optr 300002 0)),(13,(.int .i64 aq))],[(300000,⟨false,false,false,false,0,[(.int .i64 0),.nsl,.nsl,.nsl,.nsl,.nsl,.nsl,.nsl],false⟩),(300001,⟨false,false,false,false,0,[(.imm a b 1 false c),(.int .i64 aw)],false⟩),(300002,⟨false,false,false,false,0,[(.int .i64 e),(.own 300003 0 f),(.own 300004 0 d),(.own 300005 0 o),(.own 300006 0 m),(.own 300007 0 r),(.own 300008 0 t),(.own 300009 0 v)],false⟩),(300003,(bQ 1 i)),(300004,(bQ 3 g)),(300005,(bQ 12 p)),(300006,(bQ 22 q)),(300007,(bQ 9 s)),(300008,(bQ 5 u)),(300009,(bQ 4 an))]⟩
def A0p (F:KF R) (Q7:St→O R):=Mn N F [1,1,1,1,1,1,1,1,1,1,1,0,1,0,0,1] [Q7]
def Aha (a:LA) (b:Nat) (c:Bool) (e:Int) (f d o m r t:Nat) (i g p q s u:LA) (ad ah:Int) (w:Nat) (y:LA):St:=⟨[(2,(.optr 300000 0)),(3,(.optr 300001 0)),(4,(.optr 300002 0)),(13,(.int .i64 ad))],[(300000,⟨false,false,false,false,0,[(.int .i64 0),.nsl,.nsl,.nsl,.nsl,.nsl,.nsl,.nsl],false⟩),(300001,⟨false,false,false,false,0,[(.imm a b 1 false c),(.int .i64 ah)],false⟩),(300002,⟨false,false,false,false,0,[(.int .i64 e),(.own 300003 0 f),(.own 300004 0 d),(.own 300005 0 o),(.own 300006 0 m),(.own 300007 0 r),(.own 300008 0 t),(.own 300009 0 w)],false⟩),(300003,(bQ 1 i)),(300004,(bQ 3 g)),(300005,(bQ 12 p)),(300006,(bQ 22 q)),(300007,(bQ 9 s)),(300008,(bQ 5 u)),(300009,(bQ 4 y))]⟩
def Ahb (F:KF R):=Mn N F [1,1,1,1,1,1,1,1,1,1,1,0,1,0] []
def A0q (a:LA) (b:Nat) (c:Bool) (e:Int) (f d o m r:Nat) (i g p q s:LA) (ao:Int) (t:Nat) (u:LA):St:=⟨[(2,(.optr 300000 0)),(3,(.optr 300001 0)),(4,(.optr 300002 0))],[(300000,⟨false,false,false,false,0,[(.int .i64 0),.nsl,.nsl,.nsl,.nsl,.nsl,.nsl,.nsl],false⟩),(300001,⟨false,false,false,false,0,[(.imm a b 1 false c),(.int .i64 ao)],false⟩),(300002,⟨false,false,false,false,0,[(.int .i64 e),(.own 300003 0 f),(.own 300004 0 d),(.own 300005 0 o),(.own 300006 0 m),(.own 300007 0 r),(.own 300008 0 t),(.own 300009 0 0)],false⟩),(300003,(bQ 1 i)),(300004,(bQ 3 g)),(300005,(bQ 12 p)),(300006,(bQ 22 q)),(300007,(bQ 9 s)),(300008,(bQ 5 u)),(300009,(bQ 4 []))]⟩
def A0r (F:KF R):=Mn N F [1,1,1,1,1,1,1,1,1,1,1] []
def A0s (l:Int) (a:LA) (b:Nat) (c:Bool) (e:Int) (f d o m:Nat) (i g p q:LA) (ap:Int) (r:Nat) (s:LA):St:=⟨[(2,(.optr 300000 0)),(3,(.optr 300001 0)),(4,(.optr 300002 0)),(7,(.int .i64 l))],[(300000,⟨false,false,false,false,0,[(.int .i64 0),.nsl,.nsl,.nsl,.nsl,.nsl,.nsl,.nsl],false⟩),(300001,⟨false,false,false,false,0,[(.imm a b 1 false c),(.int .i64 ap)],false⟩),(300002,⟨false,false,false,false,0,[(.int .i64 e),(.own 300003 0 f),(.own 300004 0 d),(.own 300005 0 o),(.own 300006 0 m),(.own 300007 0 r),(.own 300008 0 0),(.own 300009 0 0)],false⟩),(300003,(bQ 1 i)),(300004,(bQ 3 g)),(300005,(bQ 12 p)),(300006,(bQ 22 q)),(300007,(bQ 9 s)),(300008,(bQ 5 [])),(300009,(bQ 4 []))]⟩
def A0t (F:KF R):=Mn N F [1,1,1,1,1,1,1,1,1,1] []
def A0u (l:Int) (a:LA) (b:Nat) (c:Bool) (e:Int) (f d:Nat) (i g:LA) (ai aj:Int) (o m:Nat) (p q:LA):St:=⟨[(2,(.optr 300000 0)),(3,(.optr 300001 0)),(4,(.optr 300002 0)),(7,(.int .i64 l)),(11,(.int .i64 ai))],[(300000,⟨false,false,false,false,0,[(.int .i64 0),.nsl,.nsl,.nsl,.nsl,.nsl,.nsl,.nsl],false⟩),(300001,⟨false,false,false,false,0,[(.imm a b 1 false c),(.int .i64 aj)],false⟩),(300002,⟨false,false,false,false,0,[(.int .i64 e),(.own 300003 0 f),(.own 300004 0 d),(.own 300005 0 o),(.own 300006 0 m),(.own 300007 0 0),(.own 300008 0 0),(.own 300009 0 0)],false⟩),(300003,(bQ 1 i)),(300004,(bQ 3 g)),(300005,(bQ 12 p)),(300006,(bQ 22 q)),(300007,(bQ 9 [])),(300008,(bQ 5 [])),(300009,(bQ 4 []))]⟩
def A0v (F:KF R):=Mn N F [1,1,1,1,1,1,1,1,0,1,0] []
def Ahc (l:Int) (a:LA) (b:Nat) (c:Bool) (e:Int) (f d:Nat) (i g:LA) (ae z:Int) (aa:Nat) (ab:LA):St:=⟨[(2,(.optr 300000 0)),(3,(.optr 300001 0)),(4,(.optr 300002 0)),(7,(.int .i64 l)),(9,(.int .i64 ae))],[(300000,⟨false,false,false,false,0,[(.int .i64 0),.nsl,.nsl,.nsl,.nsl,.nsl,.nsl,.nsl],false⟩),(300001,⟨false,false,false,false,0,[(.imm a b 1 false c),(.int .i64 z)],false⟩),(300002,⟨false,false,false,false,0,[(.int .i64 e),(.own 300003 0 f),(.own 300004 0 d),(.own 300005 0 aa),(.own 300006 0 0),(.own 300007 0 0),(.own 300008 0 0),(.own 300009 0 0)],false⟩),(300003,(bQ 1 i)),(300004,(bQ 3 g)),(300005,(bQ 12 ab)),(300006,(bQ 22 [])),(300007,(bQ 9 [])),(300008,(bQ 5 [])),(300009,(bQ 4 []))]⟩
def Ahd (F:KF R):=Mn N F [1,1,1,1,1,1,1,0,1,0] []
def A0w (a:LA) (b:Nat) (c:Bool) (e:Int) (f d:Nat) (i g:LA) (l af ak:Int) (x:Nat) (al:LA):St:=⟨[(2,(.optr 300000 0)),(3,(.optr 300001 0)),(4,(.optr 300002 0)),(7,(.int .i64 l)),(8,(.int .i64 af))],[(300000,⟨false,false,false,false,0,[(.int .i64 0),.nsl,.nsl,.nsl,.nsl,.nsl,.nsl,.nsl],false⟩),(300001,⟨false,false,false,false,0,[(.imm a b 1 false c),(.int .i64 ak)],false⟩),(300002,⟨false,false,false,false,0,[(.int .i64 e),(.own 300003 0 f),(.own 300004 0 d),(.own 300005 0 x),(.own 300006 0 0),(.own 300007 0 0),(.own 300008 0 0),(.own 300009 0 0)],false⟩),(300003,(bQ 1 i)),(300004,(bQ 3 g)),(300005,(bQ 12 al)),(300006,(bQ 22 [])),(300007,(bQ 9 [])),(300008,(bQ 5 [])),(300009,(bQ 4 []))]⟩
def A0x (F:KF R):=Mn N F [1,1,1,1,1,1,0,1,0] []
def A0y (a:LA) (b:Nat) (c:Bool) (f:Nat) (i:LA) (ac ag e:Int) (d:Nat) (g:LA):St:=⟨[(2,(.optr 300000 0)),(3,(.optr 300001 0)),(4,(.optr 300002 0)),(5,(.int .i64 ac))],[(300000,⟨false,false,false,false,0,[(.int .i64 0),.nsl,.nsl,.nsl,.nsl,.nsl,.nsl,.nsl],false⟩),(300001,⟨false,false,false,false,0,[(.imm a b 1 false c),(.int .i64 ag)],false⟩),(300002,⟨false,false,false,false,0,[(.int .i64 e),(.own 300003 0 f),(.own 300004 0 d),(.own 300005 0 0),(.own 300006 0 0),(.own 300007 0 0),(.own 300008 0 0),(.own 300009 0 0)],false⟩),(300003,(bQ 1 i)),(300004,(bQ 3 g)),(300005,(bQ 12 [])),(300006,(bQ 22 [])),(300007,(bQ 9 [])),(300008,(bQ 5 [])),(300009,(bQ 4 []))]⟩
def A0z (F:KF R):=Mn N F [1,1,1,1,0,1,0] []
theorem Akl (Q2:St→O R) (F:KF R) (l:Int) (a:LA) (b:Nat) (c:Bool) (e:Int) (f d:Nat) (i g:LA):∀ (ar au:Int) (am:Nat) (av:LA),Bb (A0n N F Q2) (A0m l a b c e f d i g ar au am av)=(VK N (fun ae z aa ab=>Q2 (Ahc l a b c e f d i g ae z aa ab)) (Cd F) l a b c e f d i g ar au am av):=by
 intro ar au am av
 kernel_rfl
theorem Akm (Q7:St→O R) (F:KF R) (a:LA) (b:Nat) (c:Bool) (e:Int) (f d o m r t:Nat) (i g p q s u:LA):∀ (aq aw:Int) (v:Nat) (an:LA),Bb (A0p N F Q7) (A0o a b c e f d o m r t i g p q s u aq aw v an)=(VL N (fun ad ah w y=>Q7 (Aha a b c e f d o m r t i g p q s u ad ah w y)) (Cd F) a b c e f d o m r t i g p q s u aq aw v an):=by
 intro aq aw v an
 kernel_rfl
theorem ku (F:KF R) (a:LA) (b:Nat) (c:Bool) (e:Int) (f d o m r t:Nat) (i g p q s u:LA):∀ (n:Nat) (ad ah:Int) (w:Nat) (y:LA),Ap (Ahb N F) n (Aha a b c e f d o m r t i g p q s u ad ah w y)=(H7 N (Cd F) a b c e f d o m r t i g p q s u n ad ah w y)
 | 0,_,_,_,_=>by kernel_rfl
 | n+1,ad,ah,w,y=>have e0:=(funext fun ad=>funext fun ah=>funext fun w=>funext fun y=>(ku F a b c e f d o m r t i g p q s u n ad ah w y))
  Eq.trans (by kernel_rfl) (bJ (Zk N (Cd F) a b c e f d o m r t i g p q s u · · ad ah w y) e0 (funext fun aq=>funext fun aw=>funext fun v=>funext fun an=>(As ..).trans ((Akm N (Ap (Ahb N F) n) F a b c e f d o m r t i g p q s u aq aw v an).trans (Bs (VL N · (Cd F) a b c e f d o m r t i g p q s u aq aw v an) e0))):_)
theorem Akn (F:KF R) (a:LA) (b:Nat) (c:Bool) (e:Int) (f d o m r:Nat) (i g p q s:LA):∀ (ao:Int) (t:Nat) (u:LA),Bb (A0r N F) (A0q a b c e f d o m r i g p q s ao t u)=(VM N (Cd F) a b c e f d o m r i g p q s ao t u):=by
 intro ao t u
 exact Eq.trans (by kernel_rfl) (Bs (fE N (Cd F) a b c e f d o m r i g p q s · ao t u) (funext fun ad=>funext fun ah=>funext fun w=>funext fun y=>(Ak ..).trans (ku N F a b c e f d o m r t i g p q s u N ad ah w y)):_)
theorem Ako (F:KF R) (l:Int) (a:LA) (b:Nat) (c:Bool) (e:Int) (f d o m:Nat) (i g p q:LA):∀ (ap:Int) (r:Nat) (s:LA),Bb (A0t N F) (A0s l a b c e f d o m i g p q ap r s)=(HJ N (Cd F) l a b c e f d o m i g p q ap r s):=by
 intro ap r s
 exact Eq.trans (by kernel_rfl) (Bs (LY N (Cd F) l a b c e f d o m i g p q · ap r s) (funext fun ao=>funext fun t=>funext fun u=>(As ..).trans (Akn N F a b c e f d o m r i g p q s ao t u)):_)
theorem kv (F:KF R) (l:Int) (a:LA) (b:Nat) (c:Bool) (e:Int) (f d:Nat) (i g:LA):∀ (n:Nat) (ai aj:Int) (o m:Nat) (p q:LA),Ap (A0v N F) n (A0u l a b c e f d i g ai aj o m p q)=(Pd N (Cd F) l a b c e f d i g n ai aj o m p q)
 | 0,_,_,_,_,_,_=>by kernel_rfl
 | n+1,ai,aj,o,m,p,q=>Eq.trans (by kernel_rfl) (bJ (Zl N (Cd F) l a b c e f d i g · · ai aj o m p q) (funext fun ai=>funext fun aj=>funext fun o=>funext fun m=>funext fun p=>funext fun q=>(kv F l a b c e f d i g n ai aj o m p q)) (funext fun ap=>funext fun r=>funext fun s=>(As ..).trans (Ako N F l a b c e f d o m i g p q ap r s)):_)
theorem kw (F:KF R) (l:Int) (a:LA) (b:Nat) (c:Bool) (e:Int) (f d:Nat) (i g:LA):∀ (n:Nat) (ae z:Int) (aa:Nat) (ab:LA),Ap (Ahd N F) n (Ahc l a b c e f d i g ae z aa ab)=(Pe N (Cd F) l a b c e f d i g n ae z aa ab)
 | 0,_,_,_,_=>by kernel_rfl
 | n+1,ae,z,aa,ab=>have e0:=(funext fun ae=>funext fun z=>funext fun aa=>funext fun ab=>(kw F l a b c e f d i g n ae z aa ab))
  Eq.trans (by kernel_rfl) (Bcd (Zm N (Cd F) l a b c e f d i g · · · ae z aa ab) e0 (funext fun ar=>funext fun au=>funext fun am=>funext fun av=>(As ..).trans ((Akl N (Ap (Ahd N F) n) F l a b c e f d i g ar au am av).trans (Bs (VK N · (Cd F) l a b c e f d i g ar au am av) e0))) (funext fun ai=>funext fun aj=>funext fun o=>funext fun m=>funext fun p=>funext fun q=>(Ak ..).trans (kv N F l a b c e f d i g N ai aj o m p q)):_)
theorem ky (F:KF R) (a:LA) (b:Nat) (c:Bool) (e:Int) (f d:Nat) (i g:LA):∀ (n:Nat) (l af ak:Int) (x:Nat) (al:LA),Ap (A0x N F) n (A0w a b c e f d i g l af ak x al)=(Wy N (Cd F) a b c e f d i g n l af ak x al)
 | 0,_,_,_,_,_=>by kernel_rfl
 | n+1,l,af,ak,x,al=>Eq.trans (by kernel_rfl) (bJ (LZ N (Cd F) a b c e f d i g · · l af ak x al) (funext fun l=>funext fun af=>funext fun ak=>funext fun x=>funext fun al=>(ky F a b c e f d i g n l af ak x al)) (funext fun ae=>funext fun z=>funext fun aa=>funext fun ab=>(Ak ..).trans (kw N F l a b c e f d i g N ae z aa ab)):_)
theorem kz (F:KF R) (a:LA) (b:Nat) (c:Bool) (f:Nat) (i:LA):∀ (n:Nat) (ac ag e:Int) (d:Nat) (g:LA),Ap (A0z N F) n (A0y a b c f i ac ag e d g)=(Mm N (Cd F) a b c f i n ac ag e d g)
 | 0,_,_,_,_,_=>by kernel_rfl
 | n+1,ac,ag,e,d,g=>Eq.trans (by kernel_rfl) (bJ (Zn N (Cd F) a b c f i · · ac ag e d g) (funext fun ac=>funext fun ag=>funext fun e=>funext fun d=>funext fun g=>(kz F a b c f i n ac ag e d g)) (funext fun l=>funext fun af=>funext fun ak=>funext fun x=>funext fun al=>(Ak ..).trans (ky N F a b c e f d i g N l af ak x al)):_)
theorem Ahe (a:LA) (b:Nat) (ax c:Bool) (F:KF R):Cn (An4 N) Ag9 N 61 [(.imm a b 1 ax c)] [] F=(gh N a b ax c (Cd F)):=by
 rw[xV]
 exact Eq.trans (by kernel_rfl) (Bs (qw N (Cd F) · a b ax c) (funext fun f=>funext fun i=>funext fun ac=>funext fun ag=>funext fun e=>funext fun d=>funext fun g=>(Ak ..).trans (kz N F a b c f i N ac ag e d g)):_)
def xW (args:List AV) (h:Am) (k:KF R):O R :=
 match args,h with
 | [(.imm a b 1 ax c)],[]=>(gh N a b ax c (Cd k))
 | _,_=>none
theorem Ahf:Aq N 61 @xW:=by
 intro R Q args h k j;unfold xW;split
 exact A2 (Ahe ..) (Ahe ..) ⟨A5p N,Iw N,tO N,UX N,zE N,zJ N,qQ N,Ar8 N,trivial⟩
 exact A5
def Ahg:=A4 (Ahf N)
theorem A00:A1 Tryz.prog 61 (Ahg N):=A6 (Ahf N) follows
def Ahh (r0:LA→Int→O R) (a:LA) (b:Nat) (d c:Bool):O R :=
 (gh N a b false c (fun f=>(cond ((Nat.beq 0 0)&&((Nat.beq (f.length) 8)&&(Nat.beq 8 8))) (Ct 22 (f.drop 4) fun e g=>(cond (Ad 0 g) (cond (Nat.ble 22 (e.length)) (Ao .i64 f fun i=>(cond ((Nat.beq 0 0)&&((Nat.beq ((e.take 22).length) 22)&&(Nat.beq 22 22))) (cond (Nat.ble 22 ((e.take 22).length)) (r0 ((e.take 22).take 22) i) none) none)) none) none)) none)))
def gi:=(Ah (fun (N:Nat) (a:LA) (b:Nat) (d c:Bool) (r0:LA→Int→O R)=>(Ahh N r0 a b d c))).1
theorem xX (a b d c r0):(@gi R N a b d c r0)=(Ahh N r0 a b d c):=by rw[gi,(Ah _).2]
def A01:Hints:={ H:=hL,modes:=[(3,0),(0,0)] }
def A5s:Ek:=[(61,Ahg N)]
def Ahi (F:KF R):LA→Int→O R:=(fun l m=>F (.tup [(.pagg l false),(.int .i64 m)]) [])
theorem Ahj (a:LA) (b:Nat) (d c:Bool) (F:KF R):Cn (A5s N) A01 N 27 [(.imm a b 1 d c)] [] F=(gi N a b d c (Ahi F)):=by
 rw[xX]
 kernel_rfl
def xY (args:List AV) (h:Am) (k:KF R):O R :=
 match args,h with
 | [(.imm a b 1 d c)],[]=>(gi N a b d c (Ahi k))
 | _,_=>none
theorem Ahk:Aq N 27 @xY:=by
 intro R Q args h k j;unfold xY;split
 exact A2 (Ahj ..) (Ahj ..) ⟨A00 N,trivial⟩
 exact A5
def Ahl:=A4 (Ahk N)
theorem A02:A1 Tryz.prog 27 (Ahl N):=A6 (Ahk N) follows
end
end Gx

namespace Gx
open Go Go.Proofs
open IntKind (wrap)
set_option maxRecDepth 100000
noncomputable section
variable {R:Type} (N:Nat)
def tY (r0:Int→Int→O R) (a:LA) (b:Bool):O R :=
 (cond (Nat.ble 22 (a.length)) (Kw N (a.take 22) b (fun c=>(cond (!c) (r0 0 0) (Ao .i64 (a.drop 11) fun d=>(Ao .i64 (a.drop 15) fun e=>(Ao .i64 (a.drop 10) fun f=>(r0 (Ig (Ig d (wrap .i64 (e+1))) 1) (Ig f 1)))))))) none)
def Zo:=(Ah (fun (N:Nat) (a:LA) (b:Bool) (r0:Int→Int→O R)=>(tY N r0 a b))).1
theorem qx (a b r0):(@Zo R N a b r0)=(tY N r0 a b):=by rw[Zo,(Ah _).2]
def Av1:Hints:={ H:=hL }
def A03:Ek:=[(52,Lw N)]
def xZ (F:KF R):Int→Int→O R:=(fun g i=>F (.tup [(.int .i64 g),(.int .i64 i)]) [])
theorem x9 (a:LA) (b:Bool) (F:KF R):Cn (A03 N) Av1 N 165 [(.pagg a b)] [] F=(Zo N a b (xZ F)):=by
 rw[qx]
 kernel_rfl
def qy (args:List AV) (h:Am) (k:KF R):O R :=
 match args,h with
 | [(.pagg a b)],[]=>(Zo N a b (xZ k))
 | _,_=>none
theorem x_:Aq N 165 @qy:=by
 intro R Q args h k j;unfold qy;split
 exact A2 (x9 ..) (x9 ..) ⟨P8 N,trivial⟩
 exact A5
def L_:=A4 (x_ N)
theorem fF:A1 Tryz.prog 165 (L_ N):=A6 (x_ N) follows
def VN (r0:LA→O R) (a:LA) (b:Bool):O R :=
 (cond (Nat.ble 22 (a.length)) (Kw N (a.take 22) b (fun d=>(cond (!d) (r0 [(.int .i64 0),(.int .i64 0)]) (cond (Nat.ble 22 (a.length)) (Zo N (a.take 22) b (fun e f=>(Ao .i64 (a.drop 19) fun c=>(cond (c==0) (Ao .i64 (a.drop 20) fun g=>(r0 [(.int .i64 0),(.int .i64 (Bv g e))])) (cond (c==2) (Ao .i64 (a.drop 20) fun i=>(r0 [(.int .i64 2),(.int .i64 (Bv i f))])) (Ao .i64 (a.drop 20) fun l=>(r0 [(.int .i64 1),(.int .i64 l)]))))))) none)))) none)
def Pf:=(Ah (fun (N:Nat) (a:LA) (b:Bool) (r0:LA→O R)=>(VN N r0 a b))).1
theorem ZP (a b r0):(@Pf R N a b r0)=(VN N r0 a b):=by rw[Pf,(Ah _).2]
def Ahm:Hints:={ H:=hL,modes:=[(3,0)] }
def Akp:Ek:=[(52,Lw N),(165,L_ N)]
def fG (F:KF R):LA→O R:=(fun m=>F (.pagg m false) [])
theorem fH (a:LA) (b:Bool) (F:KF R):Cn (Akp N) Ahm N 113 [(.pagg a b)] [] F=(Pf N a b (fG F)):=by
 rw[ZP]
 kernel_rfl
def ZQ (args:List AV) (h:Am) (k:KF R):O R :=
 match args,h with
 | [(.pagg a b)],[]=>(Pf N a b (fG k))
 | _,_=>none
theorem fI:Aq N 113 @ZQ:=by
 intro R Q args h k j;unfold ZQ;split
 exact A2 (fH ..) (fH ..) ⟨P8 N,fF N,trivial⟩
 exact A5
def HK:=A4 (fI N)
theorem fJ:A1 Tryz.prog 113 (HK N):=A6 (fI N) follows
def U6 (N:Nat) (r0:Nat→LA→O R) (a:Int) (k2:Nat→Int→LA→O R) (e:Nat) (m:Int) (p:LA):O R :=
 (cond (decide (m≤a)) (cond ((Nat.ble (e+1) 140737488355328)&&(Nat.ble ((e+1)*16) 140737488355328)) (k2 (e+1) (wrap .i64 (m+1)) ((p.take (e*2))++[(.int .i64 2),(.int .i64 m)])) none) (r0 e p))
def Nl (r0:Nat→LA→O R) (a:Int):Nat→Nat→Int→LA→O R
 | 0,_,_,_=>none
 | n+1,e,m,p=>(U6 N r0 a (Nl r0 a n) e m p)
def U7 (N:Nat) (r0:Nat→LA→O R) (a:Int) (c:Bool) (b:LA) (k1:Nat→Int→LA→O R) (q2:Nat→Int→LA→O R) (f:Nat) (o:Int) (q:LA):O R :=
 (Ao .i64 (b.drop 12) fun r=>(cond (decide (o≤r)) (cond ((Nat.ble (f+1) 140737488355328)&&(Nat.ble ((f+1)*16) 140737488355328)) (k1 (f+1) (wrap .i64 (o+1)) ((q.take (f*2))++[(.int .i64 1),(.int .i64 o)])) none) (q2 f 1 q)))
def Nm (r0:Nat→LA→O R) (a:Int) (c:Bool) (b:LA):Nat→Nat→Int→LA→O R
 | 0,_,_,_=>none
 | n+1,f,o,q=>(U7 N r0 a c b (Nm r0 a c b n) (fun e m p=>(Nl N r0 a N e m p)) f o q)
def U8 (N:Nat) (r0:Nat→LA→O R) (i a:Int) (c:Bool) (b:LA) (k0:Nat→Int→LA→O R) (q1:Nat→Int→LA→O R) (d:Nat) (g:Int) (l:LA):O R :=
 (cond (decide (g≤i)) (cond ((Nat.ble (d+1) 140737488355328)&&(Nat.ble ((d+1)*16) 140737488355328)) (k0 (d+1) (wrap .i64 (g+1)) ((l.take (d*2))++[(.int .i64 0),(.int .i64 g)])) none) (q1 d 1 l))
def J3 (r0:Nat→LA→O R) (i a:Int) (c:Bool) (b:LA):Nat→Nat→Int→LA→O R
 | 0,_,_,_=>none
 | n+1,d,g,l=>(U8 N r0 i a c b (J3 r0 i a c b n) (fun f o q=>(Nm N r0 a c b N f o q)) d g l)
def MA (r0:Nat→LA→O R) (q0:Int→Int→Nat→Int→LA→O R) (b:LA) (c:Bool):O R :=
 (cond (Nat.ble 22 (b.length)) (Zo N (b.take 22) c (fun i a=>(cond (Nat.ble 22 (b.length)) (Kw N (b.take 22) c (fun s=>(cond (!s) (r0 0 []) (q0 i a 0 1 [])))) none))) none)
def Wz:=(Ah (fun (N:Nat) (b:LA) (c:Bool) (r0:Nat→LA→O R)=>(MA N r0 (fun i a d g l=>(J3 N r0 i a c b N d g l)) b c))).1
theorem fK (b c r0):(@Wz R N b c r0)=(MA N r0 (fun i a d g l=>(J3 N r0 i a c b N d g l)) b c):=by rw[Wz,(Ah _).2]
def lA:Hints:={ H:=(hS hL (hS hL (hS hL (hS hL (hS (hS hL (hS (hP [1,3,4,5,6] hL) hL)) (hS (hS hL (hS (hP [1,3,5,7] hL) hL)) (hS (hS hL (hS (hP [3,5,8] hL) hL)) hL))))))),nils:=[(2,2),(3,2)],modes:=[(2,2)] }
def qz:Ek:=[(165,L_ N),(52,Lw N)]
def NH (F:KF R):=Kk Tryz.f199 lA (qz N) [] N F
def F2 (F:KF R):Nat→LA→O R:=(fun t u=>F (.own 300000 0 t) [(300000,(bQ 2 u))])
def Akq (a:Int) (e:Nat) (m:Int) (p:LA):St:=⟨[(3,(.own 300000 0 e)),(5,(.int .i64 a)),(8,(.int .i64 m))],[(300000,(bQ 2 p))]⟩
def Akr (F:KF R):=NH N F [1,1,1,1,1,1,0,1,0] []
def Aks (a:Int) (c:Bool) (b:LA) (f:Nat) (o:Int) (q:LA):St:=⟨[(1,(.optr 300000 0)),(3,(.own 300001 0 f)),(5,(.int .i64 a)),(7,(.int .i64 o))],[(300000,(bP c 0 b)),(300001,(bQ 2 q))]⟩
def Akt (F:KF R):=NH N F [1,1,1,1,1,0,1,0] []
def Aku (i a:Int) (c:Bool) (b:LA) (d:Nat) (g:Int) (l:LA):St:=⟨[(1,(.optr 300000 0)),(3,(.own 300001 0 d)),(4,(.int .i64 i)),(5,(.int .i64 a)),(6,(.int .i64 g))],[(300000,(bP c 0 b)),(300001,(bQ 2 l))]⟩
def Akv (F:KF R):=NH N F [1,1,1,1,0,1,0] []
theorem RD (F:KF R) (a:Int):∀ (n e:Nat) (m:Int) (p:LA),Ap (Akr N F) n (Akq a e m p)=(Nl N (F2 F) a n e m p)
 | 0,_,_,_=>by kernel_rfl
 | n+1,e,m,p=>Eq.trans (by kernel_rfl) (Bs (U6 N (F2 F) a · e m p) (funext fun e=>funext fun m=>funext fun p=>(RD F a n e m p)):_)
theorem RE (F:KF R) (a:Int) (c:Bool) (b:LA):∀ (n f:Nat) (o:Int) (q:LA),Ap (Akt N F) n (Aks a c b f o q)=(Nm N (F2 F) a c b n f o q)
 | 0,_,_,_=>by kernel_rfl
 | n+1,f,o,q=>Eq.trans (by kernel_rfl) (bJ (U7 N (F2 F) a c b · · f o q) (funext fun f=>funext fun o=>funext fun q=>(RE F a c b n f o q)) (funext fun e=>funext fun m=>funext fun p=>(Ak ..).trans (RD N F a N e m p)):_)
theorem RF (F:KF R) (i a:Int) (c:Bool) (b:LA):∀ (n d:Nat) (g:Int) (l:LA),Ap (Akv N F) n (Aku i a c b d g l)=(J3 N (F2 F) i a c b n d g l)
 | 0,_,_,_=>by kernel_rfl
 | n+1,d,g,l=>Eq.trans (by kernel_rfl) (bJ (U8 N (F2 F) i a c b · · d g l) (funext fun d=>funext fun g=>funext fun l=>(RF F i a c b n d g l)) (funext fun f=>funext fun o=>funext fun q=>(Ak ..).trans (RE N F a c b N f o q)):_)
theorem lB (b:LA) (c:Bool) (F:KF R):Cn (qz N) lA N 199 [(.pagg b c)] [] F=(Wz N b c (F2 F)):=by
 rw[fK]
 exact Eq.trans (by kernel_rfl) (Bs (MA N (F2 F) · b c) (funext fun i=>funext fun a=>funext fun d=>funext fun g=>funext fun l=>(Ak ..).trans (RF N F i a c b N d g l)):_)
def fL (args:List AV) (h:Am) (k:KF R):O R :=
 match args,h with
 | [(.pagg b c)],[]=>(Wz N b c (F2 k))
 | _,_=>none
theorem lC:Aq N 199 @fL:=by
 intro R Q args h k j;unfold fL;split
 exact A2 (lB ..) (lB ..) ⟨fF N,P8 N,trivial⟩
 exact A5
def lD:=A4 (lC N)
theorem Akw:A1 Tryz.prog 199 (lD N):=A6 (lC N) follows
def Qf (N:Nat) (r0:Int→O R) (e:Nat) (b:Bool) (a d:LA) (k0:Int→O R) (c:Int):O R :=
 (cond (decide (c<((e:Nat):Int))) (cond (Ad c e) (cond (Nat.ble 2 ((d.drop (0+((c.toNat)*2))).length)) (cond (Nat.ble 2 (a.length)) (cond ((!b)||(Bd (a.take 2))) (cond ((Nat.ble 1 2)&&((Nat.beq (((d.drop (0+((c.toNat)*2))).take 2).length) 2)&&((Nat.beq ((a.take 2).length) 2)&&(true&&(!false))))) (Ao .i64 ((d.drop (0+((c.toNat)*2))).take 2) fun i=>(Ao .i64 (a.take 2) fun l=>(Ao .i64 (((d.drop (0+((c.toNat)*2))).take 2).drop 1) fun m=>(Ao .i64 ((a.take 2).drop 1) fun o=>(cond ((i==l)&&((m==o)&&true)) (r0 c) (k0 (wrap .i64 (c+1)))))))) none) none) none) none) none) (r0 (-1)))
def Gs (r0:Int→O R) (e:Nat) (b:Bool) (a d:LA):Nat→Int→O R
 | 0,_=>none
 | n+1,c=>(Qf N r0 e b a d (Gs r0 e b a d n) c)
def Yc (r0:Int→O R) (q0:Nat→LA→Int→O R) (f:LA) (g:Bool) (a:LA) (b:Bool):O R :=
 (cond (Nat.ble 22 (f.length)) (Wz N (f.take 22) g (fun e d=>(q0 e d 0))) none)
def U9:=(Ah (fun (N:Nat) (f:LA) (g:Bool) (a:LA) (b:Bool) (r0:Int→O R)=>(Yc N r0 (fun e d c=>(Gs N r0 e b a d N c)) f g a b))).1
theorem RG (f g a b r0):(@U9 R N f g a b r0)=(Yc N r0 (fun e d c=>(Gs N r0 e b a d N c)) f g a b):=by rw[U9,(Ah _).2]
def ZR:Hints:={ H:=(hS hL (hS hL (hS (hS hL (hS (hP [3,5,6] hL) hL)) hL))) }
def fM:Ek:=[(199,lD N)]
def zN (F:KF R):=Kk Tryz.f193 ZR (fM N) [] N F
def M5 (F:KF R):Int→O R:=(fun p=>F (.int .i64 p) [])
def zO (e:Nat) (b:Bool) (a d:LA) (c:Int):St:=⟨[(3,(.optr 300000 0)),(5,(.own 300001 0 e)),(6,(.int .i64 c))],[(300000,(bP b 0 a)),(300001,(bQ 2 d))]⟩
def zP (F:KF R):=zN N F [1,1,0,1,0] []
theorem HL (F:KF R) (e:Nat) (b:Bool) (a d:LA):∀ (n:Nat) (c:Int),Ap (zP N F) n (zO e b a d c)=(Gs N (M5 F) e b a d n c)
 | 0,_=>by kernel_rfl
 | n+1,c=>Eq.trans (by kernel_rfl) (Bs (Qf N (M5 F) e b a d · c) (funext fun c=>(HL F e b a d n c)):_)
theorem ZS (f:LA) (g:Bool) (a:LA) (b:Bool) (F:KF R):Cn (fM N) ZR N 193 [(.pagg f g),(.pagg a b)] [] F=(U9 N f g a b (M5 F)):=by
 rw[RG]
 exact Eq.trans (by kernel_rfl) (Bs (Yc N (M5 F) · f g a b) (funext fun e=>funext fun d=>funext fun c=>(Ak ..).trans (HL N F e b a d N c)):_)
def RH (args:List AV) (h:Am) (k:KF R):O R :=
 match args,h with
 | [(.pagg f g),(.pagg a b)],[]=>(U9 N f g a b (M5 k))
 | _,_=>none
theorem ZT:Aq N 193 @RH:=by
 intro R Q args h k j;unfold RH;split
 exact A2 (ZS ..) (ZS ..) ⟨Akw N,trivial⟩
 exact A5
def ZU:=A4 (ZT N)
theorem zQ:A1 Tryz.prog 193 (ZU N):=A6 (ZT N) follows
def Ar9 (r0:Bool→O R) (b:LA) (c:Bool) (a:LA) (d:Bool):O R :=
 (cond (Nat.ble 22 (b.length)) (cond (Nat.ble 2 (a.length)) (cond ((!d)||(Bd (a.take 2))) (U9 N (b.take 22) c (a.take 2) false (fun e=>(r0 (decide (e≥0))))) none) none) none)
def tZ:=(Ah (fun (N:Nat) (b:LA) (c:Bool) (a:LA) (d:Bool) (r0:Bool→O R)=>(Ar9 N r0 b c a d))).1
theorem Ahn (b c a d r0):(@tZ R N b c a d r0)=(Ar9 N r0 b c a d):=by rw[tZ,(Ah _).2]
def A5t:Hints:={ H:=hL }
def A7z:Ek:=[(193,ZU N)]
def An5 (F:KF R):Bool→O R:=(fun f=>F (.bool f) [])
theorem An6 (b:LA) (c:Bool) (a:LA) (d:Bool) (F:KF R):Cn (A7z N) A5t N 166 [(.pagg b c),(.pagg a d)] [] F=(tZ N b c a d (An5 F)):=by
 rw[Ahn]
 kernel_rfl
def Aho (args:List AV) (h:Am) (k:KF R):O R :=
 match args,h with
 | [(.pagg b c),(.pagg a d)],[]=>(tZ N b c a d (An5 k))
 | _,_=>none
theorem An7:Aq N 166 @Aho:=by
 intro R Q args h k j;unfold Aho;split
 exact A2 (An6 ..) (An6 ..) ⟨zQ N,trivial⟩
 exact A5
def An8:=A4 (An7 N)
theorem A5u:A1 Tryz.prog 166 (An8 N):=A6 (An7 N) follows
def t4 (r0:Nat→LA→O R) (b:LA) (c:Bool) (a:LA) (d:Bool):O R :=
 (cond (Nat.ble 22 (b.length)) (cond (Nat.ble 2 (a.length)) (cond ((!d)||(Bd (a.take 2))) (tZ N (b.take 22) c (a.take 2) false (fun m=>(cond (!m) (r0 0 []) (cond (Nat.ble 22 (b.length)) (Zo N (b.take 22) c (fun e g=>(Ao .i64 a fun i=>(cond (i==0) (Ao .i64 (a.drop 1) fun f=>(Ao .i64 (a.drop 1) fun n=>(Ao .i64 (b.drop 11) fun o=>(cond (decide (n<o)) (r0 1 [(.int .i64 0),(.int .i64 (Bv (wrap .i64 (f+1)) e))]) (Ao .i64 (b.drop 12) fun p=>(cond (decide (p>0)) (r0 2 [(.int .i64 0),(.int .i64 (Bv (wrap .i64 (f+1)) e)),(.int .i64 1),(.int .i64 1)]) (r0 2 [(.int .i64 0),(.int .i64 (Bv (wrap .i64 (f+1)) e)),(.int .i64 2),(.int .i64 1)]))))))) (cond (i==1) (Ao .i64 (a.drop 1) fun q=>(Ao .i64 (b.drop 12) fun r=>(cond (decide (q<r)) (Ao .i64 (a.drop 1) fun s=>(r0 1 [(.int .i64 1),(.int .i64 (wrap .i64 (s+1)))])) (r0 1 [(.int .i64 2),(.int .i64 1)])))) (Ao .i64 (a.drop 1) fun l=>(Ao .i64 (a.drop 1) fun t=>(Ao .i64 (b.drop 10) fun u=>(cond (decide (t≥u)) (r0 2 [(.int .i64 0),(.int .i64 1),(.int .i64 2),(.int .i64 (Bv (wrap .i64 (l+1)) g))]) (r0 1 [(.int .i64 2),(.int .i64 (Bv (wrap .i64 (l+1)) g))])))))))))) none)))) none) none) none)
def HM:=(Ah (fun (N:Nat) (b:LA) (c:Bool) (a:LA) (d:Bool) (r0:Nat→LA→O R)=>(t4 N r0 b c a d))).1
theorem rA (b c a d r0):(@HM R N b c a d r0)=(t4 N r0 b c a d):=by rw[HM,(Ah _).2]
def Av2:Hints:={ H:=hL,nils:=[(4,2)],modes:=[(2,2)] }
def A04:Ek:=[(166,An8 N),(165,L_ N)]
def xa (F:KF R):Nat→LA→O R:=(fun v w=>F (.own 300000 0 v) [(300000,(bQ 2 w))])
theorem xb (b:LA) (c:Bool) (a:LA) (d:Bool) (F:KF R):Cn (A04 N) Av2 N 114 [(.pagg b c),(.pagg a d)] [] F=(HM N b c a d (xa F)):=by
 rw[rA]
 kernel_rfl
def rB (args:List AV) (h:Am) (k:KF R):O R :=
 match args,h with
 | [(.pagg b c),(.pagg a d)],[]=>(HM N b c a d (xa k))
 | _,_=>none
theorem xc:Aq N 114 @rB:=by
 intro R Q args h k j;unfold rB;split
 exact A2 (xb ..) (xb ..) ⟨A5u N,fF N,trivial⟩
 exact A5
def fN:=A4 (xc N)
theorem xd:A1 Tryz.prog 114 (fN N):=A6 (xc N) follows
def VO (r0:Bool→O R) (b:LA) (c:Bool) (d a:Int):O R :=
 (cond ((a==0)==false) (cond ((a==1)==false) (cond ((cond false true (a==2))==true) (Ct 1 (b.drop 18) fun e f=>(mD N e f false c d (fun g=>(r0 (cond false true (cond true (!g) false)))))) (r0 false)) (Ct 1 (b.drop 18) fun i l=>(mD N i l false c d (fun m=>(r0 (cond false true (cond true (!m) false))))))) (r0 true))
def Pg:=(Ah (fun (N:Nat) (b:LA) (c:Bool) (d a:Int) (r0:Bool→O R)=>(VO N r0 b c d a))).1
theorem ZV (b c d a r0):(@Pg R N b c d a r0)=(VO N r0 b c d a):=by rw[Pg,(Ah _).2]
def Ahp:Hints:={ H:=hL }
def Akx:Ek:=[(45,Amc N)]
def fO (F:KF R):Bool→O R:=(fun n=>F (.bool n) [])
theorem fP (b:LA) (c:Bool) (d a:Int) (F:KF R):Cn (Akx N) Ahp N 115 [(.pagg b c),(.int .i64 d),(.int .i64 a)] [] F=(Pg N b c d a (fO F)):=by
 rw[ZV]
 kernel_rfl
def ZW (args:List AV) (h:Am) (k:KF R):O R :=
 match args,h with
 | [(.pagg b c),(.int .i64 d),(.int .i64 a)],[]=>(Pg N b c d a (fO k))
 | _,_=>none
theorem fQ:Aq N 115 @ZW:=by
 intro R Q args h k j;unfold ZW;split
 exact A2 (fP ..) (fP ..) ⟨A34 N,trivial⟩
 exact A5
def HN:=A4 (fQ N)
theorem fR:A1 Tryz.prog 115 (HN N):=A6 (fQ N) follows
def DJ (r0:LA→Bool→O R) (e b:Int) (g:Nat) (c:Bool) (a f:LA) (k0:Int→O R) (d:Int):O R :=
 (cond (decide (d<((g:Nat):Int))) (cond (Ad d g) (Ao .i64 (f.drop (0+((d.toNat)*2))) fun m=>(cond ((m==b)==true) (cond (Nat.ble 22 (a.length)) (Pg N (a.take 22) c e b (fun o=>(cond (cond true o false) (cond (Ad d g) (cond (Nat.ble 2 ((f.drop (0+((d.toNat)*2))).length)) (cond ((Nat.beq (((f.drop (0+((d.toNat)*2))).take 2).length) 2)&&((Nat.ble 2 2)&&(!false))) (cond (Nat.ble 2 ((setCells [(.int .i64 0),(.int .i64 0)] 0 ((f.drop (0+((d.toNat)*2))).take 2)).length)) (r0 ((setCells [(.int .i64 0),(.int .i64 0)] 0 ((f.drop (0+((d.toNat)*2))).take 2)).take 2) true) none) none) none) none) (k0 (wrap .i64 (d+1)))))) none) (k0 (wrap .i64 (d+1))))) none) (r0 [(.int .i64 0),(.int .i64 0)] false))
def Ph (r0:LA→Bool→O R) (e b:Int) (g:Nat) (c:Bool) (a f:LA):Nat→Int→O R
 | 0,_=>none
 | n+1,d=>(DJ N r0 e b g c a f (Ph r0 e b g c a f n) d)
def gj (r0:LA→Bool→O R) (q0:Nat→LA→Int→O R) (a:LA) (c:Bool) (e:Int) (i:LA) (l:Bool) (b:Int):O R :=
 (cond (Nat.ble 22 (a.length)) (cond (Nat.ble 2 (i.length)) (cond ((!l)||(Bd (i.take 2))) (HM N (a.take 22) c (i.take 2) false (fun g f=>(q0 g f 0))) none) none) none)
def RI:=(Ah (fun (N:Nat) (a:LA) (c:Bool) (e:Int) (i:LA) (l:Bool) (b:Int) (r0:LA→Bool→O R)=>(gj N r0 (fun g f d=>(Ph N r0 e b g c a f N d)) a c e i l b))).1
theorem rC (a c e i l b r0):(@RI R N a c e i l b r0)=(gj N r0 (fun g f d=>(Ph N r0 e b g c a f N d)) a c e i l b):=by rw[RI,(Ah _).2]
def xe:Hints:={ H:=(hS hL (hS hL (hS (hS hL (hS (hP [1,3,4,8,10,11] hL) hL)) hL))),modes:=[(3,0),(0,0)] }
def Ahq:Ek:=[(114,fN N),(115,HN N)]
def Av3 (F:KF R):=Kk Tryz.f121 xe (Ahq N) [] N F
def Zp (F:KF R):LA→Bool→O R:=(fun p q=>F (.tup [(.pagg p false),(.bool q)]) [])
def Av4 (e b:Int) (g:Nat) (c:Bool) (a f:LA) (d:Int):St:=⟨[(1,(.int .i64 e)),(3,(.int .i64 b)),(4,(.optr 300000 0)),(8,(.optr 300001 0)),(10,(.own 300002 0 g)),(11,(.int .i64 d))],[(300000,(bP c 0 a)),(300001,(bQ 0 [(.int .i64 0),(.int .i64 0)])),(300002,(bQ 2 f))]⟩
def Av5 (F:KF R):=Av3 N F [1,1,0,1,0] []
theorem fS (F:KF R) (e b:Int) (g:Nat) (c:Bool) (a f:LA):∀ (n:Nat) (d:Int),Ap (Av5 N F) n (Av4 e b g c a f d)=(Ph N (Zp F) e b g c a f n d)
 | 0,_=>by kernel_rfl
 | n+1,d=>Eq.trans (by kernel_rfl) (Bs (DJ N (Zp F) e b g c a f · d) (funext fun d=>(fS F e b g c a f n d)):_)
theorem xg (a:LA) (c:Bool) (e:Int) (i:LA) (l:Bool) (b:Int) (F:KF R):Cn (Ahq N) xe N 121 [(.pagg a c),(.int .i64 e),(.pagg i l),(.int .i64 b)] [] F=(RI N a c e i l b (Zp F)):=by
 rw[rC]
 exact Eq.trans (by kernel_rfl) (Bs (gj N (Zp F) · a c e i l b) (funext fun g=>funext fun f=>funext fun d=>(Ak ..).trans (fS N F e b g c a f N d)):_)
def rD (args:List AV) (h:Am) (k:KF R):O R :=
 match args,h with
 | [(.pagg a c),(.int .i64 e),(.pagg i l),(.int .i64 b)],[]=>(RI N a c e i l b (Zp k))
 | _,_=>none
theorem xi:Aq N 121 @rD:=by
 intro R Q args h k j;unfold rD;split
 exact A2 (xg ..) (xg ..) ⟨xd N,fR N,trivial⟩
 exact A5
def xj:=A4 (xi N)
theorem Av6:A1 Tryz.prog 121 (xj N):=A6 (xi N) follows
end
end Gx

namespace Gx
open Go Go.Proofs
section
variable {R:Type}
structure StD where
 k:Int
 h:Int
def StD.av (s:StD):List AV:=[.int .i64 s.k,.int .i64 s.h]
def J4 (u:UnitD):Int:=Ig (Ig u.downTime (u.hotHours+1)) 1
def HO (u:UnitD):Int:=Ig u.upTime 1
def J7 (u:UnitD) (s:StD):List StD :=
 cond (s.k==0) (⟨0,Bv (s.h+1) (J4 u)⟩::cond (decide (s.h<u.downTime)) [] (cond (decide (u.startTime>0)) [⟨1,1⟩] [⟨2,1⟩]))
  (cond (s.k==1) (cond (decide (s.h<u.startTime)) [⟨1,s.h+1⟩] [⟨2,1⟩]) (cond (decide (s.h≥u.upTime)) [⟨0,1⟩,⟨2,Bv (s.h+1) (HO u)⟩] [⟨2,Bv (s.h+1) (HO u)⟩]))
def DK (u:UnitD) (s:StD):Prop:=1≤s.h∧((s.k=0∧s.h≤J4 u)∨(s.k=1∧s.h≤u.startTime)∨(s.k=2∧s.h≤HO u))
theorem Kg (a b:Int):Bv a b=min a b:=by unfold Bv;by_cases h:b<a<;>simp[h]<;>omega
theorem R6 (a b:Int):Ig a b=max a b:=by unfold Ig;by_cases h:b>a<;>simp[h]<;>omega
theorem Qg {u:UnitD} (h:C4 u=true):(0≤u.upTime∧u.upTime≤24)∧(0≤u.downTime∧u.downTime≤24)∧(0≤u.startTime∧u.startTime≤24)∧(0≤u.hotHours∧u.hotHours≤24)∧(u.state=0∨u.state=1∨u.state=2)∧(1≤u.hours∧u.hours≤48)∧(u.state=1→u.hours≤u.startTime):=by
 simp[C4,Ff] at h;omega
theorem VP {u:UnitD} (h:C4 u=true):1≤J4 u∧J4 u≤25∧1≤HO u∧HO u≤24:=by
 have:=Qg h
 simp only[J4,HO,R6];omega
theorem t5 {u:UnitD} {s:StD} (h:C4 u=true) (hs:DK u s):1≤s.h∧s.h≤25∧(s.k=0∨s.k=1∨s.k=2):=by
 have:=Qg h;have:=VP h;unfold DK at hs;omega
theorem Ahr {u:UnitD} {s:StD} (h:C4 u=true) (hs:DK u s):∀ t ∈ J7 u s,DK u t:=by
 intro t k
 have G:=Qg h;have I:=VP h;have C:=t5 h hs
 have D:HO u=max u.upTime 1:=by rw[HO,R6]
 unfold DK at hs ⊢
 unfold J7 at k
 rcases C.2.2 with B | B | B<;>simp only[B,Kg] at k hs
 ·by_cases A:s.h<u.downTime<;>by_cases F:u.startTime>0<;>simp[A,F] at k<;>first | (subst k;simp;omega) | (rcases k with rfl | rfl<;>simp<;>omega)
 ·by_cases A:s.h<u.startTime<;>simp[A] at k<;>(subst k;simp;omega)
 ·by_cases A:u.upTime≤s.h<;>simp[A] at k<;>first | (subst k;simp;omega) | (rcases k with rfl | rfl<;>simp<;>omega)
theorem t6 {u:UnitD} {s:StD}:(J7 u s).length≤2:=by
 unfold J7
 cases (s.k==0)<;>cases (s.k==1)<;>cases decide (s.h<u.downTime)<;>cases decide (u.startTime>0)<;>cases decide (s.h<u.startTime)<;>cases decide (s.h≥u.upTime)<;>simp
theorem Ahs {s:StD} {f:Int→Option R}:Ao .i64 s.av f=f s.k:=Az
theorem mq {s:StD} {f:Int→Option R}:Ao .i64 (List.drop 1 s.av) f=f s.h:=Az
theorem uT (s:StD):Nat.ble 2 (List.length s.av)=true:=rfl
theorem A05 (s:StD):List.take 2 s.av=s.av:=rfl
theorem A70 (s t:StD):setCells s.av 0 t.av=t.av:=rfl
theorem Baq (t:StD):setCells [(.int .i64 0),(.int .i64 0)] 0 t.av=t.av:=rfl
theorem VQ {N:Nat} {u:UnitD} {o:Bool} {K:Int→Int→Option R} (hN:64≤N) (hs:C4 u=true):CW N u.av o K=K (J4 u) (HO u):=by
 rw[d7];unfold pk
 have k:=Qg hs
 rw[D8,ct,Cg,Nh hN,hs,show(!true)=false from rfl,cf,Ba6,Bcw,Bb8,i64 (by omega)];rfl
theorem NI {N:Nat} {u:UnitD} {o:Bool} {K:Int→Int→Option R} (hs:C4 u=true):Zo N u.av o K=K (J4 u) (HO u):=by
 rw[qx];unfold tY
 have k:=Qg hs
 rw[D8,ct,Cg,Kx,hs,show(!true)=false from rfl,cf,Ba6,Bcw,Bb8,i64 (by omega)];rfl
def Mo (u:UnitD):StD:=⟨u.state,cond (u.state==0) (Bv u.hours (J4 u)) (cond (u.state==2) (Bv u.hours (HO u)) u.hours)⟩
theorem t7 {u:UnitD} (h:C4 u=true):DK u (Mo u):=by
 have A:=Qg h;have B:=VP h
 unfold DK Mo
 rcases A.2.2.2.2.1 with k | k | k<;>simp only[k,Kg]<;>simp<;>omega
theorem zR {N:Nat} {u:UnitD} {o:Bool} {K:LA→Option R} (hN:64≤N) (hs:C4 u=true):Sn N u.av o K=K (Mo u).av:=by
 rw[GL];unfold KU
 rw[D8,ct,Cg,Nh hN,hs,show(!true)=false from rfl,cf,ct,VQ hN hs,A46,Bcx]
 unfold Mo
 cases (u.state==0)<;>cases (u.state==2)<;>rfl
theorem RK {N:Nat} {u:UnitD} {o:Bool} {K:LA→Option R} (hs:C4 u=true):Pf N u.av o K=K (Mo u).av:=by
 rw[ZP];unfold VN
 rw[D8,ct,Cg,Kx,hs,show(!true)=false from rfl,cf,ct,NI hs,A46]
 have A:=Qg hs
 simp only[Bcx]
 unfold Mo
 rcases A.2.2.2.2.1 with k | k | k<;>rw[k]<;>rfl
theorem t8 {N:Nat} {u:UnitD} {s:StD} {o o':Bool} (hN:64≤N) (hs:C4 u=true) (A:DK u s):∃ p:Int,0≤p∧∀ K:Int→Option R,Lg N u.av o s.av o' K=K p:=by
 have F:=Qg hs;have G:=VP hs;have C:=t5 hs A
 have key:∀ K:Int→Option R,Lg N u.av o s.av o' K=K (cond (s.k==0) (s.h - 1) (cond (s.k==1) (J4 u+s.h - 1) (J4 u+u.startTime+s.h - 1))):=by
  intro K
  rw[AB];unfold Ul
  rw[D8,ct,Cg,Nh hN,hs,show((!true)==false)=true from rfl,ct,mq,show decide (s.h<1)=false by simp;omega,Bc6,cf]
  unfold Oo Rv
  rw[D8,ct,Cg,VQ hN hs,Ahs]
  unfold GN AA GM
  simp only[Ahs,mq,Bac]
  unfold DK at A
  have e1:IntKind.wrap .i64 (s.h - 1)=s.h - 1:=i64 (by omega)
  have D:IntKind.wrap .i64 (IntKind.wrap .i64 (J4 u+s.h) - 1)=J4 u+s.h - 1:=by rw[i64 (a:=J4 u+s.h) (by omega),i64 (by omega)]
  have e3:IntKind.wrap .i64 (IntKind.wrap .i64 (IntKind.wrap .i64 (J4 u+u.startTime)+s.h) - 1)=J4 u+u.startTime+s.h - 1:=by rw[i64 (a:=J4 u+u.startTime) (by omega),i64 (a:=J4 u+u.startTime+s.h) (by omega),i64 (by omega)]
  rw[e1,D,e3]
  rcases C.2.2 with B | B | B<;>rw[B] at A ⊢
  ·rw[show decide (s.h≤J4 u)=true by simp;omega];rfl
  ·rw[show decide (s.h≤u.startTime)=true by simp;omega];rfl
  ·rw[show decide (s.h≤HO u)=true by simp;omega];rfl
 refine⟨_,?_,key⟩
 cases (s.k==0)<;>cases (s.k==1)<;>simp<;>omega
theorem Asa {N:Nat} {u:UnitD} {s:StD} {o:Bool} {K:LA→Nat→Option R} (hN:64≤N) (hs:C4 u=true) (A:DK u s):Xn N u.av o s.av false K=K ((J7 u s).flatMap StD.av) (J7 u s).length:=by
 have F:=Qg hs;have G:=VP hs;have D:=t5 hs A
 obtain⟨p,I,e⟩:=t8 (R:=R) (o:=o) (o':=false) hN hs A
 rw[du];unfold dt
 rw[D8,ct,uT,ct,show((!false)||Bd (List.take 2 s.av))=true from rfl,ct,Cg,A05,e,show decide (p<0)=false by simp;omega,cf,ct,VQ hN hs]
 simp only[Ahs,mq,Bb8,Ba6,Bac]
 unfold UE
 simp only[mq,Ba6]
 rw[i64 (a:=s.h+1) (by omega)]
 unfold J7
 rcases D.2.2 with B | B | B<;>rw[B]
 ·by_cases k:s.h<u.downTime
  ·simp[k,show ¬ u.downTime≤s.h by omega,StD.av]
  ·by_cases C:u.startTime>0
   ·simp[k,show u.downTime≤s.h by omega,C,StD.av]
   ·simp[k,show u.downTime≤s.h by omega,C,StD.av]
 ·by_cases k:s.h<u.startTime<;>simp[k,StD.av]
 ·by_cases k:s.h≥u.upTime<;>simp[k,StD.av]
end
end Gx
