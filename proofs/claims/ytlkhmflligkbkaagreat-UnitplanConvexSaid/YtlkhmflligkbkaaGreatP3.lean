/- A part of the proof: what it holds is said by each theorem. -/
import Derived.Test.YtlkhmflligkbkaaGreatP2
set_option linter.unusedVariables false
namespace Gx
open Go Go.Proofs
section
variable {R:Type}
theorem Aj6 {N:Nat} {a b:List Nat} {n m:Nat} {t o t' o':Bool} {K:Nat→Nat→Bool→LA→LA→Option R} (hn:n=a.length) (hm:m=b.length) (ha:Ai a) (hb:Ai b) (hb0:val b≠0) (hf:fit (a.length+2*b.length+4) N) :
  O6 N (Ad a) n t o (Ad b) m t' o' K=K (dig (val a/val b)).length (dig (val a%val b)).length true (Ad (dig (val a/val b))) (Ad (dig (val a%val b))):=by
 have h1:=hf.1;have h2:=hf.2
 have lb:=(Bk hb).2
 have hbl:(dig (val b)).length≠0:=fun h=>hb0 (Bo.1 h)
 rw[Aox];unfold Acm
 dsimp only
 have long:N8 N K (Ad a) n t o (dig (val b)).length (Ad (dig (val b)))=K (dig (val a/val b)).length (dig (val a%val b)).length true (Ad (dig (val a/val b))) (Ad (dig (val a%val b))):=by
  obtain⟨nb,n1,n2,n3,n4,n5⟩:=B1g (R:=R) (N:=N) (a:=a) (n:=n) (t:=false) (o:=o) hn ha (hf.le (by omega))
  unfold N8 Z0
  dsimp only
  rw[n5,hn,mk4 (by omega),ct,Ct,i64 (by omega)]
  have hz:val a/2 ^ nb=0:=Nat.div_eq_of_lt n2
  have:=A62 (R:=R) (N:=N) (a:=a) (b:=dig (val b)) (t:=t) (o:=o) (B:=val b) ha rfl (by omega) (hf.le (by omega)) nb N (List.replicate a.length 0) 0 (by omega) n1 (Cd _) (by simp) (by rw[hz];simp) (by rw[hz,Dy];simp) K
  exact this
 rw[Dc hm hb (hf.le (by omega)),i0F hbl,cf,Aj5 hn ha (hf.le (by omega)),Nat.mul_one,List.take_of_length_le (by rw[Bs];exact Nat.le_refl _)]
 by_cases ha2:val a<18446744073709551616
 ·rw[if_pos ha2,Aj5 rfl (Ac _) (hf.le (by omega)),Ah]
  by_cases hb2:val b<18446744073709551616
  ·have q64:val a/val b<18446744073709551616:=Nat.lt_of_le_of_lt (Nat.div_le_self _ _) ha2
   have r64:val a%val b<18446744073709551616:=Nat.lt_of_le_of_lt (Nat.mod_le _ _) ha2
   rw[if_pos hb2,show((true:Bool)==true)=true by rfl,ct,ctB,ct,i0F hb0,cf,Axg,w64 q64,Adw q64 (by omega),cf,Arb,Adw r64 (by omega)]
  ·rw[if_neg hb2,show((true:Bool)==true)=true by rfl,ct,ctB,cf,long]
 ·rw[if_neg ha2,Aj5 rfl (Ac _) (hf.le (by omega)),Ah]
  by_cases hb2:val b<18446744073709551616
  ·rw[if_pos hb2,show((false:Bool)==true)=false by rfl,cf,long]
  ·rw[if_neg hb2,show((false:Bool)==true)=false by rfl,cf,long]
theorem B6a {N:Nat}:∀ (k fuel A B:Nat),k<fuel→A*B<2 ^ k→B<A→fit (3*(dig A).length+4) N→∀ K:Nat→LA→Option R,D3 N K fuel (dig A).length (dig B).length (Ad (dig A)) (Ad (dig B))=K (dig (Nat.gcd A B)).length (Ad (dig (Nat.gcd A B))):=by
 have base:∀ (fuel A:Nat) (K:Nat→LA→Option R),D3 N K (fuel+1) (dig A).length (dig 0).length (Ad (dig A)) (Ad (dig 0))=K (dig (Nat.gcd A 0)).length (Ad (dig (Nat.gcd A 0))):=by
  intro fuel A K
  rw[D3];unfold Pl
  rw[Dt,show decide ((((([]:List Nat).length:Nat)):Int)>0)=false by decide,cf,Nat.gcd_zero_right]
 intro k
 induction k with
 | zero =>
  intro fuel A B hfu hxy hle hf K
  obtain⟨fuel,rfl⟩:∃ F,fuel=F+1:=⟨fuel - 1,by omega⟩
  have hy:B=0:=by
   rcases Nat.eq_zero_or_pos B with h | h
   ·exact h
   ·have h3:=Nat.mul_le_mul_left A (show 1≤B by omega)
    rw[Nat.pow_zero] at hxy;omega
  subst hy
  exact base fuel A K
 | succ k ih =>
  intro fuel A B hfu hxy hle hf K
  have h1:=hf.1;have h2:=hf.2
  obtain⟨fuel,rfl⟩:∃ F,fuel=F+1:=⟨fuel - 1,by omega⟩
  rcases Nat.eq_zero_or_pos B with h | h
  ·subst h;exact base fuel A K
  have hll:=Bv (Nat.le_of_lt hle)
  have hbl:(dig B).length≠0:=fun h0=>by have:=Bo.1 h0;omega
  have hm:=Nat.mod_lt A h
  have hh:=Are (show 1≤B by omega) (Nat.le_of_lt hle)
  have:=ih fuel B (A%B) (by omega) (by rw[Nat.pow_succ] at hxy;omega) hm (hf.le (by omega)) K
  have hg:Nat.gcd B (A%B)=Nat.gcd A B:=by rw[Nat.gcd_comm,←Nat.gcd_rec,Nat.gcd_comm]
  rw[hg] at this
  rw[D3];unfold Pl
  rw[show decide ((((dig B).length:Nat):Int)>0)=true by rw[decide_eq_true_eq];omega,ct,Nat.mul_one,Nat.mul_one,List.take_of_length_le (by rw[Bs];exact Nat.le_refl _),List.take_of_length_le (by rw[Bs];exact Nat.le_refl _),Aj6 rfl rfl (Ac _) (Ac _) (by rw[Ah];omega) (hf.le (by omega)),Ah,Ah]
  exact this
theorem B6b {N:Nat} {a b:List Nat} {n m:Nat} {t o t' o':Bool} {K:Nat→LA→Option R} (hn:n=a.length) (hm:m=b.length) (ha:Ai a) (hb:Ai b) (hf:fit (3*(a.length+b.length)+4) N) :
  Ast N (Ad a) n t o (Ad b) m t' o' K=K (dig (Nat.gcd (val a) (val b))).length (Ad (dig (Nat.gcd (val a) (val b)))):=by
 have h1:=hf.1;have h2:=hf.2
 have la:=(Bk ha).2
 have lb:=(Bk hb).2
 have hprod:val a*val b<2 ^ (32*(a.length+b.length)):=by rw[←Bxy];exact Nat.mul_lt_mul'' (Be ha) (Be hb)
 rw[A9a];unfold A1d
 dsimp only
 rw[Dc hn ha (hf.le (by omega)),Dc hm hb (hf.le (by omega))]
 obtain⟨F,hF⟩:∃ F,N=F+1:=⟨N - 1,by omega⟩
 rcases Nat.eq_zero_or_pos (val b) with h | h
 ·rw[h,Dt,Nat.gcd_zero_right,hF,D3];unfold Pl
  rw[show decide ((((([]:List Nat).length:Nat)):Int)>0)=false by decide,cf]
 ·have hm':=Nat.mod_lt (val a) h
  have hbl:(dig (val b)).length≠0:=fun h0=>by have:=Bo.1 h0;omega
  have hprod2:val b*(val a%val b)<2 ^ (32*(a.length+b.length)):=by
   have:val b*(val a%val b)≤val b*val a:=Nat.mul_le_mul_left _ (Nat.mod_le _ _)
   rw[Nat.mul_comm (val b) (val a)] at this;omega
  have:=B6a (R:=R) (N:=N) (32*(a.length+b.length)) F (val b) (val a%val b) (by omega) hprod2 hm' (hf.le (by omega)) K
  have hg:Nat.gcd (val b) (val a%val b)=Nat.gcd (val a) (val b):=by rw[Nat.gcd_comm,←Nat.gcd_rec,Nat.gcd_comm]
  rw[hg] at this
  have e:D3 N K (F+1) (dig (val a)).length (dig (val b)).length (Ad (dig (val a))) (Ad (dig (val b)))=D3 N K F (dig (val b)).length (dig (val a%val b)).length (Ad (dig (val b))) (Ad (dig (val a%val b))):=by
   rw[D3];unfold Pl
   rw[show decide ((((dig (val b)).length:Nat):Int)>0)=true by rw[decide_eq_true_eq];omega,ct,Nat.mul_one,Nat.mul_one,List.take_of_length_le (by rw[Bs];exact Nat.le_refl _),List.take_of_length_le (by rw[Bs];exact Nat.le_refl _),Aj6 rfl rfl (Ac _) (Ac _) (by rw[Ah];omega) (hf.le (by omega)),Ah,Ah]
  conv=>lhs;rw[show(D3 N K N)=D3 N K (F+1) by rw[←hF]]
  rw[e];exact this
end
end Gx

namespace Gx
open Go Go.Proofs
section
variable {R:Type}
inductive LS where
 | nil
 | of (l:List Nat) (t o:Bool)
def LS.l:LS→List Nat
 | .nil=>[]
 | .of l _ _=>l
def LS.av:LS→AV
 | .nil=>.nsl
 | .of l t o=>.imm (Ad l) l.length 1 t o
theorem B1h {s:LS} {r:List AV} {f:List AV→Nat→Option R}:rdL 1 (s.av::r) f=f (Ad s.l) s.l.length:=by
 cases s<;>simp[rdL,LS.av,LS.l,B30,Ad]
theorem B96 {b:Bool} {r:List AV} {f:Bool→Option R}:rdB (.bool b::r) f=f b:=by simp[rdB,asBool]
def Jf (neg:Bool) (s:LS):List AV:=[.bool neg,s.av]
def Av (neg:Bool) (s:LS):Int:=if neg then -(val s.l:Int) else (val s.l:Int)
theorem Ci (neg:Bool) (s:LS):(Av neg s).natAbs=val s.l:=by unfold Av;cases neg<;>simp
theorem Re {neg:Bool} {s:LS} {f:Bool→Option R}:rdB (Jf neg s) f=f neg:=B96
theorem Ny {neg:Bool} {s:LS} {f:List AV→Nat→Option R}:rdL 1 (List.drop 1 (Jf neg s)) f=f (Ad s.l) s.l.length:=by rw[Jf,List.drop_succ_cons,List.drop_zero,B1h]
theorem Mj {N:Nat} {c:Bool} {a:Nat} {b:LA} {K:Bool→Option R}:Hh N c a b K=K (c&&decide (0<a)):=by
 rw[Au9];unfold Aym
 cases c<;>simp
theorem Zd {z:Int} {c:Bool} {m:Nat} (h:z=if c then -(m:Int) else (m:Int)):(c&&decide (0<(dig m).length))=decide (z<0)∧z.natAbs=m:=by
 have hz:z.natAbs=m:=by rw[h];cases c<;>simp
 refine⟨?_,hz⟩
 by_cases h0:m=0
 ·subst h0;rw[h,Dt];cases c<;>simp
 ·have:0<(dig m).length:=by
   rcases Nat.eq_zero_or_pos (dig m).length with h1 | h1
   ·exact absurd (Bo.1 h1) h0
   ·exact h1
  rw[h];cases c<;>simp[this]<;>omega
theorem Bn3 {N:Nat} {v:Int} (hv:-9223372036854775808≤v∧v≤9223372036854775807) (hN:4≤N):∃ S,Ai S∧val S=v.natAbs∧∀ K:Bool→Nat→LA→Option R,Tb N v K=K (decide (v<0)) (dig v.natAbs).length (Ad S):=by
 have hb:v.natAbs<18446744073709551616:=by omega
 obtain⟨S,s1,s2,s3⟩:=Jx (R:=R) (N:=N) hb hN
 refine⟨S,s1,s2,fun K=>?_⟩
 rw[Ao7];unfold Ao6
 by_cases h:v<0
 ·have e:IntKind.wrap .u64 ((0:Int) - IntKind.wrap .u64 v)=(v.natAbs:Int):=by rw[Ayg,Ayg];omega
  rw[decide_eq_true h,ct,e,s3,Mj]
  have h0:v.natAbs≠0:=by omega
  have:0<(dig v.natAbs).length:=by
   rcases Nat.eq_zero_or_pos (dig v.natAbs).length with h1 | h1
   ·exact absurd (Bo.1 h1) h0
   ·exact h1
  simp[this]
 ·have e:IntKind.wrap .u64 v=(v.natAbs:Int):=by rw[Ayg];omega
  rw[decide_eq_false h,cf,e,s3,Mj];rfl
theorem Azr {N:Nat} {neg:Bool} {s:LS} {o:Bool} {K:Int→Option R} (hs:Ai s.l) (hf:fit s.l.length N):Acs N (Jf neg s) o K=K (Av neg s).sign:=by
 rw[A9q];unfold Bgn
 rw[Ny,Bke rfl hs hf]
 unfold Av
 by_cases h:val s.l=0
 ·rw[h,Zb,show((0:Int)==0)=true by rfl,ct];cases neg<;>rfl
 ·have:G6 (val s.l) 0=1:=by unfold G6;rw[if_neg (by omega),if_pos (by omega)]
  rw[this,show((1:Int)==0)=false by rfl,cf,Re]
  cases neg
  ·rw[cf];simp only[Bool.false_eq_true,if_false]
   congr 1
   rw[Int.sign_eq_one_of_pos];omega
  ·rw[ct];simp only[if_true]
   congr 1
   rw[Int.sign_eq_neg_one_of_neg];omega
theorem Ag8 {N:Nat} {n1 n2:Bool} {s1 s2:LS} {o1 o2:Bool} (h1:Ai s1.l) (h2:Ai s2.l) (hf:fit (s1.l.length+s2.l.length) N):∃ S,Ai S∧val S=(Av n1 s1*Av n2 s2).natAbs∧∀ K:Bool→Nat→LA→Option R,Ae0 N (Jf n1 s1) o1 (Jf n2 s2) o2 K=K (decide (Av n1 s1*Av n2 s2<0)) (dig (Av n1 s1*Av n2 s2).natAbs).length (Ad S):=by
 obtain⟨S,a1,a2,a3⟩:=Ara (R:=R) (N:=N) (a:=s1.l) (b:=s2.l) (t:=false) (o:=o1) (t':=false) (o':=o2) rfl rfl h1 h2 hf
 have hz:Av n1 s1*Av n2 s2=if (!(n1==n2)) then -((val s1.l*val s2.l:Nat):Int) else ((val s1.l*val s2.l:Nat):Int):=by
  unfold Av;cases n1<;>cases n2<;>simp[Int.mul_neg,Int.neg_mul]
 obtain⟨c1,c2⟩:=Zd hz
 refine⟨S,a1,by rw[a2,c2],fun K=>?_⟩
 rw[Bg2];unfold Bsy
 rw[Re,Re,Ny,Ny,a3,Mj,c1,c2]
theorem Bqu {N:Nat} {n1 n2:Bool} {s1 s2:LS} {o1 o2:Bool} (h1:Ai s1.l) (h2:Ai s2.l) (hf:fit (s1.l.length+s2.l.length+1) N):∃ S,Ai S∧val S=(Av n1 s1+Av n2 s2).natAbs∧∀ K:Bool→Nat→LA→Option R,Aze N (Jf n1 s1) o1 (Jf n2 s2) o2 K=K (decide (Av n1 s1+Av n2 s2<0)) (dig (Av n1 s1+Av n2 s2).natAbs).length (Ad S):=by
 by_cases hn:n1=n2
 ·subst hn
  obtain⟨S,a1,a2,a3⟩:=B7o (R:=R) (N:=N) (a:=s1.l) (b:=s2.l) (t:=false) (o:=o1) (t':=false) (o':=o2) rfl rfl h1 h2 hf
  have hz:Av n1 s1+Av n1 s2=if n1 then -((val s1.l+val s2.l:Nat):Int) else ((val s1.l+val s2.l:Nat):Int):=by
   unfold Av;cases n1<;>simp;omega
  obtain⟨c1,c2⟩:=Zd hz
  refine⟨S,a1,by rw[a2,c2],fun K=>?_⟩
  rw[Ajk];unfold A2u
  rw[Re,Re,show(n1==n1)=true by simp,ct,Re,Ny,Ny,a3,Mj,c1,c2]
 ·have hne:(n1==n2)=false:=by simp[hn]
  by_cases hle:val s2.l≤val s1.l
  ·obtain⟨S,a1,a2,a3⟩:=Bkh (R:=R) (N:=N) (a:=s1.l) (b:=s2.l) (t:=false) (o:=o1) (t':=false) (o':=o2) rfl rfl h1 h2 (hf.le (by omega)) hle
   have hz:Av n1 s1+Av n2 s2=if n1 then -((val s1.l - val s2.l:Nat):Int) else ((val s1.l - val s2.l:Nat):Int):=by
    unfold Av;cases n1<;>cases n2<;>simp at hn ⊢<;>omega
   obtain⟨c1,c2⟩:=Zd hz
   refine⟨S,a1,by rw[a2,c2],fun K=>?_⟩
   rw[Ajk];unfold A2u
   rw[Re,Re,hne,cf,Ny,Ny,a3,ct,Re,Mj,c1,c2]
  ·obtain⟨S,a1,a2,a3⟩:=Bkh (R:=R) (N:=N) (a:=s2.l) (b:=s1.l) (t:=false) (o:=o2) (t':=false) (o':=o1) rfl rfl h2 h1 (hf.le (by omega)) (by omega)
   have hz:Av n1 s1+Av n2 s2=if n2 then -((val s2.l - val s1.l:Nat):Int) else ((val s2.l - val s1.l:Nat):Int):=by
    unfold Av;cases n1<;>cases n2<;>simp at hn ⊢<;>omega
   obtain⟨c1,c2⟩:=Zd hz
   refine⟨S,a1,by rw[a2,c2],fun K=>?_⟩
   rw[Ajk];unfold A2u
   rw[Re,Re,hne,cf,Ny,Ny,B7p rfl rfl h1 h2 (hf.le (by omega)) (by omega),cf,Ny,Ny,a3,Re,Mj,c1,c2]
theorem B1i {N:Nat} {n1:Bool} {s1:LS} {o1:Bool} {K:Bool→Nat→LA→Option R} (h1:Ai s1.l) (hf:fit s1.l.length N):As4 N (Jf n1 s1) o1 K=K (decide (Av n1 s1<0)) (dig (Av n1 s1).natAbs).length (Ad (dig (Av n1 s1).natAbs)):=by
 obtain⟨c1,c2⟩:=Zd (z:=Av n1 s1) (c:=n1) (m:=val s1.l) (by unfold Av;cases n1<;>simp)
 rw[A97];unfold Bhe
 rw[Re,Ny,Atf rfl h1 hf,Mj,c1,c2]
def A3v (x y:Int):Int:=if x<y then -1 else if y<x then 1 else 0
theorem B72 (x y:Nat):A3v (x:Int) (y:Int)=G6 x y:=by unfold A3v G6;simp
theorem B73 (x y:Nat):A3v (-(x:Int)) (-(y:Int))=G6 y x:=by
 unfold A3v G6
 by_cases h:y<x
 ·rw[if_pos (by omega),if_pos h]
 ·rw[if_neg (by omega),if_neg h]
  by_cases h2:x<y
  ·rw[if_pos (by omega),if_pos h2]
  ·rw[if_neg (by omega),if_neg h2]
theorem Bn4 {N:Nat} {n1 n2:Bool} {s1 s2:LS} {o1 o2:Bool} {K:Int→Option R} (h1:Ai s1.l) (h2:Ai s2.l) (hf:fit (s1.l.length+s2.l.length) N):Th N (Jf n1 s1) o1 (Jf n2 s2) o2 K=K (A3v (Av n1 s1) (Av n2 s2)):=by
 rw[Apn];unfold Apm
 have l2:∀ n s,List.take 2 (Jf n s)=Jf n s:=fun n s=>rfl
 have l3:∀ n s,Nat.ble 2 (List.length (Jf n s))=true:=fun n s=>rfl
 rw[l2,l2,l3,l3,ct,Azr h1 (hf.le (by omega)),ct,Azr h2 (hf.le (by omega))]
 have sg:∀ z:Int,z.sign=if z<0 then -1 else if 0<z then 1 else 0:=by
  intro z
  rcases Int.lt_trichotomy z 0 with h | h | h
  ·rw[Int.sign_eq_neg_one_of_neg h,if_pos h]
  ·subst h;rfl
  ·rw[Int.sign_eq_one_of_pos h,if_neg (by omega),if_pos h]
 by_cases c1:(Av n1 s1).sign<(Av n2 s2).sign
 ·rw[decide_eq_true c1,ct]
  rw[sg,sg] at c1
  unfold A3v;rw[if_pos]
  split at c1<;>split at c1<;>(try split at c1)<;>(try split at c1)<;>omega
 ·rw[decide_eq_false c1,cf]
  by_cases c2:(Av n1 s1).sign>(Av n2 s2).sign
  ·rw[decide_eq_true c2,ct]
   rw[sg,sg] at c2
   unfold A3v;rw[if_neg,if_pos]
   ·split at c2<;>split at c2<;>(try split at c2)<;>(try split at c2)<;>omega
   ·split at c2<;>split at c2<;>(try split at c2)<;>(try split at c2)<;>omega
  ·rw[decide_eq_false c2,cf]
   have he:(Av n1 s1).sign=(Av n2 s2).sign:=by omega
   by_cases c3:(Av n1 s1).sign<0
   ·rw[decide_eq_true c3,ct,Ny,Ny,P0 rfl rfl h2 h1 (hf.le (by omega))]
    have p1:Av n1 s1<0:=by rw[sg] at c3;split at c3;assumption;split at c3<;>omega
    have p2:Av n2 s2<0:=by rw[he,sg] at c3;split at c3;assumption;split at c3<;>omega
    have e1:Av n1 s1=-(val s1.l:Int):=by unfold Av at p1 ⊢;cases n1<;>simp at p1 ⊢;omega
    have e2:Av n2 s2=-(val s2.l:Int):=by unfold Av at p2 ⊢;cases n2<;>simp at p2 ⊢;omega
    rw[e1,e2,B73]
   ·rw[decide_eq_false c3,cf,Ny,Ny,P0 rfl rfl h1 h2 (hf.le (by omega))]
    have p1:0≤Av n1 s1:=by
     apply Int.not_lt.1;intro h;rw[Int.sign_eq_neg_one_of_neg h] at c3;omega
    have p2:0≤Av n2 s2:=by
     apply Int.not_lt.1;intro h;rw[he,Int.sign_eq_neg_one_of_neg h] at c3;omega
    have e1:Av n1 s1=(val s1.l:Int):=by have:=Ci n1 s1;omega
    have e2:Av n2 s2=(val s2.l:Int):=by have:=Ci n2 s2;omega
    rw[e1,e2,B72]
end
end Gx

namespace Gx
open Go Go.Proofs
section
variable {R:Type}
theorem Bkl (z:Int) (d:Nat) (hd:d≠0):(mkRat z d).num.natAbs=z.natAbs/Nat.gcd z.natAbs d∧((mkRat z d).num<0↔z<0)∧(mkRat z d).den=d/Nat.gcd z.natAbs d:=by
 have hg:0<Nat.gcd z.natAbs d:=Nat.gcd_pos_of_pos_right _ (by omega)
 rw[Rat.num_mkRat,Rat.den_mkRat,if_neg hd,if_neg hd,Nat.gcd_comm d]
 have hdv:((Nat.gcd z.natAbs d:Nat):Int)∣z:=Int.dvd_natAbs.1 (Int.natCast_dvd_natCast.2 (Nat.gcd_dvd_left _ _))
 obtain⟨c,hc⟩:=hdv
 have hgz:z.natAbs.gcd d=Nat.gcd z.natAbs d:=rfl
 generalize Nat.gcd z.natAbs d=g at *
 refine⟨?_,?_,rfl⟩
 ·rw[hc,Int.mul_ediv_cancel_left _ (by omega),Int.natAbs_mul,Int.natAbs_natCast,Nat.mul_div_cancel_left _ hg]
 ·rw[hc,Int.mul_ediv_cancel_left _ (by omega)]
  constructor
  ·intro h;exact Int.mul_neg_of_pos_of_neg (by omega) h
  ·intro h;rcases Int.lt_or_le c 0 with h1 | h1
   ·exact h1
   ·have:=Int.mul_nonneg (show(0:Int)≤g by omega) h1;omega
structure RatD where
 neg:Bool
 ns:LS
 ds:LS
def RatD.av (x:RatD):List AV:=[.bool x.neg,x.ns.av,x.ds.av]
def RatD.ok (x:RatD):Prop:=Ai x.ns.l∧Ai x.ds.l
def RatD.m (x:RatD):Nat:=max x.ns.l.length x.ds.l.length
def RatD.q (x:RatD):Rat:=mkRat (Av x.neg x.ns) (val x.ds.l)
def RatD.can (x:RatD) (q:Rat):Prop:=x.neg=decide (q.num<0)∧x.ns.l=dig q.num.natAbs∧x.ds.l=dig q.den
def qm (q:Rat):Nat:=max (dig q.num.natAbs).length (dig q.den).length
theorem RatD.can.ok {x:RatD} {q:Rat} (h:x.can q):x.ok:=⟨by rw[h.2.1];exact Ac _,by rw[h.2.2];exact Ac _⟩
theorem RatD.can.m {x:RatD} {q:Rat} (h:x.can q):x.m=qm q:=by unfold RatD.m qm;rw[h.2.1,h.2.2]
theorem RatD.can.q {x:RatD} {q:Rat} (h:x.can q):x.q=q:=by
 unfold RatD.q Av
 rw[h.1,h.2.1,h.2.2,Ah,Ah]
 have:(if decide (q.num<0)=true then -(q.num.natAbs:Int) else (q.num.natAbs:Int))=q.num:=by
  by_cases h0:q.num<0
  ·rw[if_pos (by simpa using h0)];omega
  ·rw[if_neg (by simpa using h0)];omega
 rw[this,Rat.mkRat_self]
theorem Car {x:RatD} {f:Bool→Option R}:rdB x.av f=f x.neg:=B96
theorem B74 {x:RatD} {f:List AV→Nat→Option R}:rdL 1 (List.drop 1 x.av) f=f (Ad x.ns.l) x.ns.l.length:=by rw[RatD.av,List.drop_succ_cons,List.drop_zero,B1h]
theorem Bkm {x:RatD} {f:List AV→Nat→Option R}:rdL 1 (List.drop 2 x.av) f=f (Ad x.ds.l) x.ds.l.length:=by rw[RatD.av,List.drop_succ_cons,List.drop_succ_cons,List.drop_zero,B1h]
theorem Hd (x:RatD):Nat.ble 3 (List.length x.av)=true:=rfl
theorem C8 (x:RatD):List.take 3 x.av=x.av:=rfl
theorem B97 (x:RatD):List.take 2 x.av=Jf x.neg x.ns:=rfl
theorem Cbh (x:RatD):Nat.beq (List.length x.av) 3=true:=rfl
theorem Axh (n:Bool) (s:LS):((Nat.beq 0 0)&&((Nat.beq (List.length (Jf n s)) 2)&&(Nat.beq 2 2)))=true:=rfl
theorem Azs (n:Bool) (s:LS):Nat.ble 2 (List.length (Jf n s))=true:=rfl
theorem tk2 (n:Bool) (s:LS):List.take 2 (Jf n s)=Jf n s:=rfl
theorem B75:([.int .u32 1]:List AV)=Ad [1]:=rfl
theorem B6c:Ai [1]:=by intro x hx;simp at hx;omega
theorem Yv:dig 1=[1]:=by rw[Aiw (by omega)];simp[Dt]
theorem D7 {v:Nat} {S:List Nat} (h1:Ai S) (h2:val S=v):List.take ((dig v).length*1) (Ad S)=Ad (dig v):=by rw[←h2,K5 h1]
theorem ofA (neg:Bool) (l:List Nat) (t o:Bool):([.bool neg,.imm (Ad l) l.length 1 t o]:List AV)=Jf neg (.of l t o):=rfl
theorem In {z:Int} {t o:Bool}:Av (decide (z<0)) (.of (dig z.natAbs) t o)=z:=by
 unfold Av LS.l;rw[Ah]
 by_cases h:z<0
 ·rw[if_pos (by simpa using h)];omega
 ·rw[if_neg (by simpa using h)];omega
theorem Bn5 {N:Nat} {v:Int} (hv:-9223372036854775808≤v∧v≤9223372036854775807) (hN:4≤N):∃ d:RatD,d.can (v:Rat)∧∀ K:LA→Option R,Da N v K=K d.av:=by
 obtain⟨S,s1,s2,s3⟩:=Bn3 (R:=R) (N:=N) hv hN
 refine⟨⟨decide (v<0),.of (dig v.natAbs) false false,.of (dig 1) false false⟩,⟨rfl,rfl,rfl⟩,fun K=>?_⟩
 rw[Apa];unfold Ao9
 rw[s3,D7 s1 s2,Yv];rfl
theorem Mk {N:Nat} {x:RatD} {o:Bool} (hx:x.ok) (hf:fit x.m N):∃ (neg:Bool) (s:LS) (l:List Nat) (o1 o2:Bool),Ai s.l∧Ai l∧val l≠0∧s.l.length≤x.m∧l.length≤max x.m 1∧mkRat (Av neg s) (val l)=x.q∧∀ K:LA→Bool→LA→Nat→Bool→Option R,Ix N x.av o K=K (Jf neg s) o1 (Ad l) l.length o2:=by
 have hm1:x.ns.l.length≤x.m:=Nat.le_max_left _ _
 have hm2:x.ds.l.length≤x.m:=Nat.le_max_right _ _
 by_cases h0:val x.ds.l=0
 ·refine⟨false,.nil,[1],false,false,S7,B6c,by decide,by simp[LS.l],by simp;omega,?_,fun K=>?_⟩
  ·unfold RatD.q;rw[h0];simp[Av,LS.l,val]
  ·rw[Ai8];unfold Asy
   rw[Bkm,Bke rfl hx.2 (hf.le hm2),h0,Zb];rfl
 ·refine⟨x.neg,x.ns,x.ds.l,o,o,hx.1,hx.2,h0,hm1,by omega,rfl,fun K=>?_⟩
  have:G6 (val x.ds.l) 0=1:=by unfold G6;rw[if_neg (by omega),if_pos (by omega)]
  rw[Ai8];unfold Asy
  rw[Bkm,Bke rfl hx.2 (hf.le hm2),this,show((1:Int)==0)=false by rfl,cf,show Nat.ble 2 (List.length x.av)=true by rfl,ct,Bkm,B97,Axh,ct,Azs,ct,tk2]
theorem Cbi (z:Int) (d:Nat) (hd:d≠0):(mkRat z d).num.sign=z.sign:=by
 obtain⟨h1,h2,_⟩:=Bkl z d hd
 rcases Int.lt_trichotomy z 0 with h | h | h
 ·rw[Int.sign_eq_neg_one_of_neg h,Int.sign_eq_neg_one_of_neg (h2.2 h)]
 ·subst h;simp
 ·have hn:¬ (mkRat z d).num<0:=fun hh=>by have:=h2.1 hh;omega
  have h0:(mkRat z d).num≠0:=fun hh=>by
   have:mkRat z d=0:=Rat.num_eq_zero.1 hh
   rw[Rat.mkRat_eq_zero hd] at this;omega
  rw[Int.sign_eq_one_of_pos h,Int.sign_eq_one_of_pos (by omega)]
theorem Ml {N:Nat} {x:RatD} {o:Bool} {K:Int→Option R} (hx:x.ok) (hf:fit x.m N):Ub N x.av o K=K x.q.num.sign:=by
 obtain⟨neg,s,l,o1,o2,p1,p2,p3,p4,p5,p6,p7⟩:=Mk (R:=R) (o:=o) hx hf
 rw[A9s];unfold Bgs
 rw[Hd,ct,C8,p7,Axh,ct,Azs,ct,tk2,Azr p1 (hf.le p4),←p6,Cbi _ _ p3]
theorem Ig {N:Nat} {x:RatD} {o:Bool} (hx:x.ok) (hf:fit x.m N):(∃ (n:Int) (d:Nat),-2147483648<n∧n<2147483648∧0<d∧d<2147483648∧mkRat n d=x.q∧∀ K:Int→Int→Bool→Option R,Fv N x.av o K=K n (d:Int) true)∨(∀ K:Int→Int→Bool→Option R,Fv N x.av o K=K 0 0 false):=by
 have hm1:x.ns.l.length≤x.m:=Nat.le_max_left _ _
 have hm2:x.ds.l.length≤x.m:=Nat.le_max_right _ _
 by_cases h1:val x.ns.l<2147483648
 ·by_cases h2:val x.ds.l<2147483648
  ·left
   have e:∀ K:Int→Int→Bool→Option R,Fv N x.av o K=E9 N K (val x.ns.l:Int) (val x.ds.l:Int) o x.av false:=by
    intro K
    rw[Yj];unfold Y9
    rw[B74,Mi rfl hx.1 (hf.le hm1),if_pos (by omega),Bkm,Mi rfl hx.2 (hf.le hm2),if_pos (by omega)]
    rw[show((!true)==false)=true by rfl,ct,show((cond false true (!true))==false)=true by rfl,ct,show decide (((val x.ns.l:Nat):Int)≥2147483648)=false by rw[decide_eq_false_iff_not];omega,show((cond false true false)==false)=true by rfl,ct,show decide (((val x.ds.l:Nat):Int)≥2147483648)=false by rw[decide_eq_false_iff_not];omega]
    rfl
   by_cases h0:val x.ds.l=0
   ·refine⟨0,1,by omega,by omega,by omega,by omega,by unfold RatD.q;rw[h0];simp,fun K=>?_⟩
    rw[e];unfold E9
    rw[cf,i0T h0,ct];rfl
   ·have hn:=Ci x.neg x.ns
    refine⟨Av x.neg x.ns,val x.ds.l,by omega,by omega,by omega,h2,rfl,fun K=>?_⟩
    rw[e];unfold E9
    rw[cf,i0F h0,cf,Car,i64 (a:=((val x.ns.l:Nat):Int)) (by omega),i64 (a:=((val x.ds.l:Nat):Int)) (by omega)]
    unfold Av
    cases x.neg
    ·rfl
    ·rw[ct,i64 (by omega),Int.zero_sub];rfl
  ·right
   intro K
   rw[Yj];unfold Y9
   rw[B74,Mi rfl hx.1 (hf.le hm1),if_pos (by omega),Bkm,Mi rfl hx.2 (hf.le hm2),show((!true)==false)=true by rfl]
   by_cases h3:val x.ds.l<18446744073709551616
   ·rw[if_pos h3,ct,show((cond false true (!true))==false)=true by rfl,ct,show decide (((val x.ns.l:Nat):Int)≥2147483648)=false by rw[decide_eq_false_iff_not];omega,show((cond false true false)==false)=true by rfl,ct,show decide (((val x.ds.l:Nat):Int)≥2147483648)=true by rw[decide_eq_true_eq];omega]
    unfold E9;rfl
   ·rw[if_neg h3,ct,show((cond false true (!false))==false)=false by rfl,cf]
    unfold E9;rfl
 ·right
  intro K
  rw[Yj];unfold Y9
  rw[B74,Mi rfl hx.1 (hf.le hm1)]
  by_cases h3:val x.ns.l<18446744073709551616
  ·rw[if_pos h3,Bkm,Mi rfl hx.2 (hf.le hm2),show((!true)==false)=true by rfl,show decide (((val x.ns.l:Nat):Int)≥2147483648)=true by rw[decide_eq_true_eq];omega]
   by_cases h4:val x.ds.l<18446744073709551616
   ·rw[if_pos h4,ct,show((cond false true (!true))==false)=true by rfl,ct]
    unfold E9;rfl
   ·rw[if_neg h4,ct,show((cond false true (!false))==false)=false by rfl,cf]
    unfold E9;rfl
  ·rw[if_neg h3,Bkm,Mi rfl hx.2 (hf.le hm2),show((!false)==false)=false by rfl]
   split<;>(rw[cf];unfold E9;rfl)
theorem Bqv {N:Nat} {a b c:Nat} {s:Int} (hN:4≤N) (ha:a<18446744073709551616) (hb:b<9223372036854775808) (hg0:0<c) (hga:c∣a):∀ (k fuel x y:Nat),k<fuel→x*y<2 ^ k→y≤x→Nat.gcd x y=c→∃ d:RatD,d.neg=decide (s<0)∧d.ns.l=dig (a/c)∧d.ds.l=dig (b/c)∧∀ K:LA→Option R,Cv N K s (b:Int) (a:Int) fuel (x:Int) (y:Int)=K d.av:=by
 have base:∀ (fuel:Nat),∃ d:RatD,d.neg=decide (s<0)∧d.ns.l=dig (a/c)∧d.ds.l=dig (b/c)∧∀ K:LA→Option R,Cv N K s (b:Int) (a:Int) (fuel+1) (c:Int) ((0:Nat):Int)=K d.av:=by
  intro fuel
  have q1:a/c<18446744073709551616:=Nat.lt_of_le_of_lt (Nat.div_le_self _ _) ha
  have q2:b/c<18446744073709551616:=Nat.lt_of_le_of_lt (Nat.div_le_self _ _) (by omega)
  obtain⟨S1,s1,s2,s3⟩:=Jx (R:=R) (N:=N) q1 hN
  obtain⟨S2,t1,t2,t3⟩:=Jx (R:=R) (N:=N) q2 hN
  refine⟨⟨decide (s<0),.of (dig (a/c)) false false,.of (dig (b/c)) false false⟩,rfl,rfl,rfl,fun K=>?_⟩
  rw[Cv];unfold Ks
  rw[show(((0:Nat):Int) != 0)=false by rfl,cf,i0F (by omega),cf,Axg,w64 q1,s3,cf,w64 (show b<18446744073709551616 by omega),Axg,w64 q2,t3,D7 s1 s2,D7 t1 t2];rfl
 intro k
 induction k with
 | zero =>
  intro fuel x y hf hxy hle hg
  obtain⟨fuel,rfl⟩:∃ F,fuel=F+1:=⟨fuel - 1,by omega⟩
  have hy:y=0:=by
   rcases Nat.eq_zero_or_pos y with h | h
   ·exact h
   ·have h3:=Nat.mul_le_mul_left x (show 1≤y by omega)
    rw[Nat.pow_zero] at hxy;omega
  subst hy
  rw[Nat.gcd_zero_right] at hg;subst hg
  exact base fuel
 | succ k ih =>
  intro fuel x y hf hxy hle hg
  obtain⟨fuel,rfl⟩:∃ F,fuel=F+1:=⟨fuel - 1,by omega⟩
  rcases Nat.eq_zero_or_pos y with h | h
  ·subst h;rw[Nat.gcd_zero_right] at hg;subst hg;exact base fuel
  ·have hh:=Are (show 1≤y by omega) hle
   have hm:=Nat.mod_lt x h
   have hg2:Nat.gcd y (x%y)=Nat.gcd x y:=by rw[Nat.gcd_comm,←Nat.gcd_rec,Nat.gcd_comm]
   obtain⟨d,d1,d2,d3,d4⟩:=ih fuel y (x%y) (by omega) (by rw[Nat.pow_succ] at hxy;omega) (by omega) (by rw[hg2,hg])
   refine⟨d,d1,d2,d3,fun K=>?_⟩
   rw[Cv];unfold Ks
   rw[show((y:Int) != 0)=true by rw[bne_iff_ne];omega,ct,i0F (by omega),cf,Arb]
   exact d4 K
theorem Ae7 {N:Nat} {s:Int} {b:Nat} (hs:-9223372036854775808≤s∧s≤9223372036854775807) (hb0:0<b) (hb:b<9223372036854775808) (hN:1000≤N):∃ d:RatD,d.can (mkRat s b)∧∀ K:LA→Option R,Hs N s (b:Int) K=K d.av:=by
 obtain⟨m1,m2,m3⟩:=Bkl s b (by omega)
 have hcan:∀ d:RatD,d.neg=decide (s<0)→d.ns.l=dig (s.natAbs/Nat.gcd s.natAbs b)→d.ds.l=dig (b/Nat.gcd s.natAbs b)→d.can (mkRat s b):=by
  intro d h1 h2 h3
  exact⟨by rw[h1];congr 1;exact propext m2.symm,by rw[h2,m1],by rw[h3,m3]⟩
 have ha:s.natAbs<18446744073709551616:=by omega
 have start:∀ K:LA→Option R,Hs N s (b:Int) K=Cv N K s (b:Int) (s.natAbs:Int) N (b:Int) (s.natAbs:Int):=by
  intro K
  rw[Alm];unfold Yk Qx Wo
  dsimp only
  by_cases h:s<0
  ·have e:IntKind.wrap .u64 ((0:Int) - IntKind.wrap .u64 s)=(s.natAbs:Int):=by rw[Ayg,Ayg];omega
   rw[decide_eq_true h,ct,e,w64 (by omega)]
  ·have e:IntKind.wrap .u64 s=(s.natAbs:Int):=by rw[Ayg];omega
   rw[decide_eq_false h,cf,e,w64 (by omega)]
 have hg0:0<Nat.gcd s.natAbs b:=Nat.gcd_pos_of_pos_right _ hb0
 by_cases hle:s.natAbs≤b
 ·obtain⟨d,d1,d2,d3,d4⟩:=Bqv (R:=R) (N:=N) (a:=s.natAbs) (b:=b) (c:=Nat.gcd s.natAbs b) (s:=s) (by omega) ha hb hg0 (Nat.gcd_dvd_left _ _) 128 N b s.natAbs (by omega) (by
   have:=Nat.mul_lt_mul'' (show b<18446744073709551616 by omega) ha;exact this) hle (Nat.gcd_comm _ _)
  exact⟨d,hcan d d1 d2 d3,fun K=>by rw[start,d4]⟩
 ·obtain⟨F,hF⟩:∃ F,N=F+1:=⟨N - 1,by omega⟩
  obtain⟨d,d1,d2,d3,d4⟩:=Bqv (R:=R) (N:=N) (a:=s.natAbs) (b:=b) (c:=Nat.gcd s.natAbs b) (s:=s) (by omega) ha hb hg0 (Nat.gcd_dvd_left _ _) 128 F s.natAbs (b%s.natAbs) (by omega) (by
   rw[Nat.mod_eq_of_lt (by omega)]
   have:=Nat.mul_lt_mul'' ha (show b<18446744073709551616 by omega);exact this) (by rw[Nat.mod_eq_of_lt (by omega)];omega) (by rw[Nat.mod_eq_of_lt (by omega)])
  refine⟨d,hcan d d1 d2 d3,fun K=>?_⟩
  rw[start,←d4 K]
  conv=>lhs;rw[show(Cv N K s (b:Int) (s.natAbs:Int) N)=Cv N K s (b:Int) (s.natAbs:Int) (F+1) by rw[←hF]]
  rw[Cv];unfold Ks
  rw[show(((s.natAbs:Nat):Int) != 0)=true by rw[bne_iff_ne];omega,ct,i0F (by omega),cf,Arb]
end
end Gx

namespace Gx
open Go Go.Proofs
section
variable {R:Type}
theorem B85 {S:List Nat} {g:Nat} (h1:Ai S) (h2:val S=g) (hl:(dig g).length=1) {f:Int→Option R}:rdI .u32 (Ad S) f=f (g:Int):=by
 have h3:=(Bk h1).2
 rw[h2,hl] at h3
 have h4:=Bw1 h1
 rw[h2,hl] at h4
 obtain⟨a,hd⟩:∃ a,dig g=[a]:=by
  match h:dig g,hl with
  | [a],_=>exact⟨a,rfl⟩
 have ha:a=g:=by have:=Ah g;rw[hd] at this;simpa[val] using this
 rw[hd,ha] at h4
 match S,h3,h4 with
 | x::r,_,h4 =>
  simp at h4;subst h4
  rw[Y5,Ax]
theorem Adx {N:Nat} {neg:Bool} {s:LS} {l:List Nat} {n:Nat} {o t o':Bool} (hn:n=l.length) (hs:Ai s.l) (hl:Ai l) (hl0:val l≠0) (hf:fit (2*(s.l.length+l.length)+8) N) :
  ∃ d:RatD,d.can (mkRat (Av neg s) (val l))∧∀ K:LA→Option R,Lb N (Jf neg s) o (Ad l) n t o' K=K d.av:=by
 obtain⟨m1,m2,m3⟩:=Bkl (Av neg s) (val l) hl0
 have hna:=Ci neg s
 have ls:=(Bk hs).2
 have ll:=(Bk hl).2
 generalize hz:Av neg s=z at *
 have start:∀ K:LA→Option R,Lb N (Jf neg s) o (Ad l) n t o' K=cond ((((dig z.natAbs).length:Nat):Int)==(0:Int)) (K [(.bool false),.nsl,(.imm [(.int .u32 1)] 1 1 false false)]) (Ap2 N (Ad (dig z.natAbs)) (dig z.natAbs).length false true (Ad (dig (val l))) (dig (val l)).length false true (fun f g=>(cond ((((f:Nat):Int) != (1:Int))==false) (cond (Aj (0:Int) f) (rdI .u32 g fun y=>(cond (cond false true (y != (1:Int))) (Ec N (Ad (dig z.natAbs)) (dig z.natAbs).length false true (List.take (f*1) g) f false true (fun p ae af z2 ag=>(Ec N (Ad (dig (val l))) (dig (val l)).length false true (List.take (f*1) g) f false true (fun q ah ai aa aj=>(K [(.bool (decide (z<0))),(.imm (List.take (p*1) z2) p 1 false false),(.imm (List.take (q*1) aa) q 1 false false)]))))) (K [(.bool (decide (z<0))),(.imm (Ad (dig z.natAbs)) (dig z.natAbs).length 1 false false),(.imm (Ad (dig (val l))) (dig (val l)).length 1 false false)]))) none) (Ec N (Ad (dig z.natAbs)) (dig z.natAbs).length false true (List.take (f*1) g) f false true (fun r ak al ab am=>(Ec N (Ad (dig (val l))) (dig (val l)).length false true (List.take (f*1) g) f false true (fun s an ao ac ap=>(K [(.bool (decide (z<0))),(.imm (List.take (r*1) ab) r 1 false false),(.imm (List.take (s*1) ac) s 1 false false)])))))))):=by
  intro K
  rw[Awp];unfold Aza
  have tk:∀ v:Nat,List.take ((dig v).length*1) (Ad (dig v))=Ad (dig v):=fun v=>D7 (Ac _) (Ah v)
  rw[Re,Ny,show Nat.beq (List.length (Jf neg s)) 2=true by rfl,ct,ofA,B1i (s1:=.of s.l false o) hs (hf.le (by simp[LS.l];omega)),show Av neg (.of s.l false o)=z by rw[←hz];rfl,Atf hn hl (hf.le (by omega)),tk,tk]
 by_cases h0:z=0
 ·refine⟨⟨false,.nil,.of [1] false false⟩,?_,fun K=>?_⟩
  ·rw[h0];simp only[Rat.zero_mkRat]
   exact⟨rfl,rfl,Yv.symm⟩
  ·rw[start,h0];rfl
 ·have hz0:z.natAbs≠0:=by omega
  have hlen:(dig z.natAbs).length≠0:=fun h=>hz0 (Bo.1 h)
  have hg0:0<Nat.gcd z.natAbs (val l):=Nat.gcd_pos_of_pos_right _ (by omega)
  have lz:(dig z.natAbs).length≤s.l.length:=by rw[hna];exact ls
  obtain⟨G,g1,g2,g3⟩:=B7z (R:=R) (N:=N) (a:=dig z.natAbs) (b:=dig (val l)) (t:=false) (o:=true) (t':=false) (o':=true) rfl rfl (Ac _) (Ac _) (hf.le (by omega))
  rw[Ah,Ah] at g2 g3
  have lg:(dig (Nat.gcd z.natAbs (val l))).length≤l.length:=Nat.le_trans (Bv (Nat.gcd_le_right _ (by omega))) ll
  obtain⟨Q1,R1,a1,a2,a3,a4,a5⟩:=Ard (R:=R) (N:=N) (a:=dig z.natAbs) (b:=dig (Nat.gcd z.natAbs (val l))) (t:=false) (o:=true) (t':=false) (o':=true) rfl rfl (Ac _) (Ac _) (by rw[Ah];omega) (hf.le (by omega))
  obtain⟨Q2,R2,b1,b2,b3,b4,b5⟩:=Ard (R:=R) (N:=N) (a:=dig (val l)) (b:=dig (Nat.gcd z.natAbs (val l))) (t:=false) (o:=true) (t':=false) (o':=true) rfl rfl (Ac _) (Ac _) (by rw[Ah];omega) (hf.le (by omega))
  rw[Ah,Ah] at a2 a5 b2 b5
  have hn2:decide (z<0)=decide ((mkRat z (val l)).num<0):=by congr 1;exact propext m2.symm
  refine⟨⟨decide (z<0),.of (dig (z.natAbs/Nat.gcd z.natAbs (val l))) false false,.of (dig (val l/Nat.gcd z.natAbs (val l))) false false⟩,⟨hn2,by rw[m1];rfl,by rw[m3];rfl⟩,fun K=>?_⟩
  rw[start,i0F hlen,cf,g3,D7 g1 g2]
  by_cases hl1:(dig (Nat.gcd z.natAbs (val l))).length=1
  ·rw[show((((((dig (Nat.gcd z.natAbs (val l))).length:Nat):Int) != (1:Int))==false))=true by rw[hl1];rfl,ct,show Aj 0 (dig (Nat.gcd z.natAbs (val l))).length=true by rw[hl1];rfl,ct,B85 g1 g2 hl1]
   by_cases he:Nat.gcd z.natAbs (val l)=1
   ·rw[he,show(cond false true (((1:Nat):Int) != 1))=false by rfl,cf,Nat.div_one,Nat.div_one];rfl
   ·rw[show(cond false true (((Nat.gcd z.natAbs (val l):Nat):Int) != 1))=true by (show(((Nat.gcd z.natAbs (val l):Nat):Int) != 1)=true;rw[bne_iff_ne];omega),ct,a5,b5,D7 a1 a2,D7 b1 b2];rfl
  ·rw[show((((((dig (Nat.gcd z.natAbs (val l))).length:Nat):Int) != (1:Int))==false))=false by (rw[show((((dig (Nat.gcd z.natAbs (val l))).length:Nat):Int) != (1:Int))=true by rw[bne_iff_ne];omega];rfl),cf,a5,b5,D7 a1 a2,D7 b1 b2];rfl
theorem Aj7 {N:Nat} {x:RatD} {o:Bool} (hx:x.ok) (hf:fit (4*x.m+10) N):∃ d:RatD,d.can x.q∧∀ K:LA→Option R,Yn N x.av o K=K d.av:=by
 have h1:=hf.1
 rcases Ig (R:=R) (N:=N) (o:=o) hx (hf.le (by omega)) with⟨n,d,n1,n2,d1,d2,e,hK⟩ | hK
 ·obtain⟨c,c1,c2⟩:=Ae7 (R:=R) (N:=N) (s:=n) (b:=d) (by omega) d1 (by omega) (by omega)
  rw[e] at c1
  refine⟨c,c1,fun K=>?_⟩
  rw[Ap3];unfold A2r
  rw[Hd,ct,C8,hK,ct,c2];rfl
 ·obtain⟨neg,s,l,o1,o2,p1,p2,p3,p4,p5,p6,p7⟩:=Mk (R:=R) (N:=N) (o:=o) hx (hf.le (by omega))
  obtain⟨c,c1,c2⟩:=Adx (R:=R) (N:=N) (neg:=neg) (s:=s) (l:=l) (n:=l.length) (o:=o1) (t:=false) (o':=o2) rfl p1 p2 p3 (hf.le (by omega))
  rw[p6] at c1
  refine⟨c,c1,fun K=>?_⟩
  rw[Ap3];unfold A2r
  rw[Hd,ct,C8,hK,cf,ct,p7,c2];rfl
def Rf (x y:Rat):Int:=if x<y then -1 else if y<x then 1 else 0
theorem B3i {d:Nat} (h:0<d):(0:Rat)<(d:Rat):=Rat.natCast_pos.2 h
theorem Bqw {a c:Int} {b d:Nat} (hb:0<b) (hd:0<d):mkRat a b<mkRat c d↔a*d<c*b:=by
 rw[Rat.mkRat_eq_div,Rat.mkRat_eq_div,Rat.div_lt_iff (B3i hb)]
 have e:(c:Rat)/(d:Rat)*(b:Rat)=(c*b:Rat)/(d:Rat):=by rw[Rat.div_def,Rat.div_def,Rat.mul_assoc,Rat.mul_assoc,Rat.mul_comm (d:Rat)⁻¹]
 rw[e,Rat.lt_div_iff (B3i hd)]
 have e1:(a:Rat)*(d:Rat)=((a*d:Int):Rat):=by rw[Rat.intCast_mul];rfl
 have e2:(c:Rat)*(b:Rat)=((c*b:Int):Rat):=by rw[Rat.intCast_mul];rfl
 rw[e1,e2,Rat.intCast_lt_intCast]
theorem B3j {a c:Int} {b d:Nat} (hb:0<b) (hd:0<d):Rf (mkRat a b) (mkRat c d)=A3v (a*d) (c*b):=by
 unfold Rf A3v
 by_cases h:a*d<c*b
 ·rw[if_pos h,if_pos ((Bqw hb hd).2 h)]
 ·rw[if_neg h,if_neg (fun hh=>h ((Bqw hb hd).1 hh))]
  by_cases h2:c*b<a*d
  ·rw[if_pos h2,if_pos ((Bqw hd hb).2 h2)]
  ·rw[if_neg h2,if_neg (fun hh=>h2 ((Bqw hd hb).1 hh))]
theorem Bx2 {N:Nat} {a b:Int} {K:Int→Option R}:Hi N a b K=K (A3v a b):=by
 rw[W0];unfold Tc
 simp only[Acu];unfold Z6
 rw[show(a != a)=false by simp,show(b != b)=false by simp]
 dsimp only
 rw[cf,cf]
 unfold A3v
 by_cases h:a<b
 ·rw[decide_eq_true h,ct,if_pos h]
 ·rw[decide_eq_false h,cf,if_neg h]
  by_cases h2:b<a
  ·rw[decide_eq_true (show a>b from h2),ct,if_pos h2]
  ·rw[decide_eq_false (show ¬ a>b from h2),cf,if_neg h2]
theorem Bn6 {N:Nat} {a b:Int} {K:Int→Option R}:Fg N a b K=K (A3v a b):=by
 rw[R3];unfold O9
 simp only[W2];unfold Te
 rw[show(a != a)=false by simp,show(b != b)=false by simp]
 dsimp only
 rw[cf,cf]
 unfold A3v
 by_cases h:a<b
 ·rw[decide_eq_true h,ct,if_pos h]
 ·rw[decide_eq_false h,cf,if_neg h]
  by_cases h2:b<a
  ·rw[decide_eq_true (show a>b from h2),ct,if_pos h2]
  ·rw[decide_eq_false (show ¬ a>b from h2),cf,if_neg h2]
theorem B76 {p q:Rat} (h:p.num.sign<q.num.sign):p<q:=by
 rw[Rat.lt_iff]
 have hp:=p.den_pos;have hq:=q.den_pos
 rcases Int.lt_trichotomy p.num 0 with h1 | h1 | h1
 ·rcases Int.lt_or_le q.num 0 with h2 | h2
  ·rw[Int.sign_eq_neg_one_of_neg h1,Int.sign_eq_neg_one_of_neg h2] at h;omega
  ·have x1:p.num*q.den<0:=Int.mul_neg_of_neg_of_pos h1 (by omega)
   have x2:0≤q.num*p.den:=Int.mul_nonneg h2 (by omega)
   omega
 ·rw[h1] at h ⊢
  have:0<q.num:=by simpa using h
  have x2:0<q.num*p.den:=Int.mul_pos this (by omega)
  rw[Int.zero_mul];exact x2
 ·rw[Int.sign_eq_one_of_pos h1] at h
  have:=Int.sign_trichotomy q.num
  omega
theorem Aj8 {a b:Int} (h1:-2147483648<a∧a<2147483648) (h2:-2147483648<b∧b<2147483648):-4611686018427387904<a*b∧a*b<4611686018427387904:=by
 have h3:a.natAbs*b.natAbs≤2147483647*2147483647:=Nat.mul_le_mul (by omega) (by omega)
 rw[←Int.natAbs_mul] at h3
 omega
theorem Ae8 {N:Nat} {x y:RatD} {o o':Bool} {K:Int→Option R} (hx:x.ok) (hy:y.ok) (hf:fit (4*(x.m+y.m)+10) N):Gm N x.av o y.av o' K=K (Rf x.q y.q):=by
 have h1:=hf.1
 rw[App];unfold Ac4
 rw[Hd,ct,C8,Ml hx (hf.le (by omega)),Hd,ct,C8,Ml hy (hf.le (by omega))]
 by_cases hs:x.q.num.sign=y.q.num.sign
 ·rw[show(x.q.num.sign != y.q.num.sign)=false by simp[hs],cf,ct]
  have gen:Oe N K o x.av o' y.av=K (Rf x.q y.q):=by
   obtain⟨n1,s1,l1,a1,b1,p1,p2,p3,p4,p5,p6,p7⟩:=Mk (R:=R) (N:=N) (o:=o) hx (hf.le (by omega))
   obtain⟨n2,s2,l2,a2,b2,q1,q2,q3,q4,q5,q6,q7⟩:=Mk (R:=R) (N:=N) (o:=o') hy (hf.le (by omega))
   obtain⟨S1,t1,t2,t3⟩:=Ag8 (R:=R) (N:=N) (n1:=n1) (n2:=false) (s1:=s1) (s2:=.of l2 false b2) (o1:=a1) (o2:=(b2||false)) p1 q2 (hf.le (show s1.l.length+l2.length≤_ by omega))
   obtain⟨S2,u1,u2,u3⟩:=Ag8 (R:=R) (N:=N) (n1:=n2) (n2:=false) (s1:=s2) (s2:=.of l1 false b1) (o1:=a2) (o2:=(b1||false)) q1 p2 (hf.le (show s2.l.length+l1.length≤_ by omega))
   have v1:Av false (.of l2 false b2)=(val l2:Int):=rfl
   have v2:Av false (.of l1 false b1)=(val l1:Int):=rfl
   rw[v1] at t2 t3;rw[v2] at u2 u3
   have l1':(dig (Av n1 s1*(val l2:Int)).natAbs).length≤x.m+max y.m 1:=Nat.le_trans (B5 (by
    rw[Int.natAbs_mul,Ci,Int.natAbs_natCast,Nat.pow_add]
    exact Nat.mul_lt_mul'' (Nat.lt_of_lt_of_le (Be p1) (Nat.pow_le_pow_right (by omega) p4)) (Nat.lt_of_lt_of_le (Be q2) (Nat.pow_le_pow_right (by omega) q5)))) (Nat.le_refl _)
   have l2':(dig (Av n2 s2*(val l1:Int)).natAbs).length≤y.m+max x.m 1:=Nat.le_trans (B5 (by
    rw[Int.natAbs_mul,Ci,Int.natAbs_natCast,Nat.pow_add]
    exact Nat.mul_lt_mul'' (Nat.lt_of_lt_of_le (Be q1) (Nat.pow_le_pow_right (by omega) q4)) (Nat.lt_of_lt_of_le (Be p2) (Nat.pow_le_pow_right (by omega) p5)))) (Nat.le_refl _)
   unfold Oe
   rw[Hd,ct,C8,p7,Axh,ct,Hd,ct,C8,q7,Axh,ct,Azs,ct,tk2,ofA,t3,Azs,ct,tk2,ofA,u3,D7 t1 t2,D7 u1 u2,ofA,ofA,Bn4 (s1:=.of (dig (Av n1 s1*(val l2:Int)).natAbs) false true) (s2:=.of (dig (Av n2 s2*(val l1:Int)).natAbs) false true) (Ac _) (Ac _) (hf.le (show(dig (Av n1 s1*(val l2:Int)).natAbs).length+(dig (Av n2 s2*(val l1:Int)).natAbs).length≤_ by omega)),In,In,←p6,←q6,B3j (by omega) (by omega)]
  rcases Ig (R:=R) (N:=N) (o:=o) hx (hf.le (by omega)) with⟨n,d,n1,n2,d1,d2,e,hK⟩ | hK
  ·rcases Ig (R:=R) (N:=N) (o:=o') hy (hf.le (by omega)) with⟨n',d',n1',n2',d1',d2',e',hK'⟩ | hK'
   ·have b1:=Aj8 (a:=n) (b:=(d':Int)) ⟨n1,n2⟩ (by omega)
    have b2:=Aj8 (a:=n') (b:=(d:Int)) ⟨n1',n2'⟩ (by omega)
    rw[hK,ct,hK',show((true:Bool)==true)=true by rfl,ct,ctB,ct,Bn6,i64 (by omega),i64 (by omega),←e,←e',B3j d1 d1']
   ·rw[hK,ct,hK',show((true:Bool)==true)=true by rfl,ct,ctB,cf,gen]
  ·rcases Ig (R:=R) (N:=N) (o:=o') hy (hf.le (by omega)) with⟨n',d',n1',n2',d1',d2',e',hK'⟩ | hK'
   ·rw[hK,ct,hK',show((false:Bool)==true)=false by rfl,cf,gen]
   ·rw[hK,ct,hK',show((false:Bool)==true)=false by rfl,cf,gen]
 ·rw[show(x.q.num.sign != y.q.num.sign)=true by simp[hs],ct,Bx2]
  congr 1
  unfold A3v Rf
  by_cases h:x.q.num.sign<y.q.num.sign
  ·rw[if_pos h,if_pos (B76 h)]
  ·have h2:y.q.num.sign<x.q.num.sign:=by omega
   have:=B76 h2
   rw[if_neg h,if_pos h2,if_neg (fun hh=>absurd (Rat.le_of_lt this) (Rat.not_le.2 hh)),if_pos this]
end
end Gx

namespace Gx
open Go Go.Proofs
section
variable {R:Type}
theorem Bx3 {q:Rat} (h:q.num.sign=0):q=0:=Rat.num_eq_zero.1 (Int.sign_eq_zero_iff_zero.1 h)
theorem Gr {a b:Int} {k l:Nat} (ha:a.natAbs<4294967296 ^ k) (hb:b.natAbs<4294967296 ^ l):(a*b).natAbs<4294967296 ^ (k+l):=by
 rw[Int.natAbs_mul,Nat.pow_add];exact Nat.mul_lt_mul'' ha hb
theorem A3w {a b:Int} {k:Nat} (ha:a.natAbs<4294967296 ^ k) (hb:b.natAbs<4294967296 ^ k):(a+b).natAbs<4294967296 ^ (k+1):=by
 rw[Nat.pow_succ];omega
theorem Gs {k l:Nat} (h:k≤l):4294967296 ^ k≤4294967296 ^ l:=Nat.pow_le_pow_right (by omega) h
theorem B77 {v k:Nat} (h:(dig v).length≤k):v<4294967296 ^ k:=by
 have:=Be (Ac v);rw[Ah] at this
 exact Nat.lt_of_lt_of_le this (Gs h)
theorem Bx4 (p r:Int) (d:Nat) (hd:d≠0):mkRat (p+r) d=mkRat p d+mkRat r d:=by
 rw[Rat.mkRat_add_mkRat _ _ hd hd,←Int.add_mul]
 exact(Rat.mkRat_mul_right hd).symm
theorem B86 {N:Nat} {x y:RatD} {o o':Bool} (hx:x.ok) (hy:y.ok) (hf:fit (8*(x.m+y.m)+40) N):∃ d:RatD,d.can (x.q+y.q)∧∀ K:LA→Option R,Ag0 N K o x.av o' y.av=K d.av:=by
 obtain⟨n1,s1,l1,a1,b1,p1,p2,p3,p4,p5,p6,p7⟩:=Mk (R:=R) (N:=N) (o:=o) hx (hf.le (by omega))
 obtain⟨n2,s2,l2,a2,b2,q1,q2,q3,q4,q5,q6,q7⟩:=Mk (R:=R) (N:=N) (o:=o') hy (hf.le (by omega))
 have zl1:(Av n1 s1).natAbs<4294967296 ^ x.m:=by rw[Ci];exact Nat.lt_of_lt_of_le (Be p1) (Gs p4)
 have zl2:(Av n2 s2).natAbs<4294967296 ^ y.m:=by rw[Ci];exact Nat.lt_of_lt_of_le (Be q1) (Gs q4)
 have dl1:((val l1:Nat):Int).natAbs<4294967296 ^ (x.m+1):=by rw[Int.natAbs_natCast];exact Nat.lt_of_lt_of_le (Be p2) (Gs (by omega))
 have dl2:((val l2:Nat):Int).natAbs<4294967296 ^ (y.m+1):=by rw[Int.natAbs_natCast];exact Nat.lt_of_lt_of_le (Be q2) (Gs (by omega))
 by_cases he:val l1=val l2
 ·obtain⟨S,t1,t2,t3⟩:=Bqu (R:=R) (N:=N) (n1:=n1) (n2:=n2) (s1:=s1) (s2:=s2) (o1:=a1) (o2:=a2) p1 q1 (hf.le (by omega))
  have lz:(dig (Av n1 s1+Av n2 s2).natAbs).length≤x.m+y.m+1:=B5 (A3w (k:=x.m+y.m) (Nat.lt_of_lt_of_le zl1 (Gs (by omega))) (Nat.lt_of_lt_of_le zl2 (Gs (by omega))))
  obtain⟨c,c1,c2⟩:=Adx (R:=R) (N:=N) (neg:=decide (Av n1 s1+Av n2 s2<0)) (s:=.of (dig (Av n1 s1+Av n2 s2).natAbs) false true) (l:=l1) (n:=l1.length) (o:=true) (t:=false) (o':=b1) rfl (Ac _) p2 p3 (hf.le (show 2*((dig (Av n1 s1+Av n2 s2).natAbs).length+l1.length)+8≤_ by omega))
  rw[In,Bx4 _ _ _ p3,p6] at c1
  rw[show mkRat (Av n2 s2) (val l1)=y.q by rw[he,q6]] at c1
  refine⟨c,c1,fun K=>?_⟩
  unfold Ag0
  rw[Hd,ct,C8,p7,Axh,ct,Hd,ct,C8,q7,Axh,ct,P0 rfl rfl p2 q2 (hf.le (by omega)),he,Zb,show((0:Int)==0)=true by rfl,ct,Azs,ct,Azs,ct,tk2,tk2,t3,D7 t1 t2,ofA,c2];rfl
 ·obtain⟨S1,t1,t2,t3⟩:=Ag8 (R:=R) (N:=N) (n1:=n1) (n2:=false) (s1:=s1) (s2:=.of l2 false b2) (o1:=a1) (o2:=(b2||false)) p1 q2 (hf.le (show s1.l.length+l2.length≤_ by omega))
  obtain⟨S2,u1,u2,u3⟩:=Ag8 (R:=R) (N:=N) (n1:=n2) (n2:=false) (s1:=s2) (s2:=.of l1 false b1) (o1:=a2) (o2:=(b1||false)) q1 p2 (hf.le (show s2.l.length+l1.length≤_ by omega))
  rw[show Av false (.of l2 false b2)=(val l2:Int) by rfl] at t2 t3
  rw[show Av false (.of l1 false b1)=(val l1:Int) by rfl] at u2 u3
  have z1:=Gr zl1 dl2
  have z2:=Gr zl2 dl1
  have L1:=B5 z1
  have L2:=B5 z2
  obtain⟨S3,w1,w2,w3⟩:=Bqu (R:=R) (N:=N) (n1:=decide (Av n1 s1*(val l2:Int)<0)) (n2:=decide (Av n2 s2*(val l1:Int)<0)) (s1:=.of (dig (Av n1 s1*(val l2:Int)).natAbs) false true) (s2:=.of (dig (Av n2 s2*(val l1:Int)).natAbs) false true) (o1:=true) (o2:=true) (Ac _) (Ac _) (hf.le (show(dig (Av n1 s1*(val l2:Int)).natAbs).length+(dig (Av n2 s2*(val l1:Int)).natAbs).length+1≤_ by omega))
  rw[In,In] at w2 w3
  obtain⟨S4,v1,v2,v3⟩:=Ara (R:=R) (N:=N) (a:=l1) (b:=l2) (t:=false) (o:=b1) (t':=false) (o':=b2) rfl rfl p2 q2 (hf.le (by omega))
  have z3:=A3w (k:=x.m+y.m+1) (Nat.lt_of_lt_of_le z1 (Gs (by omega))) (Nat.lt_of_lt_of_le z2 (Gs (by omega)))
  have L3:=B5 z3
  have z4:val l1*val l2<4294967296 ^ (x.m+1+(y.m+1)):=by
   have:=Gr dl1 dl2;rw[Int.natAbs_mul,Int.natAbs_natCast,Int.natAbs_natCast] at this;exact this
  have L4:=B5 z4
  obtain⟨c,c1,c2⟩:=Adx (R:=R) (N:=N) (neg:=decide (Av n1 s1*(val l2:Int)+Av n2 s2*(val l1:Int)<0)) (s:=.of (dig (Av n1 s1*(val l2:Int)+Av n2 s2*(val l1:Int)).natAbs) false true) (l:=dig (val l1*val l2)) (n:=(dig (val l1*val l2)).length) (o:=true) (t:=false) (o':=true) rfl (Ac _) (Ac _) (by rw[Ah];exact Nat.mul_ne_zero p3 q3) (hf.le (show 2*((dig (Av n1 s1*(val l2:Int)+Av n2 s2*(val l1:Int)).natAbs).length+(dig (val l1*val l2)).length)+8≤_ by omega))
  rw[In,Ah,←Rat.mkRat_add_mkRat _ _ p3 q3,p6,q6] at c1
  refine⟨c,c1,fun K=>?_⟩
  unfold Ag0
  have hc:(G6 (val l1) (val l2)==0)=false:=by
   rw[beq_eq_false_iff_ne];unfold G6;split
   ·omega
   ·rw[if_pos (by omega)];omega
  rw[Hd,ct,C8,p7,Axh,ct,Hd,ct,C8,q7,Axh,ct,P0 rfl rfl p2 q2 (hf.le (by omega)),hc,cf,Azs,ct,tk2,ofA,t3,Azs,ct,tk2,ofA,u3,D7 t1 t2,D7 u1 u2,ofA,ofA,w3,v3,D7 w1 w2,D7 v1 v2,ofA,c2];rfl
theorem Bqx {N:Nat} {x y:RatD} {o o':Bool} (hx:x.ok) (hy:y.ok) (hf:fit (8*(x.m+y.m)+40) N):∃ d:RatD,d.can (x.q+y.q)∧∀ K:LA→Option R,Ajm N x.av o y.av o' K=K d.av:=by
 have h1:=hf.1
 by_cases hz:x.q.num.sign=0
 ·obtain⟨c,c1,c2⟩:=Aj7 (R:=R) (N:=N) (o:=o') hy (hf.le (by omega))
  refine⟨c,by rw[Bx3 hz,Rat.zero_add];exact c1,fun K=>?_⟩
  rw[Ajn];unfold As6
  rw[Hd,ct,C8,Ml hx (hf.le (by omega)),hz,show((0:Int)==0)=true by rfl,ct,Hd,ct,C8,c2];rfl
 ·have hzb:(x.q.num.sign==0)=false:=by rw[beq_eq_false_iff_ne];exact hz
  by_cases hw:y.q.num.sign=0
  ·obtain⟨c,c1,c2⟩:=Aj7 (R:=R) (N:=N) (o:=o) hx (hf.le (by omega))
   refine⟨c,by rw[Bx3 hw,Rat.add_zero];exact c1,fun K=>?_⟩
   rw[Ajn];unfold As6
   rw[Hd,ct,C8,Ml hx (hf.le (by omega)),hzb,cf,Hd,ct,C8,Ml hy (hf.le (by omega)),hw,show((0:Int)==0)=true by rfl,ct,ct,c2];rfl
  ·have hwb:(y.q.num.sign==0)=false:=by rw[beq_eq_false_iff_ne];exact hw
   have start:∀ K:LA→Option R,Ajm N x.av o y.av o' K=Fv N x.av o (fun g e aw=>Fv N y.av o' (fun i f ax=>(cond (aw==true) (Pt N K g e i f o x.av o' y.av (cond true ax false)) (Pt N K g e i f o x.av o' y.av false)))):=by
    intro K
    rw[Ajn];unfold As6
    rw[Hd,ct,C8,Ml hx (hf.le (by omega)),hzb,cf,Hd,ct,C8,Ml hy (hf.le (by omega)),hwb,cf,ct];rfl
   have gen:∃ d:RatD,d.can (x.q+y.q)∧∀ (K:LA→Option R) (g e i f:Int),Pt N K g e i f o x.av o' y.av false=K d.av:=by
    obtain⟨c,c1,c2⟩:=B86 (R:=R) (N:=N) (o:=o) (o':=o') hx hy hf
    exact⟨c,c1,fun K g e i f=>by unfold Pt Ajl;rw[cf,c2]⟩
   rcases Ig (R:=R) (N:=N) (o:=o) hx (hf.le (by omega)) with⟨n,d,n1,n2,d1,d2,e,hK⟩ | hK
   ·rcases Ig (R:=R) (N:=N) (o:=o') hy (hf.le (by omega)) with⟨n',d',n1',n2',d1',d2',e',hK'⟩ | hK'
    ·have b1:=Aj8 (a:=n) (b:=(d':Int)) ⟨n1,n2⟩ (by omega)
     have b2:=Aj8 (a:=n') (b:=(d:Int)) ⟨n1',n2'⟩ (by omega)
     have b3:=Aj8 (a:=(d:Int)) (b:=(d':Int)) (by omega) (by omega)
     have b4:((d*d':Nat):Int)=(d:Int)*(d':Int):=by simp
     obtain⟨c,c1,c2⟩:=Ae7 (R:=R) (N:=N) (s:=n*d'+n'*d) (b:=d*d') (by omega) (Nat.mul_pos d1 d1') (by omega) (by omega)
     rw[←Rat.mkRat_add_mkRat _ _ (by omega) (by omega),e,e'] at c1
     refine⟨c,c1,fun K=>?_⟩
     rw[start,hK,hK',show((true:Bool)==true)=true by rfl,ct,ctB]
     unfold Pt Ajl
     rw[ct,i64 (a:=n*(d':Int)) (by omega),i64 (a:=n'*(d:Int)) (by omega),i64 (by omega),i64 (by omega),←b4,c2];rfl
    ·obtain⟨c,c1,c2⟩:=gen
     refine⟨c,c1,fun K=>?_⟩
     rw[start,hK,hK',show((true:Bool)==true)=true by rfl,ct,ctB,c2]
   ·obtain⟨c,c1,c2⟩:=gen
    refine⟨c,c1,fun K=>?_⟩
    rw[start,hK]
    rcases Ig (R:=R) (N:=N) (o:=o') hy (hf.le (by omega)) with⟨n',d',n1',n2',d1',d2',e',hK'⟩ | hK'
    ·rw[hK',show((false:Bool)==true)=false by rfl,cf,c2]
    ·rw[hK',show((false:Bool)==true)=false by rfl,cf,c2]
theorem Bx5 (n:Bool) (s:LS):Av (!n) s=-Av n s:=by unfold Av;cases n<;>simp
theorem Bqy {N:Nat} {x y:RatD} {o o':Bool} (hx:x.ok) (hy:y.ok) (hf:fit (8*(x.m+y.m)+40) N):∃ d:RatD,d.can (x.q - y.q)∧∀ K:LA→Option R,Ajo N x.av o y.av o' K=K d.av:=by
 obtain⟨c,c1,c2⟩:=Bqx (R:=R) (N:=N) (x:=⟨x.neg,.of x.ns.l false o,.of x.ds.l false o⟩) (y:=⟨!y.neg,.of y.ns.l false o',.of y.ds.l false o'⟩) (o:=(o||(o||false))) (o':=(o'||(o'||false))) hx hy hf
 have e1:RatD.q ⟨x.neg,.of x.ns.l false o,.of x.ds.l false o⟩=x.q:=rfl
 have e2:RatD.q ⟨!y.neg,.of y.ns.l false o',.of y.ds.l false o'⟩=-y.q:=by
  show mkRat (Av (!y.neg) (.of y.ns.l false o')) (val y.ds.l)=_
  rw[Bx5,←Rat.neg_mkRat];rfl
 rw[e1,e2,←Rat.sub_eq_add_neg] at c1
 refine⟨c,c1,fun K=>?_⟩
 rw[Bht];unfold Btc
 rw[Car,B74,Bkm,Cbh,ct,Car,B74,Bkm,Cbh,ct]
 exact(c2 _).trans rfl
theorem B87 {N:Nat} {x y:RatD} {o o':Bool} (hx:x.ok) (hy:y.ok) (hf:fit (8*(x.m+y.m)+40) N):∃ d:RatD,d.can (x.q*y.q)∧∀ K:LA→Option R,Ag1 N K o x.av o' y.av=K d.av:=by
 obtain⟨n1,s1,l1,a1,b1,p1,p2,p3,p4,p5,p6,p7⟩:=Mk (R:=R) (N:=N) (o:=o) hx (hf.le (by omega))
 obtain⟨n2,s2,l2,a2,b2,q1,q2,q3,q4,q5,q6,q7⟩:=Mk (R:=R) (N:=N) (o:=o') hy (hf.le (by omega))
 have zl1:(Av n1 s1).natAbs<4294967296 ^ x.m:=by rw[Ci];exact Nat.lt_of_lt_of_le (Be p1) (Gs p4)
 have zl2:(Av n2 s2).natAbs<4294967296 ^ y.m:=by rw[Ci];exact Nat.lt_of_lt_of_le (Be q1) (Gs q4)
 have dl1:((val l1:Nat):Int).natAbs<4294967296 ^ (x.m+1):=by rw[Int.natAbs_natCast];exact Nat.lt_of_lt_of_le (Be p2) (Gs (by omega))
 have dl2:((val l2:Nat):Int).natAbs<4294967296 ^ (y.m+1):=by rw[Int.natAbs_natCast];exact Nat.lt_of_lt_of_le (Be q2) (Gs (by omega))
 obtain⟨S1,t1,t2,t3⟩:=Ag8 (R:=R) (N:=N) (n1:=n1) (n2:=n2) (s1:=s1) (s2:=s2) (o1:=a1) (o2:=a2) p1 q1 (hf.le (by omega))
 have L1:=B5 (Gr zl1 zl2)
 obtain⟨S4,v1,v2,v3⟩:=Ara (R:=R) (N:=N) (a:=l1) (b:=l2) (t:=false) (o:=b1) (t':=false) (o':=b2) rfl rfl p2 q2 (hf.le (by omega))
 have z4:val l1*val l2<4294967296 ^ (x.m+1+(y.m+1)):=by
  have:=Gr dl1 dl2;rw[Int.natAbs_mul,Int.natAbs_natCast,Int.natAbs_natCast] at this;exact this
 have L4:=B5 z4
 obtain⟨c,c1,c2⟩:=Adx (R:=R) (N:=N) (neg:=decide (Av n1 s1*Av n2 s2<0)) (s:=.of (dig (Av n1 s1*Av n2 s2).natAbs) false true) (l:=dig (val l1*val l2)) (n:=(dig (val l1*val l2)).length) (o:=true) (t:=false) (o':=true) rfl (Ac _) (Ac _) (by rw[Ah];exact Nat.mul_ne_zero p3 q3) (hf.le (show 2*((dig (Av n1 s1*Av n2 s2).natAbs).length+(dig (val l1*val l2)).length)+8≤_ by omega))
 rw[In,Ah,←Rat.mkRat_mul_mkRat,p6,q6] at c1
 refine⟨c,c1,fun K=>?_⟩
 unfold Ag1
 rw[Hd,ct,C8,p7,Axh,ct,Hd,ct,C8,q7,Axh,ct,Azs,ct,Azs,ct,tk2,tk2,t3,v3,D7 t1 t2,D7 v1 v2,ofA,c2];rfl
theorem B6d {N:Nat} {x y:RatD} {o o':Bool} (hx:x.ok) (hy:y.ok) (hf:fit (8*(x.m+y.m)+40) N):∃ d:RatD,d.can (x.q*y.q)∧∀ K:LA→Option R,Azh N x.av o y.av o' K=K d.av:=by
 have h1:=hf.1
 obtain⟨g,g1,g2⟩:=B87 (R:=R) (N:=N) (o:=o) (o':=o') hx hy hf
 rcases Ig (R:=R) (N:=N) (o:=o) hx (hf.le (by omega)) with⟨n,d,n1,n2,d1,d2,e,hK⟩ | hK
 ·rcases Ig (R:=R) (N:=N) (o:=o') hy (hf.le (by omega)) with⟨n',d',n1',n2',d1',d2',e',hK'⟩ | hK'
  ·have b1:=Aj8 (a:=n) (b:=n') ⟨n1,n2⟩ ⟨n1',n2'⟩
   have b3:=Aj8 (a:=(d:Int)) (b:=(d':Int)) (by omega) (by omega)
   have b4:((d*d':Nat):Int)=(d:Int)*(d':Int):=by simp
   obtain⟨c,c1,c2⟩:=Ae7 (R:=R) (N:=N) (s:=n*n') (b:=d*d') (by omega) (Nat.mul_pos d1 d1') (by omega) (by omega)
   rw[←Rat.mkRat_mul_mkRat,e,e'] at c1
   refine⟨c,c1,fun K=>?_⟩
   rw[Ajp];unfold As7
   rw[Hd,ct,C8,hK,Hd,ct,C8,hK',show((true:Bool)==true)=true by rfl,ct,ctB,ct,i64 (by omega),i64 (by omega),←b4,c2];rfl
  ·refine⟨g,g1,fun K=>?_⟩
   rw[Ajp];unfold As7
   rw[Hd,ct,C8,hK,Hd,ct,C8,hK',show((true:Bool)==true)=true by rfl,ct,ctB,cf,g2]
 ·refine⟨g,g1,fun K=>?_⟩
  rw[Ajp];unfold As7
  rcases Ig (R:=R) (N:=N) (o:=o') hy (hf.le (by omega)) with⟨n',d',n1',n2',d1',d2',e',hK'⟩ | hK'
  ·rw[Hd,ct,C8,hK,Hd,ct,C8,hK',show((false:Bool)==true)=false by rfl,cf,g2]
  ·rw[Hd,ct,C8,hK,Hd,ct,C8,hK',show((false:Bool)==true)=false by rfl,cf,g2]
theorem Btm {a b:Rat}:Rf a b≤0↔a≤b:=by
 unfold Rf
 by_cases h:a<b
 ·rw[if_pos h];exact⟨fun _=>Rat.le_of_lt h,fun _=>by omega⟩
 ·rw[if_neg h]
  by_cases h2:b<a
  ·rw[if_pos h2];exact⟨fun hh=>by omega,fun hh=>absurd hh (Rat.not_le.2 h2)⟩
  ·rw[if_neg h2];exact⟨fun _=>Rat.not_lt.1 h2,fun _=>by omega⟩
theorem B6e {N:Nat} {x y:RatD} {o o':Bool} (hx:x.ok) (hy:y.ok) (hf:fit (8*(x.m+y.m)+40) N):∃ d:RatD,d.can (if x.q≤y.q then x.q else y.q)∧∀ K:LA→Option R,Azf N x.av o y.av o' K=K d.av:=by
 by_cases h:x.q≤y.q
 ·obtain⟨c,c1,c2⟩:=Aj7 (R:=R) (N:=N) (o:=o) hx (hf.le (by omega))
  refine⟨c,by rw[if_pos h];exact c1,fun K=>?_⟩
  rw[Azg];unfold Bdu
  rw[Hd,ct,Hd,ct,C8,C8,Ae8 hx hy (hf.le (by omega)),decide_eq_true (Btm.2 h),ct,ct,c2];rfl
 ·obtain⟨c,c1,c2⟩:=Aj7 (R:=R) (N:=N) (o:=o') hy (hf.le (by omega))
  refine⟨c,by rw[if_neg h];exact c1,fun K=>?_⟩
  rw[Azg];unfold Bdu
  rw[Hd,ct,Hd,ct,C8,C8,Ae8 hx hy (hf.le (by omega)),decide_eq_false (fun hh=>h (Btm.1 hh)),cf,ct,c2];rfl
end
end Gx

namespace Gx
open Go Go.Proofs
section
variable {R:Type}
def Fz (z:Int):List AV:=Jf (decide (z<0)) (.of (dig z.natAbs) false false)
theorem A3x (z:Int) (K:LA→Option R):(cond ((Nat.beq 0 0)&&((Nat.beq (List.length (Fz z)) 2)&&(Nat.beq 2 2))) (cond (Nat.ble 2 (List.length (Fz z))) (K (List.take 2 (Fz z))) none) none)=K (Fz z):=rfl
theorem tkc (z:Int):List.take 2 (Fz z)=Fz z:=rfl
theorem Cbr (z:Int):Nat.beq (List.length (Fz z)) 2=true:=rfl
theorem tkd (v:Nat):List.take ((dig v).length*1) (Ad (dig v))=Ad (dig v):=D7 (Ac _) (Ah v)
theorem Gt {N:Nat} {neg:Bool} {l:List Nat} {n:Nat} {t o:Bool} {K:LA→Option R} (hn:n=l.length) (hl:Ai l) (hf:fit l.length N):E6 N neg (Ad l) n t o K=K (Fz (if neg then -(val l:Int) else (val l:Int))):=by
 obtain⟨c1,c2⟩:=Zd (z:=if neg then -(val l:Int) else (val l:Int)) (c:=neg) (m:=val l) rfl
 rw[A0w];unfold A5s
 rw[Dc hn hl hf,tkd]
 unfold Fz
 rw[←c1,c2]
 cases neg
 ·rfl
 ·rw[show((true:Bool)==true)=true by rfl,ct,ctB];simp[Jf,LS.av]
theorem Um {N:Nat} {v:Int} {K:LA→Option R} (hv:-9223372036854775808≤v∧v≤9223372036854775807) (hN:2000≤N):E7 N v K=K (Fz v):=by
 have hb:v.natAbs<18446744073709551616:=by omega
 have hl:=Yt hb
 rw[Ak8];unfold Aiz
 by_cases h:v<0
 ·have e:IntKind.wrap .u64 (IntKind.wrap .u64 (IntKind.wrap .i64 ((0:Int) - IntKind.wrap .i64 (v+1)))+1)=(v.natAbs:Int):=by
   rw[i64 (a:=v+1) (by omega),i64 (by omega),Ayg,Ayg];omega
  rw[decide_eq_true h,ct,e,Adw hb (by omega),tkd,Gt rfl (Ac _) ⟨by omega,by omega⟩,Ah]
  have:(if true=true then -(v.natAbs:Int) else (v.natAbs:Int))=v:=by rw[if_pos rfl];omega
  rw[this];exact A3x _ _
 ·have e:IntKind.wrap .u64 v=(v.natAbs:Int):=by rw[Ayg];omega
  rw[decide_eq_false h,cf,e,Adw hb (by omega),tkd,Gt rfl (Ac _) ⟨by omega,by omega⟩,Ah]
  have:(if false=true then -(v.natAbs:Int) else (v.natAbs:Int))=v:=by rw[if_neg (by decide)];omega
  rw[this];exact A3x _ _
theorem Azt {N:Nat} {n:Bool} {s:LS} {o:Bool} {K:LA→Option R} (hs:Ai s.l) (hf:fit s.l.length N):Ve N (Jf n s) o K=K (Fz (Av n s)):=by
 rw[A0y];unfold A5t
 rw[Re,Ny,Gt rfl hs hf];exact A3x _ _
theorem Bkn {N:Nat} {n:Bool} {s:LS} {o:Bool} {K:Int→Option R} (hs:Ai s.l) (hf:fit s.l.length N):Vf N (Jf n s) o K=K (Av n s).sign:=by
 rw[A00];unfold A5u
 rw[Azs,ct,tk2,Azt hs hf,Cbr,show((true&&(true&&(!false))))=true by rfl,ct]
 have e:setCells (Jf n s) 0 (Fz (Av n s))=Fz (Av n s):=rfl
 rw[e]
 generalize Av n s=z
 unfold Fz
 rw[Re]
 rcases Int.lt_trichotomy z 0 with h | h | h
 ·rw[decide_eq_true h,ct,Int.sign_eq_neg_one_of_neg h]
 ·subst h;rfl
 ·rw[decide_eq_false (by omega),cf,Ny]
  have:(dig z.natAbs).length≠0:=fun hh=>by have:=Bo.1 hh;omega
  simp only[LS.l]
  rw[i0F this,cf,Int.sign_eq_one_of_pos h]
theorem B6f {N:Nat} {n:Bool} {s:LS} {o:Bool} {K:LA→Option R} (hs:Ai s.l) (hf:fit s.l.length N):T8 N (Jf n s) o K=K (Fz (-Av n s)):=by
 rw[A9h];unfold Bgb
 rw[Re,Ny,Gt rfl hs hf,←Bx5];exact A3x _ _
theorem B1j {N:Nat} {n1 n2:Bool} {s1 s2:LS} {o1 o2:Bool} {K:LA→Option R} (h1:Ai s1.l) (h2:Ai s2.l) (hf:fit (s1.l.length+s2.l.length) N):Nn N (Jf n1 s1) o1 (Jf n2 s2) o2 K=K (Fz (Av n1 s1*Av n2 s2)):=by
 have hl:(dig (val s1.l*val s2.l)).length≤s1.l.length+s2.l.length:=B5 (by rw[Nat.pow_add];exact Nat.mul_lt_mul'' (Be h1) (Be h2))
 rw[Baj];unfold Bic
 rw[Re,Re,Ny,Ny,B58 rfl rfl h1 h2 hf,tkd,Gt rfl (Ac _) (hf.le hl),Ah]
 have hz:Av n1 s1*Av n2 s2=if (!(n1==n2)) then -((val s1.l*val s2.l:Nat):Int) else ((val s1.l*val s2.l:Nat):Int):=by
  unfold Av;cases n1<;>cases n2<;>simp[Int.mul_neg,Int.neg_mul]
 rw[←hz];exact A3x _ _
theorem B1k {N:Nat} {n1 n2:Bool} {s1 s2:LS} {o1 o2:Bool} {K:LA→Option R} (h1:Ai s1.l) (h2:Ai s2.l) (hf:fit (s1.l.length+s2.l.length+1) N):T7 N (Jf n1 s1) o1 (Jf n2 s2) o2 K=K (Fz (Av n1 s1+Av n2 s2)):=by
 have v1:=Be h1
 have v2:=Be h2
 have w1:=Gs (show s1.l.length≤s1.l.length+s2.l.length by omega)
 have w2:=Gs (show s2.l.length≤s1.l.length+s2.l.length by omega)
 rw[A9f];unfold Bf7
 rw[Re,Re]
 by_cases hn:n1=n2
 ·subst hn
  have hl:(dig (val s1.l+val s2.l)).length≤s1.l.length+s2.l.length+1:=B5 (by rw[Nat.pow_succ];omega)
  have hz:Av n1 s1+Av n1 s2=if n1 then -((val s1.l+val s2.l:Nat):Int) else ((val s1.l+val s2.l:Nat):Int):=by
   unfold Av;cases n1<;>simp;omega
  rw[show(n1==n1)=true by simp,ct,Re,Ny,Ny,A6z rfl rfl h1 h2 hf,tkd,Gt rfl (Ac _) (hf.le hl),Ah,←hz];exact A3x _ _
 ·rw[show(n1==n2)=false by simp[hn],cf,Ny,Ny,A60 rfl rfl h1 h2 (hf.le (by omega))]
  by_cases hle:val s2.l≤val s1.l
  ·have hl:(dig (val s1.l - val s2.l)).length≤s1.l.length+s2.l.length+1:=B5 (by rw[Nat.pow_succ];omega)
   have hz:Av n1 s1+Av n2 s2=if n1 then -((val s1.l - val s2.l:Nat):Int) else ((val s1.l - val s2.l:Nat):Int):=by
    unfold Av;cases n1<;>cases n2<;>simp at hn ⊢<;>omega
   rw[if_pos hle,ct,Re,tkd,Gt rfl (Ac _) (hf.le hl),Ah,←hz];exact A3x _ _
  ·have hl:(dig (val s2.l - val s1.l)).length≤s1.l.length+s2.l.length+1:=B5 (by rw[Nat.pow_succ];omega)
   have hz:Av n1 s1+Av n2 s2=if n2 then -((val s2.l - val s1.l:Nat):Int) else ((val s2.l - val s1.l:Nat):Int):=by
    unfold Av;cases n1<;>cases n2<;>simp at hn ⊢<;>omega
   rw[if_neg hle,cf,Ny,Ny,A60 rfl rfl h2 h1 (hf.le (by omega)),if_pos (by omega),Re,tkd,Gt rfl (Ac _) (hf.le hl),Ah,←hz];exact A3x _ _
theorem B6g {N:Nat} {n1 n2:Bool} {s1 s2:LS} {o1 o2:Bool} {K:LA→Option R} (h1:Ai s1.l) (h2:Ai s2.l) (hf:fit (3*(s1.l.length+s2.l.length)+4) N):Asu N (Jf n1 s1) o1 (Jf n2 s2) o2 K=K (Fz ((Nat.gcd (Av n1 s1).natAbs (Av n2 s2).natAbs:Nat):Int)):=by
 have hl:(dig (Nat.gcd (val s1.l) (val s2.l))).length≤s1.l.length+s2.l.length:=by
  rcases Nat.eq_zero_or_pos (val s1.l) with h | h
  ·rw[h,Nat.gcd_zero_left];have:=(Bk h2).2;omega
  ·have:=Bv (Nat.gcd_le_left (val s2.l) h);have:=(Bk h1).2;omega
 rw[A9c];unfold Bfy
 rw[Ny,Ny,B6b rfl rfl h1 h2 hf,tkd,Gt rfl (Ac _) (hf.le (by omega)),Ah,Ci,Ci];exact A3x _ _
theorem Arf {N:Nat} {n1:Bool} {s1:LS} {g:Nat} {o1 o2:Bool} {K:LA→LA→Bool→Option R} (h1:Ai s1.l) (hg:0<g) (hd:g∣val s1.l) (hf:fit (s1.l.length+2*(dig g).length+4) N):O7 N (Jf n1 s1) o1 (Fz (g:Int)) o2 K=K (Fz (Av n1 s1/(g:Int))) (Fz 0) true:=by
 have hc:Fz (g:Int)=Jf false (.of (dig g) false false):=by
  unfold Fz;rw[decide_eq_false (by omega),Int.natAbs_natCast]
 have hq:(dig (val s1.l/g)).length≤s1.l.length:=Nat.le_trans (Bv (Nat.div_le_self _ _)) (Bk h1).2
 rw[hc,Ao0];unfold Aoz
 rw[Ny,Ny,show(LS.of (dig g) false false).l=dig g by rfl]
 rw[Aj6 rfl rfl h1 (Ac _) (by rw[Ah];omega) hf,Ah,Nat.mod_eq_zero_of_dvd hd,show(!true)=false by rfl,cf,Re,Re,tkd,Gt rfl (Ac _) (hf.le (by omega)),Re,tkd,Gt rfl (Ac _) (hf.le (by simp[Dt])),Ah,Ah]
 have e0:(if n1=true then -((0:Nat):Int) else ((0:Nat):Int))=0:=by cases n1<;>rfl
 have e1:(if (!(n1==false))=true then -((val s1.l/g:Nat):Int) else ((val s1.l/g:Nat):Int))=Av n1 s1/(g:Int):=by
  obtain⟨c,hc⟩:=hd
  have hv:val s1.l/g=c:=by rw[hc,Nat.mul_div_cancel_left _ hg]
  rw[hv];unfold Av;rw[hc]
  cases n1
  ·simp;rw[Int.mul_ediv_cancel_left _ (by omega)]
  ·simp only[Bool.true_beq,Bool.not_false,if_true]
   rw[show -((g*c:Nat):Int)=(g:Int)*(-(c:Int)) by rw[Int.mul_neg];simp,Int.mul_ediv_cancel_left _ (by omega)]
 rw[e0,e1]
 generalize Av n1 s1/(g:Int)=q
 have r0:∀ (f:Bool→Option R),rdB (Fz 0) f=f false:=fun f=>Re
 rw[show((Nat.beq 0 0)&&((Nat.beq (List.length (Fz q)) 2)&&(Nat.beq 2 2)))=true by rfl,ct,show((Nat.beq 0 0)&&((Nat.beq (List.length (Fz 0)) 2)&&(Nat.beq 2 2)))=true by rfl,ct,r0,cf]
 rfl
end
end Gx

namespace Gx
open Go Go.Proofs
section
variable {R:Type}
def cqD (q:Rat):RatD:=⟨decide (q.num<0),.of (dig q.num.natAbs) false false,.of (dig q.den) false false⟩
def cq (q:Rat):List AV:=(cqD q).av
theorem Bdw (q:Rat):(cqD q).can q:=⟨rfl,rfl,rfl⟩
theorem Bx6 (q:Rat):(cqD q).q=q:=(Bdw q).q
theorem Btn (q:Rat):(cqD q).ok:=(Bdw q).ok
theorem B3k (q:Rat):(cqD q).m=qm q:=(Bdw q).m
theorem Bbl (q:Rat) (K:LA→Option R):(cond ((Nat.beq 0 0)&&((Nat.beq (List.length (cq q)) 3)&&(Nat.beq 3 3))) (cond (Nat.ble 3 (List.length (cq q))) (K (List.take 3 (cq q))) none) none)=K (cq q):=rfl
theorem Bbm (q:Rat):Nat.ble 2 (List.length (cq q))=true:=rfl
theorem Arg (q:Rat):List.take 2 (cq q)=Fz q.num:=rfl
theorem B88:cq 0=[(.bool false),(.imm [] 0 1 false false),(.imm [(.int .u32 1)] 1 1 false false)]:=by
 have e:cq 0=[.bool false,.imm (Ad (dig 0)) (dig 0).length 1 false false,.imm (Ad (dig 1)) (dig 1).length 1 false false]:=rfl
 rw[e,Yv];rfl
theorem B1l {N:Nat} {K:LA→Option R}:Afv N K=K (cq 0):=by
 rw[A02];unfold A5v
 rw[B88]
theorem Cbs {N:Nat} {z:Int} {o:Bool} {K:LA→Option R} (hf:fit (dig z.natAbs).length N):T8 N (Fz z) o K=K (Fz (-z)):=by
 have:=B6f (R:=R) (N:=N) (n:=decide (z<0)) (s:=.of (dig z.natAbs) false false) (o:=o) (K:=K) (Ac _) hf
 rw[In] at this;exact this
theorem Cbj {N:Nat} {z:Int} {o:Bool} {K:Int→Option R} (hf:fit (dig z.natAbs).length N):Vf N (Fz z) o K=K z.sign:=by
 have:=Bkn (R:=R) (N:=N) (n:=decide (z<0)) (s:=.of (dig z.natAbs) false false) (o:=o) (K:=K) (Ac _) hf
 rw[In] at this;exact this
theorem B1m {N:Nat} {z w:Int} {o o':Bool} {K:LA→Option R} (hf:fit ((dig z.natAbs).length+(dig w.natAbs).length) N):Nn N (Fz z) o (Fz w) o' K=K (Fz (z*w)):=by
 have:=B1j (R:=R) (N:=N) (n1:=decide (z<0)) (s1:=.of (dig z.natAbs) false false) (n2:=decide (w<0)) (s2:=.of (dig w.natAbs) false false) (o1:=o) (o2:=o') (K:=K) (Ac _) (Ac _) hf
 rw[In,In] at this;exact this
theorem Cbt {N:Nat} {z w:Int} {o o':Bool} {K:LA→Option R} (hf:fit ((dig z.natAbs).length+(dig w.natAbs).length+1) N):T7 N (Fz z) o (Fz w) o' K=K (Fz (z+w)):=by
 have:=B1k (R:=R) (N:=N) (n1:=decide (z<0)) (s1:=.of (dig z.natAbs) false false) (n2:=decide (w<0)) (s2:=.of (dig w.natAbs) false false) (o1:=o) (o2:=o') (K:=K) (Ac _) (Ac _) hf
 rw[In,In] at this;exact this
theorem B1n (z:Int):mkRat z 1=(z:Rat):=by
 apply Rat.ext
 ·rw[Rat.num_mkRat,if_neg (by decide),Nat.gcd_one_left];simp
 ·rw[Rat.den_mkRat,if_neg (by decide),Nat.gcd_one_left];simp
theorem B89 (z:Int) (w:Nat) (hw:w≠0):(mkRat z w).num=z/((Nat.gcd z.natAbs w:Nat):Int)∧(mkRat z w).den=w/Nat.gcd z.natAbs w:=by
 refine⟨?_,?_⟩
 ·rw[Rat.num_mkRat,if_neg hw,Nat.gcd_comm w]
 ·rw[Rat.den_mkRat,if_neg hw,Nat.gcd_comm w]
theorem Bbn {N:Nat} {n1 n2:Bool} {s1 s2:LS} {o1 o2:Bool} {K:LA→Option R} (h1:Ai s1.l) (h2:Ai s2.l) (hpos:0≤Av n2 s2) (hf:fit (4*(s1.l.length+s2.l.length)+10) N):Iw N (Jf n1 s1) o1 (Jf n2 s2) o2 K=K (cq (mkRat (Av n1 s1) (Av n2 s2).natAbs)):=by
 have hna:=Ci n2 s2
 have hna1:=Ci n1 s1
 rw[A1g];unfold Asv
 rw[Azs,ct,tk2,Bkn h2 (hf.le (by omega))]
 by_cases h0:Av n2 s2=0
 ·rw[h0,show((0:Int).sign==0)=true by rfl,ct,B1l]
  rw[show(0:Int).natAbs=0 by rfl,Rat.mkRat_zero];exact Bbl _ _
 ·have hw:(Av n2 s2).natAbs≠0:=by omega
  have hs1:((Av n2 s2).sign==0)=false:=by rw[Int.sign_eq_one_of_pos (by omega)];rfl
  rw[hs1,cf,ct,Azt h2 (hf.le (by omega)),show((Nat.beq 0 0)&&((Nat.beq (List.length (Fz (Av n2 s2))) 2)&&(Nat.beq 2 2)))=true by rfl,ct]
  have rb:∀ (z:Int) (f:Bool→Option R),rdB (Fz z) f=f (decide (z<0)):=fun z f=>Re
  have rl:∀ (z:Int) (f:List AV→Nat→Option R),rdL 1 (List.drop 1 (Fz z)) f=f (Ad (dig z.natAbs)) (dig z.natAbs).length:=fun z f=>Ny
  have l2:=(Bk h2).2
  have l1:=(Bk h1).2
  rw[rb,decide_eq_false (by omega),show((!false)==true)=true by rfl,ct,rl,B75,B70 (a:=dig (Av n2 s2).natAbs) (b:=[1]) (m:=1) rfl rfl (hf.le (by rw[hna];omega)),ctB]
  by_cases hone:(Av n2 s2).natAbs=1
  ·rw[hone,Yv,show decide (([1]:List Nat)=[1])=true by decide,ct,Azs,ct,tk2,Azt h1 (hf.le (by omega)),rl,hone,Yv]
   rw[B1n]
   have e2:cq ((Av n1 s1:Int):Rat)=[.bool (decide (Av n1 s1<0)),.imm (Ad (dig (Av n1 s1).natAbs)) (dig (Av n1 s1).natAbs).length 1 false false,.imm (Ad [1]) 1 1 false false]:=by
    unfold cq cqD RatD.av LS.av
    rw[Rat.num_intCast,Rat.den_intCast,Yv];rfl
   rw[e2];rfl
  ·have hne:decide (dig (Av n2 s2).natAbs=[1])=false:=by
    rw[decide_eq_false_iff_not];intro hh
    have:=congrArg val hh
    rw[Ah] at this;simp[val] at this;omega
   rw[hne,cf]
   unfold Acn
   have hg0:0<Nat.gcd (Av n1 s1).natAbs (Av n2 s2).natAbs:=Nat.gcd_pos_of_pos_right _ (by omega)
   have hgl:(dig (Nat.gcd (Av n1 s1).natAbs (Av n2 s2).natAbs)).length≤s2.l.length:=Nat.le_trans (Bv (Nat.gcd_le_right _ (by omega))) (by rw[hna];exact l2)
   have hd1:Nat.gcd (Av n1 s1).natAbs (Av n2 s2).natAbs∣val s1.l:=by rw[←hna1];exact Nat.gcd_dvd_left _ _
   have hd2:Nat.gcd (Av n1 s1).natAbs (Av n2 s2).natAbs∣val s2.l:=by rw[←hna];exact Nat.gcd_dvd_right _ _
   obtain⟨q1,q2⟩:=B89 (Av n1 s1) (Av n2 s2).natAbs hw
   rw[Azs,ct,Azs,ct,tk2,tk2,B6g h1 h2 (hf.le (by omega))]
   generalize hgd:Nat.gcd (Av n1 s1).natAbs (Av n2 s2).natAbs=g at *
   rw[show((Nat.beq 0 0)&&((Nat.beq (List.length (Fz (g:Int))) 2)&&(Nat.beq 2 2)))=true by rfl,ct,ct,show Nat.ble 2 (List.length (Fz (g:Int)))=true by rfl,ct,tkc,Arf h1 hg0 hd1 (hf.le (by omega))]
   rw[show ∀ z:Int,((Nat.beq 0 0)&&((Nat.beq (List.length (Fz z)) 2)&&(Nat.beq 2 2)))=true from fun z=>rfl,ct,show((Nat.beq 0 0)&&((Nat.beq (List.length (Fz 0)) 2)&&(Nat.beq 2 2)))=true by rfl,ct,ct,Arf h2 hg0 hd2 (hf.le (by omega))]
   have hwz:Av n2 s2/(g:Int)=(((Av n2 s2).natAbs/g:Nat):Int):=by
    rw[show Av n2 s2=(((Av n2 s2).natAbs:Nat):Int) by omega];rfl
   rw[show ∀ z:Int,((Nat.beq 0 0)&&((Nat.beq (List.length (Fz z)) 2)&&(Nat.beq 2 2)))=true from fun z=>rfl,ct,ct,rb,hwz,decide_eq_false (by omega),cf,show ∀ z:Int,Nat.ble 2 (List.length (Fz z))=true from fun z=>rfl,ct,rl,Int.natAbs_natCast,←q2]
   rw[←q1];rfl
theorem Bqz {N:Nat} {z w:Int} {o o':Bool} {K:LA→Option R} (hw:0≤w) (hf:fit (4*((dig z.natAbs).length+(dig w.natAbs).length)+10) N):Iw N (Fz z) o (Fz w) o' K=K (cq (mkRat z w.natAbs)):=by
 have:=Bbn (R:=R) (N:=N) (n1:=decide (z<0)) (s1:=.of (dig z.natAbs) false false) (n2:=decide (w<0)) (s2:=.of (dig w.natAbs) false false) (o1:=o) (o2:=o') (K:=K) (Ac _) (Ac _) (by rw[In];exact hw) hf
 rw[In,In] at this;exact this
theorem Hy {N:Nat} {x:RatD} {o:Bool} {K:LA→Option R} (hx:x.ok) (hf:fit (8*x.m+10) N):Hv N x.av o K=K (cq x.q):=by
 have m1:x.ns.l.length≤x.m:=Nat.le_max_left _ _
 have m2:x.ds.l.length≤x.m:=Nat.le_max_right _ _
 rw[A2v];unfold A6q
 rw[show Nat.ble 2 (List.length x.av)=true by rfl,ct,Bkm,B97,ofA,Bbn (s2:=.of x.ds.l false o) hx.1 hx.2 (by unfold Av;simp) (hf.le (show 4*(x.ns.l.length+x.ds.l.length)+10≤_ by omega))]
 have:mkRat (Av x.neg x.ns) (Av false (.of x.ds.l false o)).natAbs=x.q:=by rw[Ci];rfl
 rw[this];exact Bbl _ _
theorem No {N:Nat} {x:RatD} {o:Bool} {K:LA→Option R} (hx:x.ok) (hf:fit (8*x.m+10) N):Lq N x.av o K=K (Fz (x.q.den:Int)):=by
 rw[Bad];unfold Bhx
 rw[Hd,ct,C8,Hy hx hf]
 have:=Bkm (R:=R) (x:=cqD x.q) (f:=fun e f=>K [(.bool false),(.imm e f 1 false false)])
 refine this.trans ?_
 unfold Fz;rw[decide_eq_false (by omega),Int.natAbs_natCast];rfl
theorem Ame (x:RatD) (hx:x.ok):qm x.q≤x.m+1:=by
 have m1:x.ns.l.length≤x.m:=Nat.le_max_left _ _
 have m2:x.ds.l.length≤x.m:=Nat.le_max_right _ _
 unfold qm
 by_cases h:val x.ds.l=0
 ·have:x.q=0:=by unfold RatD.q;rw[h,Rat.mkRat_zero]
  rw[this,Rat.zero_num,Rat.zero_den,Yv];simp[Dt]
 ·obtain⟨a1,_,a3⟩:=Bkl (Av x.neg x.ns) (val x.ds.l) h
  have b1:x.q.num.natAbs≤val x.ns.l:=by show(mkRat _ _).num.natAbs≤_;rw[a1,Ci];exact Nat.div_le_self _ _
  have b2:x.q.den≤val x.ds.l:=by show(mkRat _ _).den≤_;rw[a3];exact Nat.div_le_self _ _
  have c1:=Nat.le_trans (Bv b1) (Bk hx.1).2
  have c2:=Nat.le_trans (Bv b2) (Bk hx.2).2
  omega
theorem B3l (z:Int) (d:Nat) (k:Nat) (h1:z.natAbs<4294967296 ^ k) (h2:d<4294967296 ^ k) (hd:d≠0):qm (mkRat z d)≤k:=by
 obtain⟨a1,_,a3⟩:=Bkl z d hd
 unfold qm
 have b1:(mkRat z d).num.natAbs≤z.natAbs:=by rw[a1];exact Nat.div_le_self _ _
 have b2:(mkRat z d).den≤d:=by rw[a3];exact Nat.div_le_self _ _
 have c1:=B5 (Nat.lt_of_le_of_lt b1 h1)
 have c2:=B5 (Nat.lt_of_le_of_lt b2 h2)
 omega
theorem Ae9 (q:Rat):q.num.natAbs<4294967296 ^ qm q:=B77 (Nat.le_max_left _ _)
theorem Wu (q:Rat):q.den<4294967296 ^ qm q:=B77 (Nat.le_max_right _ _)
theorem A63 (a b:Rat):qm (a+b)≤qm a+qm b+1:=by
 rw[Rat.add_def']
 have da:((a.den:Nat):Int).natAbs<4294967296 ^ qm a:=by rw[Int.natAbs_natCast];exact Wu a
 have db:((b.den:Nat):Int).natAbs<4294967296 ^ qm b:=by rw[Int.natAbs_natCast];exact Wu b
 refine B3l _ _ _ ?_ ?_ (Nat.mul_ne_zero a.den_nz b.den_nz)
 ·refine A3w (Gr (Ae9 a) db) ?_
  have:=Gr (Ae9 b) da
  rwa [Nat.add_comm (qm b)] at this
 ·rw[Nat.pow_succ,Nat.pow_add]
  have:=Nat.mul_lt_mul'' (Wu a) (Wu b)
  omega
theorem Bko (a b:Rat):qm (a*b)≤qm a+qm b:=by
 rw[Rat.mul_def']
 refine B3l _ _ _ (Gr (Ae9 a) (Ae9 b)) ?_ (Nat.mul_ne_zero a.den_nz b.den_nz)
 rw[Nat.pow_add];exact Nat.mul_lt_mul'' (Wu a) (Wu b)
theorem B78 (a:Rat):qm (-a)=qm a:=by unfold qm;rw[Rat.neg_num,Rat.neg_den,Int.natAbs_neg]
theorem Azu (a b:Rat):qm (a - b)≤qm a+qm b+1:=by rw[Rat.sub_eq_add_neg,←B78 b];exact A63 _ _
theorem Cas {v:Int} (h:v.natAbs<18446744073709551616):qm (v:Rat)≤2:=by
 unfold qm;rw[Rat.num_intCast,Rat.den_intCast,Yv]
 have:=Yt h
 simp;omega
theorem mkq {a:Int} {b:Nat}:mkRat a ((b:Int)).natAbs=mkRat a b:=by rw[Int.natAbs_natCast]
theorem B1o {N:Nat} {x:RatD} {o:Bool} {K:LA→Option R} (hx:x.ok) (hf:fit (16*x.m+40) N):As9 N x.av o K=K (cq (-x.q)):=by
 have hq:=Ame x hx
 have q1:(dig x.q.num.natAbs).length≤qm x.q:=Nat.le_max_left _ _
 have q2:(dig x.q.den).length≤qm x.q:=Nat.le_max_right _ _
 rw[Baf];unfold Bh1
 rw[Hd,ct,C8,Hy hx (hf.le (by omega)),Bbm,ct,Arg,Cbs (hf.le (show(dig x.q.num.natAbs).length≤_ by omega)),ct,No hx (hf.le (by omega)),Bqz (by omega) (hf.le (show 4*((dig (-x.q.num).natAbs).length+(dig ((x.q.den:Nat):Int).natAbs).length)+10≤_ by rw[Int.natAbs_neg,Int.natAbs_natCast];omega)),mkq]
 have:mkRat (-x.q.num) x.q.den=-x.q:=by rw[←Rat.neg_mkRat,Rat.mkRat_self]
 rw[this];exact Bbl _ _
theorem Bkp {N:Nat} {x y:RatD} {o o':Bool} {K:LA→Option R} (hx:x.ok) (hy:y.ok) (hf:fit (16*(x.m+y.m)+80) N):Uj N x.av o y.av o' K=K (cq (x.q+y.q)):=by
 have hqx:=Ame x hx
 have hqy:=Ame y hy
 have x1:=Ae9 x.q
 have x2:((x.q.den:Nat):Int).natAbs<4294967296 ^ qm x.q:=by rw[Int.natAbs_natCast];exact Wu _
 have y1:=Ae9 y.q
 have y2:((y.q.den:Nat):Int).natAbs<4294967296 ^ qm y.q:=by rw[Int.natAbs_natCast];exact Wu _
 have L1:=B5 x1
 have L2:=B5 x2
 have L3:=B5 y1
 have L4:=B5 y2
 have z1:=Gr x1 y2
 have z2:=Gr y1 x2
 have z3:=A3w (k:=qm x.q+qm y.q) z1 (by rwa [Nat.add_comm])
 have z4:=Gr x2 y2
 have M1:=B5 z1
 have M2:=B5 z2
 have M3:=B5 z3
 have M4:=B5 z4
 rw[Bal];unfold Big
 rw[Hd,ct,C8,Hy hx (hf.le (by omega)),Hd,ct,C8,Hy hy (hf.le (by omega)),show ∀ q,((Nat.beq 0 0)&&((Nat.beq (List.length (cq q)) 3)&&(Nat.beq 3 3)))=true from fun q=>rfl,ct,show ∀ q,((Nat.beq 0 0)&&((Nat.beq (List.length (cq q)) 3)&&(Nat.beq 3 3)))=true from fun q=>rfl,ct,Bbm,ct,ct,No hy (hf.le (by omega)),Arg,B1m (hf.le (show(dig x.q.num.natAbs).length+(dig ((y.q.den:Nat):Int).natAbs).length≤_ by omega)),Bbm,ct,ct,No hx (hf.le (by omega)),Arg,B1m (hf.le (show(dig y.q.num.natAbs).length+(dig ((x.q.den:Nat):Int).natAbs).length≤_ by omega)),Cbt (hf.le (show(dig (x.q.num*((y.q.den:Nat):Int)).natAbs).length+(dig (y.q.num*((x.q.den:Nat):Int)).natAbs).length+1≤_ by omega)),ct,No hx (hf.le (by omega)),ct,No hy (hf.le (by omega)),B1m (hf.le (show(dig ((x.q.den:Nat):Int).natAbs).length+(dig ((y.q.den:Nat):Int).natAbs).length≤_ by omega)),Bqz (Int.mul_nonneg (by omega) (by omega)) (hf.le (show 4*((dig (x.q.num*((y.q.den:Nat):Int)+y.q.num*((x.q.den:Nat):Int)).natAbs).length+(dig (((x.q.den:Nat):Int)*((y.q.den:Nat):Int)).natAbs).length)+10≤_ by omega))]
 have:mkRat (x.q.num*((y.q.den:Nat):Int)+y.q.num*((x.q.den:Nat):Int)) (((x.q.den:Nat):Int)*((y.q.den:Nat):Int)).natAbs=x.q+y.q:=by
  rw[Rat.add_def',Int.natAbs_mul,Int.natAbs_natCast,Int.natAbs_natCast]
 rw[this];exact Bbl _ _
theorem Bkq {N:Nat} {x y:RatD} {o o':Bool} {K:LA→Option R} (hx:x.ok) (hy:y.ok) (hf:fit (16*(x.m+y.m)+100) N):Uk N x.av o y.av o' K=K (cq (x.q - y.q)):=by
 have hqy:=Ame y hy
 rw[Ban];unfold Bil
 rw[Hd,ct,Hd,ct,C8,C8,B1o hy (hf.le (by omega))]
 have:=Bkp (R:=R) (N:=N) (x:=x) (y:=cqD (-y.q)) (o:=o) (o':=false) (K:=fun e=>(cond ((Nat.beq 0 0)&&((Nat.beq (List.length e) 3)&&(Nat.beq 3 3))) (cond (Nat.ble 3 (List.length e)) (K (List.take 3 e)) none) none)) hx (Btn _) (hf.le (by rw[B3k,B78];omega))
 rw[Bx6,←Rat.sub_eq_add_neg] at this
 exact this.trans (Bbl _ _)
theorem Arh {N:Nat} {x:RatD} {o:Bool} {K:Int→Option R} (hx:x.ok) (hf:fit (8*x.m+10) N):Q5 N x.av o K=K x.q.num.sign:=by
 have hq:=Ame x hx
 have q1:(dig x.q.num.natAbs).length≤qm x.q:=Nat.le_max_left _ _
 rw[A2y];unfold A6r
 rw[Hd,ct,C8,Hy hx hf,Bbm,ct,Arg,Cbj (hf.le (show(dig x.q.num.natAbs).length≤_ by omega))]
theorem Bx7 (a b:Rat):(a - b).num.sign=Rf a b:=by
 unfold Rf
 by_cases h:a<b
 ·rw[if_pos h]
  have h1:a - b<0:=by grind
  have:(a - b).num<0:=by
   apply Int.not_le.1;intro h2
   exact absurd (Rat.num_nonneg.1 h2) (Rat.not_le.2 h1)
  exact Int.sign_eq_neg_one_of_neg this
 ·rw[if_neg h]
  by_cases h2:b<a
  ·rw[if_pos h2]
   have h1:0<a - b:=by grind
   have h3:0≤(a - b).num:=Rat.num_nonneg.2 (Rat.le_of_lt h1)
   have h4:(a - b).num≠0:=fun hh=>by
    have:=Rat.num_eq_zero.1 hh
    rw[this] at h1;exact absurd h1 Rat.lt_irrefl
   exact Int.sign_eq_one_of_pos (by omega)
  ·rw[if_neg h2]
   have:a=b:=Rat.le_antisymm (Rat.not_lt.1 h2) (Rat.not_lt.1 h)
   rw[this,Rat.sub_self];rfl
theorem Bkr {N:Nat} {x y:RatD} {o o':Bool} {K:Int→Option R} (hx:x.ok) (hy:y.ok) (hf:fit (16*(x.m+y.m)+100) N):Dw N x.av o y.av o' K=K (Rf x.q y.q):=by
 have hqx:=Ame x hx
 have hqy:=Ame y hy
 have hs:=Azu x.q y.q
 rw[Alz];unfold Ajs
 rw[Hd,ct,Hd,ct,C8,C8,Bkq hx hy hf]
 have:=Arh (R:=R) (N:=N) (x:=cqD (x.q - y.q)) (o:=false) (K:=fun g=>K g) (Btn _) (hf.le (by rw[B3k];omega))
 rw[Bx6,Bx7] at this
 exact this
theorem B1p {N:Nat} {x y:RatD} {o o':Bool} {K:LA→Option R} (hx:x.ok) (hy:y.ok) (hf:fit (16*(x.m+y.m)+80) N):Adf N x.av o y.av o' K=K (cq (x.q*y.q)):=by
 have hqx:=Ame x hx
 have hqy:=Ame y hy
 have x1:=Ae9 x.q
 have x2:((x.q.den:Nat):Int).natAbs<4294967296 ^ qm x.q:=by rw[Int.natAbs_natCast];exact Wu _
 have y1:=Ae9 y.q
 have y2:((y.q.den:Nat):Int).natAbs<4294967296 ^ qm y.q:=by rw[Int.natAbs_natCast];exact Wu _
 have L1:=B5 x1
 have L2:=B5 x2
 have L3:=B5 y1
 have L4:=B5 y2
 have M1:=B5 (Gr x1 y1)
 have M4:=B5 (Gr x2 y2)
 rw[Bas];unfold Bit
 rw[Hd,ct,C8,Hy hx (hf.le (by omega)),Bbm,ct,Hd,ct,C8,Hy hy (hf.le (by omega)),Bbm,ct,Arg,Arg,B1m (hf.le (show(dig x.q.num.natAbs).length+(dig y.q.num.natAbs).length≤_ by omega)),ct,No hx (hf.le (by omega)),ct,No hy (hf.le (by omega)),B1m (hf.le (show(dig ((x.q.den:Nat):Int).natAbs).length+(dig ((y.q.den:Nat):Int).natAbs).length≤_ by omega)),Bqz (Int.mul_nonneg (by omega) (by omega)) (hf.le (show 4*((dig (x.q.num*y.q.num).natAbs).length+(dig (((x.q.den:Nat):Int)*((y.q.den:Nat):Int)).natAbs).length)+10≤_ by omega))]
 have:mkRat (x.q.num*y.q.num) (((x.q.den:Nat):Int)*((y.q.den:Nat):Int)).natAbs=x.q*y.q:=by
  rw[Rat.mul_def',Int.natAbs_mul,Int.natAbs_natCast,Int.natAbs_natCast]
 rw[this];exact Bbl _ _
theorem Bks {N:Nat} {v:Int} {K:LA→Option R} (hv:-9223372036854775808≤v∧v≤9223372036854775807) (hN:4000≤N):Eg N v K=K (cq (v:Rat)):=by
 have hl:=Yt (show v.natAbs<18446744073709551616 by omega)
 rw[Ald];unfold Ai4
 rw[Um hv (by omega),Um (by omega) (by omega),Bqz (by omega) ⟨show 100*(4*((dig v.natAbs).length+(dig (1:Int).natAbs).length)+10)+1000≤N by (rw[show(1:Int).natAbs=1 by rfl,Yv];simp;omega),show 4*((dig v.natAbs).length+(dig (1:Int).natAbs).length)+10≤1000000000 by (rw[show(1:Int).natAbs=1 by rfl,Yv];simp;omega)⟩]
 have:mkRat v (1:Int).natAbs=(v:Rat):=B1n v
 rw[this];exact Bbl _ _
theorem Bx8 {N:Nat} {v w:Int} {K:LA→Option R} (hv:-9223372036854775808≤v∧v≤9223372036854775807) (hw:0≤w∧w≤9223372036854775807) (hN:4000≤N):Azm N v w K=K (cq (mkRat v w.natAbs)):=by
 have hl:=Yt (show v.natAbs<18446744073709551616 by omega)
 have hl2:=Yt (show w.natAbs<18446744073709551616 by omega)
 rw[Bir];unfold Bte
 rw[Um hv (by omega),Um (by omega) (by omega),Bqz (by omega) ⟨show 100*(4*((dig v.natAbs).length+(dig w.natAbs).length)+10)+1000≤N by omega,show 4*((dig v.natAbs).length+(dig w.natAbs).length)+10≤1000000000 by omega⟩]
 exact Bbl _ _
end
end Gx

namespace Gx
open Go Go.Proofs
section
variable {R:Type}
theorem tk3 (x:RatD):List.take 3 x.av=x.av:=rfl
theorem b3 (x:RatD):Nat.ble 3 (List.length x.av)=true:=rfl
theorem c3 (x:RatD):((Nat.beq 0 0)&&((Nat.beq (List.length x.av) 3)&&(Nat.beq 3 3)))=true:=rfl
theorem c4 (x y:RatD):((Nat.beq (List.length x.av) 3)&&((Nat.ble 3 (List.length y.av))&&(!false)))=true:=rfl
theorem c4' (x:RatD):((Nat.beq (List.length x.av) 3)&&(true&&(!false)))=true:=rfl
theorem B9a (x y:RatD):setCells x.av 0 y.av=y.av:=rfl
section
variable {N:Nat} {X:Option R} {K:LA→Option R} {x y:RatD} {o o':Bool} {p q:Rat}
theorem Cat (hx:x.can p) (hy:y.can q) (hf:fit (8*(qm p+qm q)+40) N) (h:∀ d:RatD,d.can (p+q)→K d.av=X):Ajm N x.av o y.av o' K=X:=by
 obtain⟨d,hd,e⟩:=Bqx (R:=R) (N:=N) (o:=o) (o':=o') hx.ok hy.ok (by rw[hx.m,hy.m];exact hf)
 rw[e];exact h d (by rw[hx.q,hy.q] at hd;exact hd)
theorem Cau (hx:x.can p) (hy:y.can q) (hf:fit (8*(qm p+qm q)+40) N) (h:∀ d:RatD,d.can (p - q)→K d.av=X):Ajo N x.av o y.av o' K=X:=by
 obtain⟨d,hd,e⟩:=Bqy (R:=R) (N:=N) (o:=o) (o':=o') hx.ok hy.ok (by rw[hx.m,hy.m];exact hf)
 rw[e];exact h d (by rw[hx.q,hy.q] at hd;exact hd)
theorem Cav (hx:x.can p) (hy:y.can q) (hf:fit (8*(qm p+qm q)+40) N) (h:∀ d:RatD,d.can (p*q)→K d.av=X):Azh N x.av o y.av o' K=X:=by
 obtain⟨d,hd,e⟩:=B6d (R:=R) (N:=N) (o:=o) (o':=o') hx.ok hy.ok (by rw[hx.m,hy.m];exact hf)
 rw[e];exact h d (by rw[hx.q,hy.q] at hd;exact hd)
theorem Caw (hx:x.can p) (hy:y.can q) (hf:fit (8*(qm p+qm q)+40) N) (h:∀ d:RatD,d.can (if p≤q then p else q)→K d.av=X):Azf N x.av o y.av o' K=X:=by
 obtain⟨d,hd,e⟩:=B6e (R:=R) (N:=N) (o:=o) (o':=o') hx.ok hy.ok (by rw[hx.m,hy.m];exact hf)
 rw[e];exact h d (by rw[hx.q,hy.q] at hd;exact hd)
theorem Un {v:Int} (hv:-9223372036854775808≤v∧v≤9223372036854775807) (hN:4≤N) (h:∀ d:RatD,d.can (v:Rat)→K d.av=X):Da N v K=X:=by
 obtain⟨d,hd,e⟩:=Bn5 (R:=R) (N:=N) hv hN
 rw[e];exact h d hd
end
theorem B9b {q:Rat}:decide (q.num.sign≤0)=decide (q≤0):=by
 have e:q≤0↔q.num≤0:=by
  rw[Rat.le_iff_sub_nonneg,←Rat.num_nonneg,Rat.sub_eq_add_neg,Rat.zero_add,Rat.neg_num];omega
 rw[decide_eq_decide,e]
 rcases Int.lt_trichotomy q.num 0 with h | h | h
 ·rw[Int.sign_eq_neg_one_of_neg h];omega
 ·rw[h];simp
 ·rw[Int.sign_eq_one_of_pos h];omega
theorem qi {v:Int} (h:-9223372036854775808≤v∧v≤9223372036854775807):qm (v:Rat)≤2:=Cas (by omega)
def I9:Rat→List SegD→Rat
 | _,[]=>0
 | Ry,s::r=>if Ry≤0 then 0 else (s.price:Rat)*(if Ry≤(s.width:Rat) then Ry else (s.width:Rat))+I9 (Ry - (if Ry≤(s.width:Rat) then Ry else (s.width:Rat))) r
def sgR (l:List SegD):Prop:=∀ s ∈ l,-1048576≤s.width∧s.width≤1048576∧-1048576≤s.price∧s.price≤1048576
theorem B79 {N:Nat} {X:Option R} {K:LA→Option R} {v:Int} {x:RatD} {q:Rat} {o:Bool} (hv:-9223372036854775808≤v∧v≤9223372036854775807) (hx:x.can q) (hf:fit (8*(2+qm q)+40) N) (h:∀ d:RatD,d.can ((v:Rat)*q)→K d.av=X):Ag3 N v x.av o K=X:=by
 rw[A29];unfold A6t
 refine Un hv (by have:=hf.1;omega) fun d hd=>?_
 simp only[tk3,b3,ct]
 refine Cav hd hx (hf.le (by have:=qi hv;omega)) fun d' hd'=>?_
 simp only[tk3,b3,c3,ct]
 exact h d' hd'
theorem B9c {N:Nat} {X:Option R} {K:LA→Option R} {l:List SegD} {d:Bool} {A:Nat} (hl:sgR l) (h8:l.length≤8) (hA:2≤A) (hf:fit (100*A+6000) N):∀ (m j fuel:Nat) (x y:RatD) (p q:Rat),j+m=l.length→m<fuel→x.can p→y.can q→qm p≤A+3*j→qm q≤2+j*(A+31) →
  (∀ d:RatD,d.can (q+I9 p (l.drop j))→K d.av=X)→D4 N K (l.flatMap SegD.av) l.length d fuel (l.length:Int) (j:Int) x.av y.av=X:=by
 intro m
 induction m with
 | zero =>
  intro j fuel x y p q hj hfu hx hy _ _ hX
  obtain⟨fuel,rfl⟩:∃ k,fuel=k+1:=⟨fuel - 1,by omega⟩
  rw[D4];unfold Jv
  rw[ltF (by omega),cf]
  simp only[tk3,b3,c3,ct]
  rw[I8 (l:=l) (by omega)] at hX
  exact hX y (by rw[I9,Rat.add_zero];exact hy)
 | succ m ih =>
  intro j fuel x y p q hj hfu hx hy hp hq hX
  obtain⟨fuel,rfl⟩:∃ k,fuel=k+1:=⟨fuel - 1,by omega⟩
  rw[D4];unfold Jv
  have h:j<l.length:=by omega
  have hj8:j≤8:=by omega
  have hr:=hl l[j] (List.getElem_mem h)
  have hjA:j*(A+31)≤8*(A+31):=Nat.mul_le_mul_right _ hj8
  rw[ltT h,ct,Ab h,ct,Bth h]
  have p0:List.take 2 ((AV.int .i64 l[j].width)::(AV.int .i64 l[j].price)::(l.drop (j+1)).flatMap SegD.av)=[(.int .i64 l[j].width),(.int .i64 l[j].price)]:=rfl
  rw[p0,show Nat.ble 2 (List.length ((AV.int .i64 l[j].width)::(AV.int .i64 l[j].price)::(l.drop (j+1)).flatMap SegD.av))=true by simp,ct]
  rw[show((!d)||Bb [(AV.int .i64 l[j].width),(.int .i64 l[j].price)])=true by cases d<;>rfl,ct]
  rw[show((Nat.beq (List.length [(AV.int .i64 l[j].width),(.int .i64 l[j].price)]) 2)&&((Nat.ble 2 2)&&(!false)))=true from rfl,ct]
  simp only[tk3,b3,c3,ct,Bti,A3p]
  rw[Ml hx.ok (hf.le (by rw[hx.m];omega)),hx.q,B9b]
  rw[F4 h,I9] at hX
  by_cases hp0:p≤0
  ·rw[decide_eq_true hp0,ct]
   rw[if_pos hp0,Rat.add_zero] at hX
   exact hX y hy
  ·rw[decide_eq_false hp0,cf]
   rw[if_neg hp0] at hX
   refine Un (by omega) (by have:=hf.1;omega) fun wd hwd=>?_
   have hqw:=qi (v:=l[j].width) (by omega)
   have hqp:=qi (v:=l[j].price) (by omega)
   refine Caw hx hwd (hf.le (by omega)) fun pd hpd=>?_
   simp only[tk3,b3,c3,ct]
   generalize hpart:(if p≤(l[j].width:Rat) then p else (l[j].width:Rat))=part at hpd hX
   have hqpart:qm part≤A+3*j:=by rw[←hpart];split<;>omega
   refine B79 (by omega) hpd (hf.le (by omega)) fun td htd=>?_
   have hqt:qm ((l[j].price:Rat)*part)≤2+(A+3*j):=by have:=Bko (l[j].price:Rat) part;omega
   refine Cat hy htd (hf.le (by omega)) fun ad had=>?_
   rw[c4',ct]
   refine Cau hx hpd (hf.le (by omega)) fun sd hsd=>?_
   rw[c4',ct,B9a,B9a]
   rw[wS (by omega)]
   have hqa:qm (q+(l[j].price:Rat)*part)≤2+(j+1)*(A+31):=by
    have:=A63 q ((l[j].price:Rat)*part)
    rw[Nat.add_mul];omega
   have hqs:qm (p - part)≤A+3*(j+1):=by
    rw[←hpart]
    split
    ·rw[Rat.sub_self]
     have:qm ((0:Int):Rat)≤2:=qi (by omega)
     have e:((0:Int):Rat)=0:=rfl
     rw[e] at this;omega
    ·have:=Azu p (l[j].width:Rat);omega
   refine ih (j+1) fuel sd ad _ _ (by omega) (by omega) hsd had hqs hqa fun d hd=>hX d ?_
   rw[←Rat.add_assoc];exact hd
def RatD.is (x:RatD) (q:Rat) (m:Nat):Prop:=x.ok∧x.q=q∧x.m≤m
theorem RatD.can.is {x:RatD} {q:Rat} {m:Nat} (h:x.can q) (hm:qm q≤m):x.is q m:=⟨h.ok,h.q,by rw[h.m];exact hm⟩
def Bdb:RatD:=⟨false,.nil,.nil⟩
theorem Ady {m:Nat}:Bdb.is 0 m:=by
 refine⟨⟨?_,?_⟩,?_,?_⟩
 ·intro x hx;simp[Bdb,LS.l] at hx
 ·intro x hx;simp[Bdb,LS.l] at hx
 ·simp[Bdb,RatD.q,LS.l,Av,val]
 ·simp[Bdb,RatD.m,LS.l]
theorem RatD.is.qm {x:RatD} {q:Rat} {m:Nat} (h:x.is q m):qm q≤m+1:=by
 have:=Ame x h.1
 rw[h.2.1] at this;have:=h.2.2;omega
section
variable {N:Nat} {X:Option R} {K:LA→Option R} {K':Int→Option R} {x y:RatD} {o o':Bool} {p q:Rat} {m n:Nat}
theorem B9d (hx:x.is p m) (hy:y.is q n) (hf:fit (8*(m+n)+40) N) (h:∀ d:RatD,d.can (p - q)→K d.av=X):Ajo N x.av o y.av o' K=X:=by
 obtain⟨d,hd,e⟩:=Bqy (R:=R) (N:=N) (o:=o) (o':=o') hx.1 hy.1 (hf.le (by have:=hx.2.2;have:=hy.2.2;omega))
 rw[e];exact h d (by rw[hx.2.1,hy.2.1] at hd;exact hd)
theorem B9e (hx:x.is p m) (hy:y.is q n) (hf:fit (4*(m+n)+10) N):Gm N x.av o y.av o' K'=K' (Rf p q):=by
 rw[Ae8 hx.1 hy.1 (hf.le (by have:=hx.2.2;have:=hy.2.2;omega)),hx.2.1,hy.2.1]
theorem B1q (hx:x.is p m) (hy:y.is q n) (hf:fit (16*(m+n)+100) N):Dw N x.av o y.av o' K'=K' (Rf p q):=by
 rw[Bkr hx.1 hy.1 (hf.le (by have:=hx.2.2;have:=hy.2.2;omega)),hx.2.1,hy.2.1]
theorem Cax (hx:x.is p m) (hy:y.is q n) (hf:fit (16*(m+n)+100) N):Uk N x.av o y.av o' K=K (cqD (p - q)).av:=by
 rw[Bkq hx.1 hy.1 (hf.le (by have:=hx.2.2;have:=hy.2.2;omega)),hx.2.1,hy.2.1];rfl
theorem Cay (hx:x.is p m) (hy:y.is q n) (hf:fit (16*(m+n)+80) N):Uj N x.av o y.av o' K=K (cqD (p+q)).av:=by
 rw[Bkp hx.1 hy.1 (hf.le (by have:=hx.2.2;have:=hy.2.2;omega)),hx.2.1,hy.2.1];rfl
theorem Cbk (hx:x.is p m) (hy:y.is q n) (hf:fit (16*(m+n)+80) N):Adf N x.av o y.av o' K=K (cqD (p*q)).av:=by
 rw[B1p hx.1 hy.1 (hf.le (by have:=hx.2.2;have:=hy.2.2;omega)),hx.2.1,hy.2.1];rfl
theorem Bq0 {v:Int} (hv:-9223372036854775808≤v∧v≤9223372036854775807) (hN:4000≤N):Eg N v K=K (cqD (v:Rat)).av:=Bks hv hN
end
theorem Xi {q:Rat} {m:Nat} (h:qm q≤m):(cqD q).is q m:=(Bdw q).is h
theorem qiI {v:Int} (h:-9223372036854775808≤v∧v≤9223372036854775807):(cqD (v:Rat)).is v 2:=Xi (qi h)
theorem Bto {p q:Rat}:decide (Rf p q≥0)=decide (q≤p):=by
 rw[decide_eq_decide];unfold Rf
 by_cases h:p<q
 ·rw[if_pos h];simp[Rat.not_le.2 h]
 ·rw[if_neg h];have:=Rat.not_lt.1 h;simp only[this,iff_true];split<;>omega
theorem B8a {p q:Rat}:decide (Rf p q≤0)=decide (p≤q):=by rw[decide_eq_decide];exact Btm
def inQ (p:Rat) (lo hi:Int):Bool:=decide ((lo:Rat)≤p)&&decide (p≤(hi:Rat))
theorem Bbo {N:Nat} {K:Bool→Option R} {x:RatD} {p:Rat} {m:Nat} {o:Bool} {lo hi:Int} (hx:x.is p m) (h1:-9223372036854775808≤lo∧lo≤9223372036854775807) (h2:-9223372036854775808≤hi∧hi≤9223372036854775807) (hf:fit (4*(m+2)+10) N) (hN:4≤N):Tp N x.av o lo hi K=K (inQ p lo hi):=by
 rw[Awt];unfold Azn
 rw[b3,ct,tk3]
 refine Un h1 hN fun a ha=>?_
 rw[B9e hx (ha.is (qi h1)) hf,Bto]
 refine(congrArg (cond _ · _) (Un (X:=K (decide (p≤(hi:Rat)))) h2 hN fun b hb=>?_)).trans ?_
 ·rw[B9e hx (hb.is (qi h2)) hf,B8a];rfl
 ·unfold inQ;cases decide ((lo:Rat)≤p)<;>rfl
theorem B1r {N:Nat} {X:Option R} {K:LA→Option R} {u:UnitD} {x:RatD} {o o':Bool} {p:Rat} {m:Nat} (hx:x.is p m) (hl:sgR u.segs.l) (h8:u.segs.l.length≤8) (hu:-1048576≤u.min∧u.min≤1048576) (hf:fit (100*(m+8)+6000) N)
  (h:∀ d:RatD,d.can (I9 (p - (u.min:Rat)) u.segs.l)→K d.av=X):I6 N u.av o x.av o' K=X:=by
 rw[Aa3];unfold Ow
 rw[b3,ct,tk3,u2]
 refine Un (by omega) (by have:=hf.1;omega) fun a ha=>?_
 refine B9d hx (ha.is (qi (by omega))) (hf.le (by omega)) fun r hr=>?_
 rw[c3,ct]
 refine Un (by omega) (by have:=hf.1;omega) fun z hz=>?_
 rw[c3,ct,u4]
 have hq:qm (p - (u.min:Rat))≤m+4:=by have:=Azu p (u.min:Rat);have:=hx.qm;have:=qi (v:=u.min) (by omega);omega
 refine B9c (A:=m+4) hl h8 (by omega) (hf.le (by omega)) u.segs.l.length 0 N r z (p - (u.min:Rat)) ((0:Int):Rat) (by omega) (by have:=hf.1;omega) hr hz (by omega) (by have:=qi (v:=0) (by omega);omega) fun d hd=>?_
 exact h d (by rw[List.drop_zero,show(((0:Int):Rat))=0 from rfl,Rat.zero_add] at hd;exact hd)
end
end Gx

namespace Gx
open Go Go.Proofs
section
variable {R:Type}
theorem Atg {u:UnitD} {h:Int} (hv:Fq u h=true):(0≤u.min∧u.min≤1048576)∧(0≤u.max∧u.max≤1048576)∧u.min≤u.max:=by
 simp only[Fq,Bool.and_eq_true,inR,decide_eq_true_eq] at hv
 exact⟨hv.2.2.1,hv.2.2.2.1,hv.2.2.2.2.2.2.2.1⟩
theorem Jy {u:UnitD} {h:Int} (hv:Fq u h=true):u.segs.l.length≤8∧Ek (-1048576) u.segs.l=true∧Ae5 u.segs.l=u.max - u.min:=by
 simp only[Fq,Bool.and_eq_true] at hv
 have:=hv.2.2.2.2.2.2.2.2.2.2.2.2.2.2.2.1
 simpa[Bkc] using this
theorem Btp:∀ {l:List SegD} {p:Int},Ek p l=true→(∀ s ∈ l,1≤s.width∧s.width≤1048576∧-1048576≤s.price∧s.price≤1048576)
 | [],_,_,_,hs=>by simp at hs
 | a::r,p,h,s,hs=>by
  simp only[Ek,Bool.and_eq_true,inR,decide_eq_true_eq] at h
  rcases List.mem_cons.1 hs with rfl | hs
  ·omega
  ·exact Btp h.2.2.2 s hs
theorem A64 {u:UnitD} {h:Int} (hv:Fq u h=true):sgR u.segs.l:=fun s hs=>by
 have:=Btp (Jy hv).2.1 s hs;omega
def scE (u:UnitD) (p:Rat):Int:=cond (Fq u 24) (cond (inQ p u.min u.max) 0 3) 1
def scQ (u:UnitD) (p:Rat):Rat:=cond (Fq u 24&&inQ p u.min u.max) (I9 (p - (u.min:Rat)) u.segs.l) 0
theorem Bx9 {A:Nat}:∀ (l:List SegD) (p:Rat),sgR l→2≤A→qm p≤A→qm (I9 p l)≤2+l.length*(A+3*l.length+31)
 | [],p,_,_,_=>by
  have:qm (0:Rat)≤2:=qi (v:=0) (by omega)
  rw[I9];simpa using this
 | s::r,p,hs,hA,hp=>by
  have hr:=hs s (by simp)
  have hqw:=qi (v:=s.width) (by omega)
  have hqp:=qi (v:=s.price) (by omega)
  have h0:qm (0:Rat)≤2:=qi (v:=0) (by omega)
  rw[I9]
  split
  ·omega
  ·generalize hpart:(if p≤(s.width:Rat) then p else (s.width:Rat))=part
   have hqpart:qm part≤A:=by rw[←hpart];split<;>omega
   have hsub:qm (p - part)≤A+3:=by
    rw[←hpart];split
    ·rw[Rat.sub_self];omega
    ·have:=Azu p (s.width:Rat);omega
   have h1:=Bx9 (A:=A+3) r (p - part) (fun s hs'=>hs s (by simp[hs'])) (by omega) hsub
   have h2:=Bko (s.price:Rat) part
   have h3:=A63 ((s.price:Rat)*part) (I9 (p - part) r)
   rw[List.length_cons]
   have:A+3+3*r.length+31=A+3*(r.length+1)+31:=by omega
   rw[this] at h1
   rw[Nat.add_mul];omega
theorem Caz {u:UnitD} {p:Rat} {m:Nat} (hp:qm p≤m+1):qm (scQ u p)≤8*m+800:=by
 have h0:qm (0:Rat)≤2:=qi (v:=0) (by omega)
 unfold scQ
 cases hv:Fq u 24 with
 | false=>simp only[Bool.false_and,cond_false];omega
 | true =>
  cases inQ p u.min u.max with
  | false=>simp only[Bool.and_false,cond_false];omega
  | true =>
   simp only[Bool.and_self,cond_true]
   have h1:=Atg hv
   have h2:=Jy hv
   have hq:qm (p - (u.min:Rat))≤m+4:=by have:=Azu p (u.min:Rat);have:=qi (v:=u.min) (by omega);omega
   have:=Bx9 (A:=m+4) u.segs.l _ (A64 hv) (by omega) hq
   have h3:u.segs.l.length*(m+4+3*u.segs.l.length+31)≤8*(m+4+24+31):=Nat.mul_le_mul h2.1 (by omega)
   omega
theorem Rg {N:Nat} {X:Option R} {K:LA→Int→Option R} {u:UnitD} {x:RatD} {o o':Bool} {p:Rat} {m:Nat} (hx:x.is p m) (ha:u.away.l.length≤1000) (hf:fit (200*(m+8)+12000) N) (hN:4000≤N)
  (h:∀ d:RatD,d.is (scQ u p) (8*m+800)→K d.av (scE u p)=X):D5 N u.av o x.av o' K=X:=by
 rw[Aa5];unfold Wq
 simp only[Adu,Rd,ct,b3,tk3,u2,u3]
 rw[Ae6 (by omega) (by omega) (by omega)]
 unfold scE at h
 cases hv:Fq u 24 with
 | false =>
  rw[hv] at h
  exact h Bdb (by unfold scQ;rw[hv];exact Ady)
 | true =>
  have h1:=Atg hv
  have h2:=Jy hv
  rw[hv] at h
  rw[show(!true)=false from rfl,cf,Bbo hx (by omega) (by omega) (hf.le (by omega)) (by omega)]
  cases hi:inQ p u.min u.max with
  | false =>
   rw[hi] at h
   exact h Bdb (by unfold scQ;rw[hv,hi];exact Ady)
  | true =>
   rw[hi] at h
   rw[show(!true)=false from rfl,cf]
   refine B1r hx (A64 hv) h2.1 (by omega) (hf.le (by omega)) fun d hd=>?_
   rw[c3,ct,tk3,b3,ct]
   have e:scQ u p=I9 (p - (u.min:Rat)) u.segs.l:=by unfold scQ;rw[hv,hi];rfl
   exact h d ((e▸hd:d.can (scQ u p)).is (Caz hx.qm))
end
end Gx

namespace Gx
open Go Go.Proofs
section
variable {R:Type}
def Bn7 (p:Rat):Int→Bool→Rat→List SegD→Bool×Rat
 | _,b,q,[]=>(b,q)
 | a,b,q,s::r=>cond (decide (Rf p (a:Rat)>0)&&decide (Rf p ((a+s.width:Int):Rat)≤0)) (Bn7 p (a+s.width) true (s.price:Rat) r) (Bn7 p (a+s.width) b q r)
def Bdc (p:Rat):Int→Bool→Rat→List SegD→Bool×Rat
 | _,b,q,[]=>(b,q)
 | a,b,q,s::r=>cond (decide (Rf p (a:Rat)≥0)&&decide (Rf p ((a+s.width:Int):Rat)<0)) (Bdc p (a+s.width) true (s.price:Rat) r) (Bdc p (a+s.width) b q r)
theorem B9f {N:Nat} {X:Option R} {K:LA→LA→Bool→Bool→Option R} {l:List SegD} {d:Bool} {x:RatD} {o:Bool} {p:Rat} {m:Nat} (hx:x.is p m) (hl:sgR l) (h8:l.length≤8) (hf:fit (4*(m+2)+10) N) (hN:4000≤N):∀ (k j fuel:Nat) (a:Int) (bl bh:Bool) (ql qh:Rat) (xl xh:RatD),j+k=l.length→k<fuel→(-1048576*((j:Int)+1)≤a∧a≤1048576*((j:Int)+1))→xl.is ql 2→xh.is qh 2 →
  (∀ (y z:RatD),y.is (Bn7 p a bl ql (l.drop j)).2 2→z.is (Bdc p a bh qh (l.drop j)).2 2→K y.av z.av (Bn7 p a bl ql (l.drop j)).1 (Bdc p a bh qh (l.drop j)).1=X) →
  Fa N K (l.flatMap SegD.av) l.length d o x.av fuel bl bh a (l.length:Int) (j:Int) xl.av xh.av=X:=by
 intro k
 induction k with
 | zero =>
  intro j fuel a bl bh ql qh xl xh hj hfu ha hl' hh' hX
  obtain⟨fuel,rfl⟩:∃ k,fuel=k+1:=⟨fuel - 1,by omega⟩
  rw[Fa];unfold Ox
  rw[ltF (by omega),cf]
  rw[I8 (l:=l) (by omega)] at hX
  exact hX xl xh hl' hh'
 | succ k ih =>
  intro j fuel a bl bh ql qh xl xh hj hfu ha hl' hh' hX
  obtain⟨fuel,rfl⟩:∃ k,fuel=k+1:=⟨fuel - 1,by omega⟩
  rw[Fa];unfold Ox
  have h:j<l.length:=by omega
  have hr:=hl l[j] (List.getElem_mem h)
  rw[ltT h,ct,Ab h,ct,Bth h]
  have p0:List.take 2 ((AV.int .i64 l[j].width)::(AV.int .i64 l[j].price)::(l.drop (j+1)).flatMap SegD.av)=[(.int .i64 l[j].width),(.int .i64 l[j].price)]:=rfl
  rw[p0,show Nat.ble 2 (List.length ((AV.int .i64 l[j].width)::(AV.int .i64 l[j].price)::(l.drop (j+1)).flatMap SegD.av))=true by simp,ct]
  rw[show((!d)||Bb [(AV.int .i64 l[j].width),(.int .i64 l[j].price)])=true by cases d<;>rfl,ct]
  rw[show((Nat.beq (List.length [(AV.int .i64 l[j].width),(.int .i64 l[j].price)]) 2)&&((Nat.ble 2 2)&&(!false)))=true from rfl,ct]
  simp only[tk3,b3,ct,Bti,A3p]
  have e1:IntKind.wrap .i64 (a+l[j].width)=a+l[j].width:=i64 (by omega)
  rw[e1]
  refine Un (by omega) (by omega) fun f1 hf1=>?_
  rw[B9e hx (hf1.is (qi (by omega))) hf]
  refine Un (by omega) (by omega) fun f2 hf2=>?_
  rw[B9e hx (hf2.is (qi (by omega))) hf]
  rw[F4 h] at hX
  simp only[Bn7,Bdc] at hX
  generalize hA:Rf p (a:Rat)=A at hX ⊢
  generalize hB:Rf p ((a+l[j].width:Int):Rat)=B at hX ⊢
  have second:∀ (bl':Bool) (ql':Rat) (xl':RatD),xl'.is ql' 2 →
    (∀ (y z:RatD),y.is (Bn7 p (a+l[j].width) bl' ql' (l.drop (j+1))).2 2→z.is (cond (decide (A≥0)&&decide (B<0)) (Bdc p (a+l[j].width) true (l[j].price:Rat) (l.drop (j+1))) (Bdc p (a+l[j].width) bh qh (l.drop (j+1)))).2 2→K y.av z.av (Bn7 p (a+l[j].width) bl' ql' (l.drop (j+1))).1 (cond (decide (A≥0)&&decide (B<0)) (Bdc p (a+l[j].width) true (l[j].price:Rat) (l.drop (j+1))) (Bdc p (a+l[j].width) bh qh (l.drop (j+1)))).1=X) →
    Me N (Fa N K (l.flatMap SegD.av) l.length d o x.av fuel) K bh A B (l.flatMap SegD.av) l.length d (l.length:Int) (j:Int) o x.av xh.av bl' (a+l[j].width) xl'.av (setCells [(.int .i64 0),(.int .i64 0)] 0 [(.int .i64 l[j].width),(.int .i64 l[j].price)])=X:=by
   intro bl' ql' xl' hxl' hX'
   unfold Me
   rw[A3p,wS (by omega)]
   cases hc:(decide (A≥0)&&decide (B<0)) with
   | true =>
    rw[hc] at hX'
    simp only[Bool.and_eq_true] at hc
    rw[hc.1,hc.2]
    refine Un (by omega) (by omega) fun f3 hf3=>?_
    rw[c4,ct,B9a]
    exact ih (j+1) fuel _ _ _ _ _ _ _ (by omega) (by omega) (by omega) hxl' (hf3.is (qi (by omega))) hX'
   | false =>
    rw[hc] at hX'
    have go:=ih (j+1) fuel (a+l[j].width) bl' bh ql' qh xl' xh (by omega) (by omega) (by omega) hxl' hh' hX'
    rw[go]
    cases h1:decide (A≥0) with
    | false=>rfl
    | true =>
     rw[h1,Bool.true_and] at hc
     rw[hc];rfl
  cases hc:(decide (A>0)&&decide (B≤0)) with
  | true =>
   rw[hc] at hX
   simp only[Bool.and_eq_true] at hc
   rw[hc.1,hc.2]
   refine Un (by omega) (by omega) fun f3 hf3=>?_
   rw[c4',ct,B9a]
   exact second true _ f3 (hf3.is (qi (by omega))) hX
  | false =>
   rw[hc] at hX
   rw[second bl ql xl hl' hX]
   cases h1:decide (A>0) with
   | false=>rfl
   | true =>
    rw[h1,Bool.true_and] at hc
    rw[hc];rfl
def mgB (u:UnitD) (p:Rat):Bool:=Fq u 24&&inQ p u.min u.max
def mgL (u:UnitD) (p:Rat):Bool×Rat:=cond (mgB u p) (Bn7 p u.min false 0 u.segs.l) (false,0)
def mgH (u:UnitD) (p:Rat):Bool×Rat:=cond (mgB u p) (Bdc p u.min false 0 u.segs.l) (false,0)
theorem Bbp {N:Nat} {X:Option R} {K:LA→LA→Bool→Bool→Option R} {u:UnitD} {x:RatD} {o o':Bool} {p:Rat} {m:Nat} (hx:x.is p m) (ha:u.away.l.length≤1000) (hf:fit (200*(m+8)+12000) N) (hN:4000≤N)
  (h:∀ y z:RatD,y.is (mgL u p).2 2→z.is (mgH u p).2 2→K y.av z.av (mgL u p).1 (mgH u p).1=X):Mf N u.av o x.av o' K=X:=by
 rw[Al1];unfold Yo
 simp only[Adu,Rd,ct,b3,tk3,u2,u3]
 rw[Ae6 (by omega) (by omega) (by omega)]
 unfold mgL mgH mgB at h
 cases hv:Fq u 24 with
 | false =>
  rw[hv] at h
  exact h Bdb Bdb Ady Ady
 | true =>
  have h1:=Atg hv
  have h2:=Jy hv
  rw[hv,Bool.true_and] at h
  rw[show((!true)==false)=true from rfl,ct,Bbo hx (by omega) (by omega) (hf.le (by omega)) (by omega)]
  cases hi:inQ p u.min u.max with
  | false =>
   rw[hi] at h
   exact h Bdb Bdb Ady Ady
  | true =>
   rw[hi] at h
   rw[show(cond false true (!true))=false from rfl,cf]
   unfold Q8 Wr
   rw[u2,u4]
   exact B9f hx (A64 hv) h2.1 (hf.le (by omega)) hN u.segs.l.length 0 N u.min false false 0 0 Bdb Bdb (by omega) (by omega) (by omega) Ady Ady h
end
end Gx

namespace Gx
open Go Go.Proofs
set_option maxRecDepth 100000
section
variable {R:Type}
def exU:UnitD:={ name:=[],bus:=0,min:=10,max:=40,segs:=.of [⟨20,3⟩,⟨10,5⟩] false false,noLoad:=0,rampUp:=5,rampDown:=10,startRamp:=15,stopRamp:=15,upTime:=0,downTime:=0,startTime:=0,hotCost:=0,coldCost:=0,hotHours:=0,reserve:=0,reservePrice:=0,away:=.nil,state:=2,hours:=1,output:=12 }
theorem B9g {N:Nat} {K:LA→Option R}:K6 N K=K exU.av:=by rw[Acy];rfl
def s21:List AV:=[.int .i64 2,.int .i64 1]
def s01:List AV:=[.int .i64 0,.int .i64 1]
def B8b:List AV:=[.int .i64 2,.int .i64 2,.int .i64 0]
theorem B9h {n:Nat} {o:Bool} {K:LA→Option R}:Atc (n+64) exU.av o K=K []:=by rw[Ba9];kernel_rfl
theorem A3y {n:Nat} {o:Bool} {K:Bool→Option R}:Ma (n+64) exU.av o K=K true:=by
 rw[Axf (by omega)];rfl
theorem Btq {n:Nat} {o:Bool} {K:Int→Int→Option R}:Adr (n+64) exU.av o K=K 1 1:=by
 rw[Bbb];unfold Bjf
 rw[Adu,ct,Rd,A3y];kernel_rfl
theorem B9i {n:Nat} {o:Bool} {K:LA→Option R}:Tq (n+64) exU.av o K=K s21:=by
 rw[Aqi];unfold Aqh
 simp only[Adu,ct,Rd,A3y,Btq];kernel_rfl
theorem Ca0 {n:Nat} {o o':Bool} {K:Int→Option R}:Pw (n+64) exU.av o s21 o' K=K 1:=by
 rw[Al4];unfold Yp Ra Ws
 simp only[Adu,ct,Rd,A3y,Btq];kernel_rfl
theorem Btr {n:Nat} {o:Bool} {K:LA→Nat→Option R}:Yq (n+64) exU.av o s21 false K=K (s01++s21) 2:=by
 rw[Bbd];unfold A3l
 rw[show List.take 2 s21=s21 from rfl]
 simp only[Adu,ct,Rd,Ca0,Btq];kernel_rfl
theorem B8c {N:Nat} {k h v:Int} {o:Bool} {K:Bool→Option R}:Jw N [.int .i64 k,.int .i64 h] o v K=K (k==v):=by
 rw[Aqq];rfl
theorem B3m {n:Nat} {a:Bool} {K:Int→Option R}:Ap (n+64) (s01++s21) 2 a false 2 K=K 1:=by
 rw[Bu]
 change Jw _ s01 _ _ _=_
 rw[s01,B8c]
 change Jw _ s21 _ _ _=_
 rw[s21,B8c];rfl
theorem B9j {n:Nat} {a:Bool} {K:Int→Option R}:Ap (n+64) (s01++s21) 2 a false 0 K=K 0:=by
 rw[Bu]
 change Jw _ s01 _ _ _=_
 rw[s01,B8c];rfl
theorem B9k {n:Nat} {o a b:Bool} {K:Nat→Int→Int→LA→Option R}:Atd (n+64) exU.av o B8b 3 a b K=K 3 3 0 (s21++s21++s01):=by
 rw[Bbh];unfold A3m
 simp only[Adu,ct,Rd,A3y,B9h,B9i]
 change Yq _ exU.av _ s21 _ _=_
 rw[Btr]
 change Ap _ (s01++s21) 2 _ _ _ _=_
 rw[B3m]
 change Yq _ exU.av _ s21 _ _=_
 rw[Btr]
 change Ap _ (s01++s21) 2 _ _ _ _=_
 rw[B3m]
 change Yq _ exU.av _ s21 _ _=_
 rw[Btr]
 change Ap _ (s01++s21) 2 _ _ _ _=_
 rw[B9j]
 kernel_rfl
theorem Ca1 {n:Nat} {o a b:Bool} {K:Nat→LA→Option R}:Tr (n+64) exU.av o 3 B8b 3 a b K=K 3 [.int .i64 10,.int .i64 17,.int .i64 10,.int .i64 22,.int .i64 0,.int .i64 0]:=by
 rw[Aqu];kernel_rfl
theorem Ca2 {n:Nat} {o a b:Bool} {K:LA→Option R}:Px (n+64) exU.av o 3 B8b 3 a b [.int .i64 10,.int .i64 17,.int .i64 10,.int .i64 22,.int .i64 0,.int .i64 0] K=K [.int .i64 10,.int .i64 17,.int .i64 10,.int .i64 15,.int .i64 0,.int .i64 0]:=by
 rw[Al7];kernel_rfl
theorem Ca3 {n:Nat} {o a b:Bool} {K:Nat→Int→LA→Option R}:Py (n+64) exU.av o 3 B8b 3 a b K=K 3 0 [.int .i64 10,.int .i64 17,.int .i64 10,.int .i64 15,.int .i64 0,.int .i64 0]:=by
 rw[Ama];unfold Yr
 rw[Adu,ct,Rd,Ae6 (by omega) (by decide) (by simp[exU,Sl.l]),show Fq exU 3=true from rfl]
 rw[B9k]
 unfold Rc Wt
 rw[Adu,ct,Rd,Ca1,Ca2]
 kernel_rfl
theorem Bkt (q:Rat):Rf q q=0:=by
 unfold Rf
 rw[if_neg (Rat.lt_irrefl),if_neg (Rat.lt_irrefl)]
theorem B1s {N:Nat} {K:Bool→Option R} (hf:fit 100000 N):Pz N K=K true:=by
 have hN:4000≤N:=by have:=hf.1;omega
 obtain⟨n,rfl⟩:∃ n,N=n+64:=⟨N - 64,by omega⟩
 rw[Amc];unfold Aj0
 rw[B9g,show((Nat.beq 0 0)&&((Nat.beq (List.length exU.av) 22)&&(Nat.beq 22 22)))=true from rfl,ct,Adu,ct,Rd,Bq0 (by omega) hN]
 refine Rg (m:=2) (qiI (by omega)) (by decide) (hf.le (by omega)) hN fun d hd=>?_
 rw[show scE exU ((35:Int):Rat)=0 by kernel_rfl]
 rw[show scQ exU ((35:Int):Rat)=((85:Int):Rat) by kernel_rfl] at hd
 rw[c3,ct,ct,Bq0 (by omega) hN]
 refine Bbp (m:=2) (qiI (by omega)) (by decide) (hf.le (by omega)) hN fun y z hy hz=>?_
 rw[show mgL exU ((30:Int):Rat)=(true,((3:Int):Rat)) by kernel_rfl] at hy ⊢
 rw[show mgH exU ((30:Int):Rat)=(true,((5:Int):Rat)) by kernel_rfl] at hz ⊢
 rw[c3,ct,c3,ct,ct]
 rw[show [(AV.int .i64 2),(.int .i64 2),(.int .i64 0)]=B8b from rfl,Ca3,b3,ct,tk3,Bq0 (by omega) hN,B1q hd (qiI (by omega)) (hf.le (by omega)),Bkt]
 rw[b3,tk3,Bq0 (by omega) hN,B1q hy (qiI (by omega)) (hf.le (by omega)),Bkt]
 rw[b3,tk3,Bq0 (by omega) hN,B1q hz (qiI (by omega)) (hf.le (by omega)),Bkt]
 rfl
end
end Gx

namespace Gx.Cf
open Go Go.Proofs
inductive Sl (α:Type) where
 | nil
 | of (l:List α) (t o:Bool)
def Sl.l {α:Type}:Sl α→List α
 | .nil=>[]
 | .of l _ _=>l
def Sl.av {α:Type} (sz:Nat) (e:α→List AV):Sl α→AV
 | .nil=>.nsl
 | .of l t o=>.imm (l.flatMap e) l.length sz t o
def Ab2 (n:Int):List AV:=[.int .i64 n]
def Az (l:List Int):List AV:=l.map fun n=>.int .i64 n
theorem F9:∀ l:List Int,l.flatMap Ab2=Az l
 | []=>rfl
 | a::r=>by rw[List.flatMap_cons,F9 r];rfl
theorem Hx (l:List Int):(Az l).length=l.length:=by simp[Az]
theorem Bbq (l m:List Int):Az l++Az m=Az (l++m):=by simp[Az]
structure FracD where
 num:Int
 den:Int
structure BusD where
 name:List UInt8
 demand:Sl Int
 shed:Int
structure LineD where
 name:List UInt8
 fr:Int
 to:Int
 re:FracD
 smin:FracD
 smax:FracD
 limit:Int
 emer:Int
 away:Sl Int
structure SegD where
 width:Int
 price:Int
structure UnitD where
 name:List UInt8
 bus:Int
 min:Int
 max:Int
 segs:Sl SegD
 noLoad:Int
 rampUp:Int
 rampDown:Int
 startRamp:Int
 stopRamp:Int
 upTime:Int
 downTime:Int
 startTime:Int
 hotCost:Int
 coldCost:Int
 hotHours:Int
 reserve:Int
 reservePrice:Int
 away:Sl Int
 state:Int
 hours:Int
 output:Int
structure StoreD where
 name:List UInt8
 bus:Int
 capacity:Int
 initial:Int
 final:Int
 charge:Int
 discharge:Int
 eff:FracD
structure TieD where
 name:List UInt8
 bus:Int
 imp:Sl Int
 exp:Sl Int
 price:Sl Int
structure MoveD where
 unit:Int
 up:Int
 down:Int
structure OutD where
 name:List UInt8
 lines:Sl Int
 corr:Bool
 moves:Sl MoveD
structure CaseD where
 hours:Int
 reserve:Sl Int
 buses:Sl BusD
 lines:Sl LineD
 units:Sl UnitD
 stores:Sl StoreD
 ties:Sl TieD
 outs:Sl OutD
def BusD.av (b:BusD):List AV:=[.str b.name,b.demand.av 1 Ab2,.int .i64 b.shed]
def LineD.av (b:LineD):List AV:=[.str b.name,.int .i64 b.fr,.int .i64 b.to,.int .i64 b.re.num,.int .i64 b.re.den,.int .i64 b.smin.num,.int .i64 b.smin.den,.int .i64 b.smax.num,.int .i64 b.smax.den,.int .i64 b.limit,.int .i64 b.emer,b.away.av 1 Ab2]
def SegD.av (s:SegD):List AV:=[.int .i64 s.width,.int .i64 s.price]
def UnitD.av (u:UnitD):List AV:=[.str u.name,.int .i64 u.bus,.int .i64 u.min,.int .i64 u.max,u.segs.av 2 SegD.av,.int .i64 u.noLoad,.int .i64 u.rampUp,.int .i64 u.rampDown,.int .i64 u.startRamp,.int .i64 u.stopRamp,.int .i64 u.upTime,.int .i64 u.downTime,.int .i64 u.startTime,.int .i64 u.hotCost,.int .i64 u.coldCost,.int .i64 u.hotHours,.int .i64 u.reserve,.int .i64 u.reservePrice,u.away.av 1 Ab2,.int .i64 u.state,.int .i64 u.hours,.int .i64 u.output]
def StoreD.av (s:StoreD):List AV:=[.str s.name,.int .i64 s.bus,.int .i64 s.capacity,.int .i64 s.initial,.int .i64 s.final,.int .i64 s.charge,.int .i64 s.discharge,.int .i64 s.eff.num,.int .i64 s.eff.den]
def TieD.av (t:TieD):List AV:=[.str t.name,.int .i64 t.bus,t.imp.av 1 Ab2,t.exp.av 1 Ab2,t.price.av 1 Ab2]
def MoveD.av (m:MoveD):List AV:=[.int .i64 m.unit,.int .i64 m.up,.int .i64 m.down]
def OutD.av (o:OutD):List AV:=[.str o.name,o.lines.av 1 Ab2,.bool o.corr,o.moves.av 3 MoveD.av]
def CaseD.av (c:CaseD):List AV:=[.int .i64 c.hours,c.reserve.av 1 Ab2,c.buses.av 3 BusD.av,c.lines.av 12 LineD.av,c.units.av 22 UnitD.av,c.stores.av 9 StoreD.av,c.ties.av 5 TieD.av,c.outs.av 4 OutD.av]
section
variable {R:Type}
theorem I7 {α:Type} {sz:Nat} {e:α→List AV} {s:Sl α} {r:List AV} {f:List AV→Nat→Option R}:rdL sz (s.av sz e::r) f=f (s.l.flatMap e) s.l.length:=by
 cases s<;>simp[rdL,Sl.av,Sl.l,B30]
theorem Abd {s:List UInt8} {r:List AV} {f:List UInt8→Option R}:rdS (.str s::r) f=f s:=by simp[rdS,A7u]
theorem B8d {b:Bool} {r:List AV} {f:Bool→Option R}:rdB (.bool b::r) f=f b:=by simp[rdB,asBool]
theorem Ef (a b:Nat):Nat.ble a b=decide (a≤b):=by
  cases h:Nat.ble a b with
  | true=>simp at h;simp[h]
  | false => have : ¬ a ≤ b := fun h2 => by rw [Nat.ble_eq_true_of_le h2] at h; cases h
             simp[this]
theorem Bts (a b:Nat):Nat.beq a b=decide (a=b):=by
  cases h:Nat.beq a b with
  | true=>have:=Nat.eq_of_beq_eq_true h;simp[this]
  | false => have : a ≠ b := fun e => by subst e; rw [Nat.beq_refl] at h; cases h
             simp[this]
theorem ct (x y:Option R):cond true x y=x:=rfl
theorem cf (x y:Option R):cond false x y=y:=rfl
theorem Bn {α:Type} {e:α→List AV} {sz:Nat} (he:∀ a,(e a).length=sz):∀ (l:List α) (j:Nat) (h:j<l.length),List.drop (j*sz) (l.flatMap e)=e l[j]++(l.drop (j+1)).flatMap e
 | a::r,0,_=>by simp
 | a::r,j+1,h=>by
  have:=Bn he r j (by simpa using h)
  rw[List.flatMap_cons,List.drop_append,he,show(j+1)*sz - sz=j*sz by rw[Nat.add_mul];omega,List.drop_eq_nil_of_le (by rw[he,Nat.add_mul];omega)]
  simpa using this
theorem Aq9 {l:List Int} {i:Nat} (h:i<l.length) {f:Int→Option R}:rdI .i64 (List.drop i (Az l)) f=f l[i]:=by
 rw[Az,List.drop_eq_getElem_cons (by simpa using h)];simp[Ax]
abbrev Err:=Option ((Int×Int×Int)×{ e:Int // e≠0 })
def nd (p:Err) (ok:Bool) (w:Int×Int×Int) (e:{ e:Int // e≠0 }):Err:=match p with
 | some x=>some x
 | none=>cond ok none (some (w,e))
theorem Aj9 (p:Err) (w:Int×Int×Int) (e:{ e:Int // e≠0 }):nd p true w e=p:=by cases p<;>rfl
theorem B9l (x:(Int×Int×Int)×{ e:Int // e≠0 }) (ok:Bool) (w:Int×Int×Int) (e:{ e:Int // e≠0 }):nd (some x) ok w e=some x:=rfl
theorem Bya (p:Err) (a b:Bool) (w:Int×Int×Int) (e:{ e:Int // e≠0 }):nd (nd p a w e) b w e=nd p (a&&b) w e:=by cases p<;>cases a<;>cases b<;>rfl
def B8e (p:Err) (k i:Int):List AV:=match p with
 | none=>[.int .i64 k,.int .i64 i,.int .i64 0,.int .i64 0]
 | some ((a,b,f),e)=>[.int .i64 a,.int .i64 b,.int .i64 f,.int .i64 e.1]
def btw (lo hi n:Int):Bool:=decide (lo≤n)&&decide (n≤hi)
end
end Gx.Cf

namespace Gx
open Go Go.Proofs
open IntKind (wrap)
set_option maxRecDepth 100000
noncomputable section
variable {R:Type} (N:Nat)
def Btt (N:Nat) (r0:O R) (a:LA) (b:Nat) (c d:Bool):O R :=
 r0
def Bku:=(Ak (fun (N:Nat) (a:LA) (b:Nat) (c d:Bool) (r0:O R)=>(Btt N r0 a b c d))).1
theorem Bkv (a b c d r0):(@Bku R N a b c d r0)=(Btt N r0 a b c d):=by rw[Bku,(Ak _).2]
def B6h:Hints:={ H:=hL }
def Bq1 (a:LA) (b:Nat) (c d:Bool) (F:KF R):O R:=F (.optr 300000 0) [(300000,⟨false,false,false,false,0,[(.imm a b 1 c d),(.int .i64 0)],false⟩)]
theorem Bq2 (a:LA) (b:Nat) (c d:Bool) (F:KF R):exM [] B6h N 105 [(.imm a b 1 c d)] [] F=(Bku N a b c d (Bq1 a b c d F)):=by
 rw[Bkv]
 kernel_rfl
def Bkw (args:List AV) (h:Al) (k:KF R):O R :=
 match args,h with
 | [(.imm a b 1 c d)],[]=>(Bku N a b c d (Bq1 a b c d k))
 | _,_=>none
theorem Bq3:Aq N 105 @Bkw:=by
 intro R Q args h k j;unfold Bkw;split
 exact A0 (Bq2 ..) (Bq2 ..) trivial
 exact A2
def Bq4:=A1 (Bq3 N)
theorem B6i:Ay Tryz.prog 105 (Bq4 N):=A3 (Bq3 N) follows
def Btu (N:Nat) (r0:Int→O R) (b a:Int):O R :=
 (cond ((wrap .u64 a)==0) none (r0 (wrap .i64 (Int.tmod (wrap .u64 b) (wrap .u64 a)))))
def Bkx:=(Ak (fun (N:Nat) (b a:Int) (r0:Int→O R)=>(Btu N r0 b a))).1
theorem Bky (b a r0):(@Bkx R N b a r0)=(Btu N r0 b a):=by rw[Bkx,(Ak _).2]
def B6j:Hints:={ H:=hL }
def Bq5 (F:KF R):Int→O R:=(fun c=>F (.int .i64 c) [])
theorem Bq6 (b a:Int) (F:KF R):exM [] B6j N 150 [(.int .i64 b),(.int .i64 a)] [] F=(Bkx N b a (Bq5 F)):=by
 rw[Bky]
 kernel_rfl
def Bkz (args:List AV) (h:Al) (k:KF R):O R :=
 match args,h with
 | [(.int .i64 b),(.int .i64 a)],[]=>(Bkx N b a (Bq5 k))
 | _,_=>none
theorem Bq7:Aq N 150 @Bkz:=by
 intro R Q args h k j;unfold Bkz;split
 exact A0 (Bq6 ..) (Bq6 ..) trivial
 exact A2
def Bq8:=A1 (Bq7 N)
theorem B6k:Ay Tryz.prog 150 (Bq8 N):=A3 (Bq7 N) follows
def Uo (r0:Int→Int→O R) (f:Int) (b:LA) (a:Nat) (d e:Bool) (c:Int):O R :=
 (cond (decide (c≥((a:Nat):Int))) (r0 0 c) (cond (Aj (wrap .i64 ((wrap .i64 (c+1)) - 1)) a) (rdI .i64 (b.drop (((wrap .i64 ((wrap .i64 (c+1)) - 1)).toNat)*1)) fun g=>(Bkx N g f (fun i=>(r0 i (wrap .i64 (c+1)))))) none))
def Ae:=(Ak (fun (N:Nat) (f:Int) (b:LA) (a:Nat) (d e:Bool) (c:Int) (r0:Int→Int→O R)=>(Uo N r0 f b a d e c))).1
theorem Ts (f b a d e c r0):(@Ae R N f b a d e c r0)=(Uo N r0 f b a d e c):=by rw[Ae,(Ak _).2]
def Bdd:Hints:={ H:=hL }
def Bk0:Tbl:=[(150,Bq8 N)]
def Amf (b:LA) (a:Nat) (d e:Bool) (F:KF R):Int→Int→O R:=(fun l m=>F (.int .i64 l) [(100000,⟨false,false,false,false,0,[(.imm b a 1 d e),(.int .i64 m)],false⟩)])
theorem Amg (f:Int) (b:LA) (a:Nat) (d e:Bool) (c:Int) (F:KF R):exM (Bk0 N) Bdd N 106 [(.optr 100000 0),(.int .i64 f)] [(100000,⟨false,false,false,false,0,[(.imm b a 1 d e),(.int .i64 c)],false⟩)] F=(Ae N f b a d e c (Amf b a d e F)):=by
 rw[Ts]
 kernel_rfl
def Ag9 (args:List AV) (h:Al) (k:KF R):O R :=
 match args,h with
 | [(.optr 100000 0),(.int .i64 f)],[(100000,⟨false,false,false,false,0,[(.imm b a 1 d e),(.int .i64 c)],false⟩)]=>(Ae N f b a d e c (Amf b a d e k))
 | _,_=>none
theorem Amh:Aq N 106 @Ag9:=by
 intro R Q args h k j;unfold Ag9;split
 exact A0 (Amg ..) (Amg ..) ⟨B6k N,trivial⟩
 exact A2
def Fr:=A1 (Amh N)
theorem Hm:Ay Tryz.prog 106 (Fr N):=A3 (Amh N) follows
def Lr (r0:Nat→Int→LA→O R) (e f:Int) (a:LA) (b:Nat) (c d:Bool) (k0:Nat→Int→Int→LA→O R) (g:Nat) (i l:Int) (m:LA):O R :=
 (cond (decide (i<e)) (Ae N f a b c d l (fun p q=>(cond ((Nat.ble (g+1) 140737488355328)&&(Nat.ble ((g+1)*8) 140737488355328)) (k0 (g+1) (wrap .i64 (i+1)) q ((m.take (g*1))++[(.int .i64 p)])) none))) (r0 g l m))
def Et (r0:Nat→Int→LA→O R) (e f:Int) (a:LA) (b:Nat) (c d:Bool):Nat→Nat→Int→Int→LA→O R
 | 0,_,_,_,_=>none
 | n+1,g,i,l,m=>(Lr N r0 e f a b c d (Et r0 e f a b c d n) g i l m)
def Rh (N:Nat) (r0:Nat→Int→LA→O R) (q0:Nat→Int→Int→LA→O R) (e f:Int) (a:LA) (b:Nat) (c d:Bool) (o:Int):O R :=
 (q0 0 0 o [])
def D1:=(Ak (fun (N:Nat) (e f:Int) (a:LA) (b:Nat) (c d:Bool) (o:Int) (r0:Nat→Int→LA→O R)=>(Rh N r0 (fun g i l m=>(Et N r0 e f a b c d N g i l m)) e f a b c d o))).1
theorem Adz (e f a b c d o r0):(@D1 R N e f a b c d o r0)=(Rh N r0 (fun g i l m=>(Et N r0 e f a b c d N g i l m)) e f a b c d o):=by rw[D1,(Ak _).2]
def Aha:Hints:={ H:=(hS hL (hS hL (hS (hS hL (hS (hP [0,1,2,7,8] hL) hL)) hL))),nils:=[(6,1),(7,1)],modes:=[(2,1)] }
def Ami:Tbl:=[(106,Fr N)]
def A65 (F:KF R):=atM Tryz.f107 Aha (Ami N) [100000] N F
def Ja (a:LA) (b:Nat) (c d:Bool) (F:KF R):Nat→Int→LA→O R:=(fun r s t=>F (.own 300000 0 r) [(100000,⟨false,false,false,false,0,[(.imm a b 1 c d),(.int .i64 s)],false⟩),(300000,(bQ 1 t))])
def A66 (e f:Int) (a:LA) (b:Nat) (c d:Bool) (g:Nat) (i l:Int) (m:LA):St:=⟨[(0,(.optr 100000 0)),(1,(.int .i64 e)),(2,(.int .i64 f)),(7,(.own 300000 0 g)),(8,(.int .i64 i))],[(100000,⟨false,false,false,false,0,[(.imm a b 1 c d),(.int .i64 l)],false⟩),(300000,(bQ 1 m))]⟩
def A67 (F:KF R):=A65 N F [1,1,0,1,0] []
theorem Xj (F:KF R) (e f:Int) (a:LA) (b:Nat) (c d:Bool):∀ (n g:Nat) (i l:Int) (m:LA),As (A67 N F) n (A66 e f a b c d g i l m)=(Et N (Ja a b c d F) e f a b c d n g i l m)
 | 0,_,_,_,_=>by kernel_rfl
 | n+1,g,i,l,m=>Eq.trans (by kernel_rfl) (cgA (Lr N (Ja a b c d F) e f a b c d · g i l m) (funext fun g=>funext fun i=>funext fun l=>funext fun m=>(Xj F e f a b c d n g i l m)):_)
theorem Ahb (e f:Int) (a:LA) (b:Nat) (c d:Bool) (o:Int) (F:KF R):exM (Ami N) Aha N 107 [(.optr 100000 0),(.int .i64 e),(.int .i64 f)] [(100000,⟨false,false,false,false,0,[(.imm a b 1 c d),(.int .i64 o)],false⟩)] F=(D1 N e f a b c d o (Ja a b c d F)):=by
 rw[Adz]
 exact Eq.trans (by kernel_rfl) (cgA (Rh N (Ja a b c d F) · e f a b c d o) (funext fun g=>funext fun i=>funext fun l=>funext fun m=>(Am ..).trans (Xj N F e f a b c d N g i l m)):_)
def Ad0 (args:List AV) (h:Al) (k:KF R):O R :=
 match args,h with
 | [(.optr 100000 0),(.int .i64 e),(.int .i64 f)],[(100000,⟨false,false,false,false,0,[(.imm a b 1 c d),(.int .i64 o)],false⟩)]=>(D1 N e f a b c d o (Ja a b c d k))
 | _,_=>none
theorem Ahc:Aq N 107 @Ad0:=by
 intro R Q args h k j;unfold Ad0;split
 exact A0 (Ahb ..) (Ahb ..) ⟨Hm N,trivial⟩
 exact A2
def Ahd:=A1 (Ahc N)
theorem A68:Ay Tryz.prog 107 (Ahd N):=A3 (Ahc N) follows
def Bk1 (N:Nat) (r0:List UInt8→O R) (b:List UInt8) (a:Int):O R :=
 (cond ((decide (0≤(Int.tmod a 16)))&&((decide ((Int.tmod a 16)≤(wrap .i64 ((Int.tmod a 16)+1))))&&((decide ((wrap .i64 ((Int.tmod a 16)+1))≤16))&&(decide ((16:Int)≤(16:Int)))))) (cond (Nat.ble ((b.length)+(List.length (List.take (((wrap .i64 ((Int.tmod a 16)+1)).toNat) - ((Int.tmod a 16).toNat)) (List.drop ((Int.tmod a 16).toNat) ([48,49,50,51,52,53,54,55,56,57,97,98,99,100,101,102]:List UInt8))))) 140737488355328) (r0 (b++(List.take (((wrap .i64 ((Int.tmod a 16)+1)).toNat) - ((Int.tmod a 16).toNat)) (List.drop ((Int.tmod a 16).toNat) ([48,49,50,51,52,53,54,55,56,57,97,98,99,100,101,102]:List UInt8))))) none) none)
def Yw:=(Ak (fun (N:Nat) (b:List UInt8) (a:Int) (r0:List UInt8→O R)=>(Bk1 N r0 b a))).1
theorem Bbr (b a r0):(@Yw R N b a r0)=(Bk1 N r0 b a):=by rw[Yw,(Ak _).2]
def B1t:Hints:={ H:=hL }
def Bk2 (F:KF R):List UInt8→O R:=(fun c=>F (.str c) [])
theorem Bk3 (b:List UInt8) (a:Int) (F:KF R):exM [] B1t N 108 [(.str b),(.int .i64 a)] [] F=(Yw N b a (Bk2 F)):=by
 rw[Bbr]
 kernel_rfl
def Bbs (args:List AV) (h:Al) (k:KF R):O R :=
 match args,h with
 | [(.str b),(.int .i64 a)],[]=>(Yw N b a (Bk2 k))
 | _,_=>none
theorem Bk4:Aq N 108 @Bbs:=by
 intro R Q args h k j;unfold Bbs;split
 exact A0 (Bk3 ..) (Bk3 ..) trivial
 exact A2
def Abe:=A1 (Bk4 N)
theorem Aka:Ay Tryz.prog 108 (Abe N):=A3 (Bk4 N) follows
def Up (r0:Nat→Int→LA→O R) (e:Int) (a:LA) (b:Nat) (c d:Bool) (f:Int):O R :=
 (Ae N 6 a b c d f (fun i g=>(cond (i==5) (Ae N e a b c d g (fun l m=>(r0 1 m [(.int .i64 l)]))) (r0 0 g []))))
def Hz:=(Ak (fun (N:Nat) (e:Int) (a:LA) (b:Nat) (c d:Bool) (f:Int) (r0:Nat→Int→LA→O R)=>(Up N r0 e a b c d f))).1
theorem Tt (e a b c d f r0):(@Hz R N e a b c d f r0)=(Up N r0 e a b c d f):=by rw[Hz,(Ak _).2]
def Bde:Hints:={ H:=hL,nils:=[(4,1)],modes:=[(2,1)] }
def Bk5:Tbl:=[(106,Fr N)]
def Amj (a:LA) (b:Nat) (c d:Bool) (F:KF R):Nat→Int→LA→O R:=(fun n o p=>F (.own 300000 0 n) [(100000,⟨false,false,false,false,0,[(.imm a b 1 c d),(.int .i64 o)],false⟩),(300000,(bQ 1 p))])
theorem Amk (e:Int) (a:LA) (b:Nat) (c d:Bool) (f:Int) (F:KF R):exM (Bk5 N) Bde N 151 [(.optr 100000 0),(.int .i64 e)] [(100000,⟨false,false,false,false,0,[(.imm a b 1 c d),(.int .i64 f)],false⟩)] F=(Hz N e a b c d f (Amj a b c d F)):=by
 rw[Tt]
 kernel_rfl
def Ahe (args:List AV) (h:Al) (k:KF R):O R :=
 match args,h with
 | [(.optr 100000 0),(.int .i64 e)],[(100000,⟨false,false,false,false,0,[(.imm a b 1 c d),(.int .i64 f)],false⟩)]=>(Hz N e a b c d f (Amj a b c d k))
 | _,_=>none
theorem Aml:Aq N 151 @Ahe:=by
 intro R Q args h k j;unfold Ahe;split
 exact A0 (Amk ..) (Amk ..) ⟨Hm N,trivial⟩
 exact A2
def Wv:=A1 (Aml N)
theorem Amm:Ay Tryz.prog 151 (Wv N):=A3 (Aml N) follows
end
end Gx

namespace Gx
open Go Go.Proofs
open IntKind (wrap)
set_option maxRecDepth 100000
noncomputable section
variable {R:Type} (N:Nat)
def Uq (r0:LA→Int→O R) (i e f g:Int) (a:LA) (b:Nat) (c d:Bool) (l:Int):O R :=
 (Yw N ([108]:List UInt8) i (fun n=>(Ae N 4 a b c d l (fun o u=>(Ae N 2 a b c d u (fun p v=>(Ae N 40 a b c d v (fun m w=>(Ae N 20 a b c d w (fun q x=>(Ae N 5 a b c d x (fun y r=>(cond (y==4) (Ae N 4 a b c d r (fun z aa=>(Ae N 2 a b c d aa (fun ab ac=>(Ae N 4 a b c d ac (fun ad ae=>(Hz N g a b c d ae (fun s af ag=>(r0 [(.str n),(.int .i64 e),(.int .i64 f),(.int .i64 (wrap .i64 (1+o))),(.int .i64 (wrap .i64 (1+p))),(.int .i64 (wrap .i64 ((0:Int) - z))),(.int .i64 (wrap .i64 (1+ab))),(.int .i64 ad),(.int .i64 1),(.int .i64 (wrap .i64 (4+m))),(.int .i64 (wrap .i64 ((wrap .i64 (4+m))+q))),(.imm (ag.take (s*1)) s 1 false false)] af))))))))) (Hz N g a b c d r (fun t ah ai=>(r0 [(.str n),(.int .i64 e),(.int .i64 f),(.int .i64 (wrap .i64 (1+o))),(.int .i64 (wrap .i64 (1+p))),(.int .i64 0),(.int .i64 1),(.int .i64 0),(.int .i64 1),(.int .i64 (wrap .i64 (4+m))),(.int .i64 (wrap .i64 ((wrap .i64 (4+m))+q))),(.imm (ai.take (t*1)) t 1 false false)] ah))))))))))))))))
def Jz:=(Ak (fun (N:Nat) (i e f g:Int) (a:LA) (b:Nat) (c d:Bool) (l:Int) (r0:LA→Int→O R)=>(Uq N r0 i e f g a b c d l))).1
theorem Tu (i e f g a b c d l r0):(@Jz R N i e f g a b c d l r0)=(Uq N r0 i e f g a b c d l):=by rw[Jz,(Ak _).2]
def Bdf:Hints:={ H:=hL,modes:=[(3,0)],cob:=[28] }
def Bk6:Tbl:=[(108,Abe N),(106,Fr N),(151,Wv N)]
def Amn (a:LA) (b:Nat) (c d:Bool) (F:KF R):LA→Int→O R:=(fun aj ak=>F (.pagg aj false) [(100000,⟨false,false,false,false,0,[(.imm a b 1 c d),(.int .i64 ak)],false⟩)])
theorem Amo (i e f g:Int) (a:LA) (b:Nat) (c d:Bool) (l:Int) (F:KF R):exM (Bk6 N) Bdf N 109 [(.optr 100000 0),(.int .i64 i),(.int .i64 e),(.int .i64 f),(.int .i64 g)] [(100000,⟨false,false,false,false,0,[(.imm a b 1 c d),(.int .i64 l)],false⟩)] F=(Jz N i e f g a b c d l (Amn a b c d F)):=by
 rw[Tu]
 kernel_rfl
def Ahf (args:List AV) (h:Al) (k:KF R):O R :=
 match args,h with
 | [(.optr 100000 0),(.int .i64 i),(.int .i64 e),(.int .i64 f),(.int .i64 g)],[(100000,⟨false,false,false,false,0,[(.imm a b 1 c d),(.int .i64 l)],false⟩)]=>(Jz N i e f g a b c d l (Amn a b c d k))
 | _,_=>none
theorem Amp:Aq N 109 @Ahf:=by
 intro R Q args h k j;unfold Ahf;split
 exact A0 (Amo ..) (Amo ..) ⟨Aka N,Hm N,Amm N,trivial⟩
 exact A2
def Amq:=A1 (Amp N)
theorem Bdg:Ay Tryz.prog 109 (Amq N):=A3 (Amp N) follows
def Kx (r0:LA→Int→O R) (a:LA) (b:Nat) (c d:Bool) (x:Int) (i:List UInt8) (l e g:Int) (f:Nat) (m y z aa ab w t ac ad ae:Int) (u:Nat) (v:Int) (o af:LA) (ag ah ai aj:Int):O R :=
 (cond (v==2) (Ae N (wrap .i64 ((wrap .i64 (g - e))+1)) a b c d x (fun au av=>(r0 [(.str i),(.int .i64 l),(.int .i64 e),(.int .i64 g),(.imm (o.take (f*2)) f 2 false false),(.int .i64 m),(.int .i64 y),(.int .i64 z),(.int .i64 ag),(.int .i64 ah),(.int .i64 aa),(.int .i64 ab),(.int .i64 w),(.int .i64 t),(.int .i64 ai),(.int .i64 ac),(.int .i64 ad),(.int .i64 ae),(.imm (af.take (u*1)) u 1 false false),(.int .i64 v),(.int .i64 aj),(.int .i64 (wrap .i64 (e+au)))] av))) (r0 [(.str i),(.int .i64 l),(.int .i64 e),(.int .i64 g),(.imm (o.take (f*2)) f 2 false false),(.int .i64 m),(.int .i64 y),(.int .i64 z),(.int .i64 ag),(.int .i64 ah),(.int .i64 aa),(.int .i64 ab),(.int .i64 w),(.int .i64 t),(.int .i64 ai),(.int .i64 ac),(.int .i64 ad),(.int .i64 ae),(.imm (af.take (u*1)) u 1 false false),(.int .i64 v),(.int .i64 aj),(.int .i64 0)] x))
def Np (r0:LA→Int→O R) (p:Int) (a:LA) (b:Nat) (c d:Bool) (i:List UInt8) (l e m:Int) (k0:Int→Int→Int→Int→Nat→LA→O R) (q1:Int→Int→Int→Int→Int→Int→Int→Int→Int→Int→Nat→Int→LA→Int→Int→Int→Int→O R) (q r s g:Int) (f:Nat) (o:LA):O R :=
 (cond (decide (r>0)) (Ae N 15 a b c d s (fun an aw=>(cond ((Nat.ble (f+1) 140737488355328)&&(Nat.ble ((f+1)*16) 140737488355328)) (Ae N 10 a b c d aw (fun ax ay=>(k0 (wrap .i64 (q+ax)) (wrap .i64 (r - 1)) ay (wrap .i64 (g+(wrap .i64 (1+an)))) (f+1) ((o.take (f*2))++[(.int .i64 (wrap .i64 (1+an))),(.int .i64 q)])))) none))) (Ae N 20 a b c d s (fun y az=>(Ae N 20 a b c d az (fun z ba=>(Ae N (wrap .i64 ((wrap .i64 (g - e))+1)) a b c d ba (fun ao bb=>(Ae N (wrap .i64 ((wrap .i64 (g - e))+1)) a b c d bb (fun ap bc=>(Ae N 3 a b c d bc (fun aa bd=>(Ae N 3 a b c d bd (fun ab be=>(Ae N 2 a b c d be (fun w bf=>(Ae N 30 a b c d bf (fun t bg=>(Ae N 30 a b c d bg (fun aq bh=>(Ae N 4 a b c d bh (fun ac bi=>(Ae N 8 a b c d bi (fun ad bj=>(Ae N 4 a b c d bj (fun ae bk=>(Hz N p a b c d bk (fun u bl af=>(Ae N (wrap .i64 (2+w)) a b c d bl (fun ar bm=>(cond (Aj ar 3) (rdI .i64 (List.drop (0+((ar.toNat)*1)) [(.int .i64 0),(.int .i64 2),(.int .i64 1)]) fun v=>(Ae N 4 a b c d bm (fun bn x=>(cond (v==1) (q1 x y z aa ab w t ac ad ae u v af (wrap .i64 (e+ao)) (wrap .i64 (e+ap)) (wrap .i64 (t+aq)) 1) (q1 x y z aa ab w t ac ad ae u v af (wrap .i64 (e+ao)) (wrap .i64 (e+ap)) (wrap .i64 (t+aq)) (wrap .i64 (1+bn))))))) none))))))))))))))))))))))))))))))
def Ej (r0:LA→Int→O R) (p:Int) (a:LA) (b:Nat) (c d:Bool) (i:List UInt8) (l e m:Int):Nat→Int→Int→Int→Int→Nat→LA→O R
 | 0,_,_,_,_,_,_=>none
 | n+1,q,r,s,g,f,o=>(Np N r0 p a b c d i l e m (Ej r0 p a b c d i l e m n) (fun x y z aa ab w t ac ad ae u v af ag ah ai aj=>(Kx N r0 a b c d x i l e g f m y z aa ab w t ac ad ae u v o af ag ah ai aj)) q r s g f o)
def Ur (r0:LA→Int→O R) (q0:List UInt8→Int→Int→Int→Int→Int→Int→Int→Nat→LA→O R) (ak al p:Int) (a:LA) (b:Nat) (c d:Bool) (am:Int):O R :=
 (Yw N ([117]:List UInt8) ak (fun i=>(Ae N al a b c d am (fun l bo=>(Ae N 8 a b c d bo (fun e bp=>(Ae N 20 a b c d bp (fun m bq=>(Ae N 20 a b c d bq (fun br bs=>(Ae N 2 a b c d bs (fun bt bu=>(q0 i l e m (wrap .i64 (br - 2)) (wrap .i64 (1+bt)) bu e 0 [])))))))))))))
def Nq:=(Ak (fun (N:Nat) (ak al p:Int) (a:LA) (b:Nat) (c d:Bool) (am:Int) (r0:LA→Int→O R)=>(Ur N r0 (fun i l e m q r s g f o=>(Ej N r0 p a b c d i l e m N q r s g f o)) ak al p a b c d am))).1
theorem Ahg (ak al p a b c d am r0):(@Nq R N ak al p a b c d am r0)=(Ur N r0 (fun i l e m q r s g f o=>(Ej N r0 p a b c d i l e m N q r s g f o)) ak al p a b c d am):=by rw[Nq,(Ak _).2]
def Amr:Hints:={ H:=(hS hL (hS hL (hS hL (hS hL (hS (hS hL (hS (hP [0,3,8,9,10,11] hL) hL)) (hS hL (hS hL (hS hL (hS hL (hS hL (hS hL (hS hL (hS hL (hJ [0,8,9] hL hL)))))))))))))),modes:=[(3,0)],cob:=[22] }
def Ari:Tbl:=[(108,Abe N),(106,Fr N),(151,Wv N)]
def Ams (F:KF R):=atM Tryz.f110 Amr (Ari N) [100000] N F
def Hn (a:LA) (b:Nat) (c d:Bool) (F:KF R):LA→Int→O R:=(fun bv bw=>F (.pagg bv false) [(100000,⟨false,false,false,false,0,[(.imm a b 1 c d),(.int .i64 bw)],false⟩)])
def Bdh (a:LA) (b:Nat) (c d:Bool) (x:Int) (i:List UInt8) (l e g:Int) (f:Nat) (m y z aa ab w t ac ad ae:Int) (u:Nat) (v:Int) (o af:LA) (ag ah ai aj:Int):St:=⟨[(0,(.optr 100000 0)),(8,(.optr 300000 0)),(9,(.optr 300001 0))],[(100000,⟨false,false,false,false,0,[(.imm a b 1 c d),(.int .i64 x)],false⟩),(300000,⟨false,false,false,false,0,[(.str ([]:List UInt8)),(.int .i64 0),(.int .i64 0),(.int .i64 0),.nsl,(.int .i64 0),(.int .i64 0),(.int .i64 0),(.int .i64 0),(.int .i64 0),(.int .i64 0),(.int .i64 0),(.int .i64 0),(.int .i64 0),(.int .i64 0),(.int .i64 0),(.int .i64 0),(.int .i64 0),.nsl,(.int .i64 0),(.int .i64 0),(.int .i64 0)],false⟩),(300001,⟨false,false,false,false,0,[(.str i),(.int .i64 l),(.int .i64 e),(.int .i64 g),(.own 300002 0 f),(.int .i64 m),(.int .i64 y),(.int .i64 z),(.int .i64 ag),(.int .i64 ah),(.int .i64 aa),(.int .i64 ab),(.int .i64 w),(.int .i64 t),(.int .i64 ai),(.int .i64 ac),(.int .i64 ad),(.int .i64 ae),(.own 300003 0 u),(.int .i64 v),(.int .i64 aj),(.int .i64 0)],false⟩),(300002,(bQ 2 o)),(300003,(bQ 1 af))]⟩
def Bdi (F:KF R):=Ams N F [1,1,1,1,1,1,1,1,1,1,1,1,1,1] []
def Bdj (p:Int) (a:LA) (b:Nat) (c d:Bool) (i:List UInt8) (l e m q r s g:Int) (f:Nat) (o:LA):St:=⟨[(0,(.optr 100000 0)),(3,(.int .i64 p)),(8,(.optr 300000 0)),(9,(.optr 300001 0)),(10,(.int .i64 q)),(11,(.int .i64 r))],[(100000,⟨false,false,false,false,0,[(.imm a b 1 c d),(.int .i64 s)],false⟩),(300000,⟨false,false,false,false,0,[(.str ([]:List UInt8)),(.int .i64 0),(.int .i64 0),(.int .i64 0),.nsl,(.int .i64 0),(.int .i64 0),(.int .i64 0),(.int .i64 0),(.int .i64 0),(.int .i64 0),(.int .i64 0),(.int .i64 0),(.int .i64 0),(.int .i64 0),(.int .i64 0),(.int .i64 0),(.int .i64 0),.nsl,(.int .i64 0),(.int .i64 0),(.int .i64 0)],false⟩),(300001,⟨false,false,false,false,0,[(.str i),(.int .i64 l),(.int .i64 e),(.int .i64 g),(.own 300002 0 f),(.int .i64 m),(.int .i64 0),(.int .i64 0),(.int .i64 0),(.int .i64 0),(.int .i64 0),(.int .i64 0),(.int .i64 0),(.int .i64 0),(.int .i64 0),(.int .i64 0),(.int .i64 0),(.int .i64 0),(.own 300003 0 0),(.int .i64 0),(.int .i64 0),(.int .i64 0)],false⟩),(300002,(bQ 2 o)),(300003,(bQ 1 []))]⟩
def Bdk (F:KF R):=Ams N F [1,1,1,1,0,1,0] []
theorem Azv (F:KF R) (a:LA) (b:Nat) (c d:Bool) (x:Int) (i:List UInt8) (l e g:Int) (f:Nat) (m y z aa ab w t ac ad ae:Int) (u:Nat) (v:Int) (o af:LA):∀ (ag ah ai aj:Int),Bh (Bdi N F) (Bdh a b c d x i l e g f m y z aa ab w t ac ad ae u v o af ag ah ai aj)=(Kx N (Hn a b c d F) a b c d x i l e g f m y z aa ab w t ac ad ae u v o af ag ah ai aj):=by
 intro ag ah ai aj
 kernel_rfl
theorem Abf (F:KF R) (p:Int) (a:LA) (b:Nat) (c d:Bool) (i:List UInt8) (l e m:Int):∀ (n:Nat) (q r s g:Int) (f:Nat) (o:LA),As (Bdk N F) n (Bdj p a b c d i l e m q r s g f o)=(Ej N (Hn a b c d F) p a b c d i l e m n q r s g f o)
 | 0,_,_,_,_,_,_=>by kernel_rfl
 | n+1,q,r,s,g,f,o=>Eq.trans (by kernel_rfl) (cgB (Np N (Hn a b c d F) p a b c d i l e m · · q r s g f o) (funext fun q=>funext fun r=>funext fun s=>funext fun g=>funext fun f=>funext fun o=>(Abf F p a b c d i l e m n q r s g f o)) (funext fun x=>funext fun y=>funext fun z=>funext fun aa=>funext fun ab=>funext fun w=>funext fun t=>funext fun ac=>funext fun ad=>funext fun ae=>funext fun u=>funext fun v=>funext fun af=>funext fun ag=>funext fun ah=>funext fun ai=>funext fun aj=>(Au ..).trans (Azv N F a b c d x i l e g f m y z aa ab w t ac ad ae u v o af ag ah ai aj)):_)
theorem Amt (ak al p:Int) (a:LA) (b:Nat) (c d:Bool) (am:Int) (F:KF R):exM (Ari N) Amr N 110 [(.optr 100000 0),(.int .i64 ak),(.int .i64 al),(.int .i64 p)] [(100000,⟨false,false,false,false,0,[(.imm a b 1 c d),(.int .i64 am)],false⟩)] F=(Nq N ak al p a b c d am (Hn a b c d F)):=by
 rw[Ahg]
 exact Eq.trans (by kernel_rfl) (cgA (Ur N (Hn a b c d F) · ak al p a b c d am) (funext fun i=>funext fun l=>funext fun e=>funext fun m=>funext fun q=>funext fun r=>funext fun s=>funext fun g=>funext fun f=>funext fun o=>(Am ..).trans (Abf N F p a b c d i l e m N q r s g f o)):_)
def Ahh (args:List AV) (h:Al) (k:KF R):O R :=
 match args,h with
 | [(.optr 100000 0),(.int .i64 ak),(.int .i64 al),(.int .i64 p)],[(100000,⟨false,false,false,false,0,[(.imm a b 1 c d),(.int .i64 am)],false⟩)]=>(Nq N ak al p a b c d am (Hn a b c d k))
 | _,_=>none
theorem Amu:Aq N 110 @Ahh:=by
 intro R Q args h k j;unfold Ahh;split
 exact A0 (Amt ..) (Amt ..) ⟨Aka N,Hm N,Amm N,trivial⟩
 exact A2
def Amv:=A1 (Amu N)
theorem Bdl:Ay Tryz.prog 110 (Amv N):=A3 (Amu N) follows
def Gu (r0:LA→Int→O R) (e:Int) (a:LA) (b:Nat) (c d:Bool) (f:List UInt8) (g:Nat) (i:LA) (k1:Int→Int→Nat→LA→O R) (m p:Int) (l:Nat) (o:LA):O R :=
 (cond (decide (m<e)) (Ae N 2 a b c d p (fun aa v=>(cond (aa==1) (Ae N 8 a b c d v (fun ab ac=>(Ae N 8 a b c d ac (fun ad ae=>(cond ((Nat.ble (l+1) 140737488355328)&&(Nat.ble ((l+1)*24) 140737488355328)) (k1 (wrap .i64 (m+1)) ae (l+1) ((o.take (l*3))++[(.int .i64 m),(.int .i64 ab),(.int .i64 ad)])) none))))) (k1 (wrap .i64 (m+1)) v l o)))) (r0 [(.str f),(.imm (i.take (g*1)) g 1 false false),(.bool true),(.imm (o.take (l*3)) l 3 false false)] p))
def D8 (r0:LA→Int→O R) (e:Int) (a:LA) (b:Nat) (c d:Bool) (f:List UInt8) (g:Nat) (i:LA):Nat→Int→Int→Nat→LA→O R
 | 0,_,_,_,_=>none
 | n+1,m,p,l,o=>(Gu N r0 e a b c d f g i (D8 r0 e a b c d f g i n) m p l o)
def J3 (r0:LA→Int→O R) (e:Int) (a:LA) (b:Nat) (c d:Bool) (f:List UInt8) (q1:Int→Int→Nat→LA→O R) (q:Int) (g:Nat) (i:LA):O R :=
 (Ae N 2 a b c d q (fun af w=>(cond (af==1) (q1 0 w 0 []) (r0 [(.str f),(.imm (i.take (g*1)) g 1 false false),(.bool false),(.imm [] 0 3 false false)] w))))
def D9 (r0:LA→Int→O R) (e:Int) (a:LA) (b:Nat) (c d:Bool) (f:List UInt8) (q:Int) (g:Nat) (i:LA):O R:=(J3 N r0 e a b c d f (fun m p l o=>(D8 N r0 e a b c d f g i N m p l o)) q g i)
def Ho (r0:LA→Int→O R) (q0:List UInt8→Int→Nat→LA→O R) (s r e:Int) (a:LA) (b:Nat) (c d:Bool) (t:Int):O R :=
 (Yw N ([111]:List UInt8) s (fun f=>(Ae N r a b c d t (fun u ag=>(Ae N r a b c d ag (fun x y=>(cond ((decide (x>u))==true) (Ae N 3 a b c d y (fun ah z=>(cond (cond true (ah==2) false) (q0 f z 2 [(.int .i64 u),(.int .i64 x)]) (q0 f z 1 [(.int .i64 u)])))) (q0 f y 1 [(.int .i64 u)]))))))))
def Jb:=(Ak (fun (N:Nat) (s r e:Int) (a:LA) (b:Nat) (c d:Bool) (t:Int) (r0:LA→Int→O R)=>(Ho N r0 (fun f q g i=>(D9 N r0 e a b c d f q g i)) s r e a b c d t))).1
theorem J4 (s r e a b c d t r0):(@Jb R N s r e a b c d t r0)=(Ho N r0 (fun f q g i=>(D9 N r0 e a b c d f q g i)) s r e a b c d t):=by rw[Jb,(Ak _).2]
def Ad1:Hints:={ H:=(hS hL (hS hL (hJ [0,3,8,9] hL (hS (hS hL (hS (hS hL (hS hL (hS (hP [0,3,8,9,11] hL) hL))) hL)) hL)))),modes:=[(3,0)],cob:=[18] }
def Ahi:Tbl:=[(108,Abe N),(106,Fr N)]
def Ad2 (F:KF R):=atM Tryz.f111 Ad1 (Ahi N) [100000] N F
def Ea (a:LA) (b:Nat) (c d:Bool) (F:KF R):LA→Int→O R:=(fun ai aj=>F (.pagg ai false) [(100000,⟨false,false,false,false,0,[(.imm a b 1 c d),(.int .i64 aj)],false⟩)])
def A3z (e:Int) (a:LA) (b:Nat) (c d:Bool) (f:List UInt8) (g:Nat) (i:LA) (m p:Int) (l:Nat) (o:LA):St:=⟨[(0,(.optr 100000 0)),(3,(.int .i64 e)),(8,(.optr 300000 0)),(9,(.optr 300001 0)),(11,(.int .i64 m))],[(100000,⟨false,false,false,false,0,[(.imm a b 1 c d),(.int .i64 p)],false⟩),(300000,⟨false,false,false,false,0,[(.str ([]:List UInt8)),.nsl,(.bool false),.nsl],false⟩),(300001,⟨false,false,false,false,0,[(.str f),(.own 300002 0 g),(.bool true),(.own 300003 0 l)],false⟩),(300002,(bQ 1 i)),(300003,(bQ 3 o))]⟩
def A30 (F:KF R):=Ad2 N F [1,1,1,0,1,0,1,1,0] []
def A31 (e:Int) (a:LA) (b:Nat) (c d:Bool) (f:List UInt8) (q:Int) (g:Nat) (i:LA):St:=⟨[(0,(.optr 100000 0)),(3,(.int .i64 e)),(8,(.optr 300000 0)),(9,(.optr 300001 0))],[(100000,⟨false,false,false,false,0,[(.imm a b 1 c d),(.int .i64 q)],false⟩),(300000,⟨false,false,false,false,0,[(.str ([]:List UInt8)),.nsl,(.bool false),.nsl],false⟩),(300001,⟨false,false,false,false,0,[(.str f),(.own 300002 0 g),(.bool false),(.own 300003 0 0)],false⟩),(300002,(bQ 1 i)),(300003,(bQ 3 []))]⟩
def A32 (F:KF R):=Ad2 N F [1,1,1] []
theorem Vs (F:KF R) (e:Int) (a:LA) (b:Nat) (c d:Bool) (f:List UInt8) (g:Nat) (i:LA):∀ (n:Nat) (m p:Int) (l:Nat) (o:LA),As (A30 N F) n (A3z e a b c d f g i m p l o)=(D8 N (Ea a b c d F) e a b c d f g i n m p l o)
 | 0,_,_,_,_=>by kernel_rfl
 | n+1,m,p,l,o=>Eq.trans (by kernel_rfl) (cgA (Gu N (Ea a b c d F) e a b c d f g i · m p l o) (funext fun m=>funext fun p=>funext fun l=>funext fun o=>(Vs F e a b c d f g i n m p l o)):_)
theorem Arj (F:KF R) (e:Int) (a:LA) (b:Nat) (c d:Bool) (f:List UInt8):∀ (q:Int) (g:Nat) (i:LA),Bh (A32 N F) (A31 e a b c d f q g i)=(D9 N (Ea a b c d F) e a b c d f q g i):=by
 intro q g i
 exact Eq.trans (by kernel_rfl) (cgA (J3 N (Ea a b c d F) e a b c d f · q g i) (funext fun m=>funext fun p=>funext fun l=>funext fun o=>(Am ..).trans (Vs N F e a b c d f g i N m p l o)):_)
theorem Ad3 (s r e:Int) (a:LA) (b:Nat) (c d:Bool) (t:Int) (F:KF R):exM (Ahi N) Ad1 N 111 [(.optr 100000 0),(.int .i64 s),(.int .i64 r),(.int .i64 e)] [(100000,⟨false,false,false,false,0,[(.imm a b 1 c d),(.int .i64 t)],false⟩)] F=(Jb N s r e a b c d t (Ea a b c d F)):=by
 rw[J4]
 exact Eq.trans (by kernel_rfl) (cgA (Ho N (Ea a b c d F) · s r e a b c d t) (funext fun f=>funext fun q=>funext fun g=>funext fun i=>(Au ..).trans (Arj N F e a b c d f q g i)):_)
def Abg (args:List AV) (h:Al) (k:KF R):O R :=
 match args,h with
 | [(.optr 100000 0),(.int .i64 s),(.int .i64 r),(.int .i64 e)],[(100000,⟨false,false,false,false,0,[(.imm a b 1 c d),(.int .i64 t)],false⟩)]=>(Jb N s r e a b c d t (Ea a b c d k))
 | _,_=>none
theorem Ad4:Aq N 111 @Abg:=by
 intro R Q args h k j;unfold Abg;split
 exact A0 (Ad3 ..) (Ad3 ..) ⟨Aka N,Hm N,trivial⟩
 exact A2
def Ad5:=A1 (Ad4 N)
theorem A33:Ay Tryz.prog 111 (Ad5 N):=A3 (Ad4 N) follows
def Oy (N:Nat) (r0:Bool→O R) (c d:Int) (b:LA) (a:Nat) (e f:Bool) (k0:Int→O R) (g:Int):O R :=
 (cond (decide (g<((a:Nat):Int))) (cond (Aj g a) (rdI .i64 (b.drop ((g.toNat)*1)) fun i=>(cond ((decide (i<c))==false) (cond (Aj g a) (rdI .i64 (b.drop ((g.toNat)*1)) fun l=>(cond (cond false true (decide (l>d))) (r0 false) (k0 (wrap .i64 (g+1))))) none) (r0 false))) none) (r0 true))
def Gv (r0:Bool→O R) (c d:Int) (b:LA) (a:Nat) (e f:Bool):Nat→Int→O R
 | 0,_=>none
 | n+1,g=>(Oy N r0 c d b a e f (Gv r0 c d b a e f n) g)
def Yx (N:Nat) (r0:Bool→O R) (q0:Int→O R) (c d:Int) (b:LA) (a:Nat) (e f:Bool):O R :=
 (q0 0)
def Ar:=(Ak (fun (N:Nat) (c d:Int) (b:LA) (a:Nat) (e f:Bool) (r0:Bool→O R)=>(Yx N r0 (fun g=>(Gv N r0 c d b a e f N g)) c d b a e f))).1
theorem Amw (c d b a e f r0):(@Ar R N c d b a e f r0)=(Yx N r0 (fun g=>(Gv N r0 c d b a e f N g)) c d b a e f):=by rw[Ar,(Ak _).2]
def Ark:Hints:={ H:=(hS hL (hS (hS hL (hS (hP [0,1,2,7] hL) hL)) hL)) }
def Bk7 (F:KF R):=atM Tryz.f156 Ark [] [] N F
def Mm (F:KF R):Bool→O R:=(fun m=>F (.bool m) [])
def Bk8 (c d:Int) (b:LA) (a:Nat) (e f:Bool) (g:Int):St:=⟨[(0,(.int .i64 c)),(1,(.int .i64 d)),(2,(.imm b a 1 e f)),(7,(.int .i64 g))],[]⟩
def Bk9 (F:KF R):=Bk7 N F [1,0,1,0] []
theorem Ad6 (F:KF R) (c d:Int) (b:LA) (a:Nat) (e f:Bool):∀ (n:Nat) (g:Int),As (Bk9 N F) n (Bk8 c d b a e f g)=(Gv N (Mm F) c d b a e f n g)
 | 0,_=>by kernel_rfl
 | n+1,g=>Eq.trans (by kernel_rfl) (cgA (Oy N (Mm F) c d b a e f · g) (funext fun g=>(Ad6 F c d b a e f n g)):_)
theorem Arl (c d:Int) (b:LA) (a:Nat) (e f:Bool) (F:KF R):exM [] Ark N 156 [(.int .i64 c),(.int .i64 d),(.imm b a 1 e f)] [] F=(Ar N c d b a e f (Mm F)):=by
 rw[Amw]
 exact Eq.trans (by kernel_rfl) (cgA (Yx N (Mm F) · c d b a e f) (funext fun g=>(Am ..).trans (Ad6 N F c d b a e f N g)):_)
def Amx (args:List AV) (h:Al) (k:KF R):O R :=
 match args,h with
 | [(.int .i64 c),(.int .i64 d),(.imm b a 1 e f)],[]=>(Ar N c d b a e f (Mm k))
 | _,_=>none
theorem Arm:Aq N 156 @Amx:=by
 intro R Q args h k j;unfold Amx;split
 exact A0 (Arl ..) (Arl ..) trivial
 exact A2
def Ce:=A1 (Arm N)
theorem Cw:Ay Tryz.prog 156 (Ce N):=A3 (Arm N) follows
def Io (N:Nat) (r0:LA→O R) (b c d e:Int) (a:LA) (f:Bool):O R :=
 (cond f (cond ((Nat.beq 3 3)&&((Nat.ble 3 (a.length))&&(!false))) (cond ((Nat.beq 1 1)&&((Nat.ble 4 ((Dk a 0 [(.int .i64 b),(.int .i64 c),(.int .i64 d)]).length))&&(!false))) (r0 ((Dk a 0 [(.int .i64 b),(.int .i64 c),(.int .i64 d)]).set 3 (.int .i64 e))) none) none) (r0 a))
def Ls (N:Nat) (r0:LA→O R) (q0:Bool→O R) (g:Bool) (b c d e:Int) (a:LA):O R :=
 (rdI .i64 (a.drop 3) fun i=>(cond ((i==0)==true) (q0 (cond true (!g) false)) (q0 false)))
def Aa:=(Ak (fun (N:Nat) (g:Bool) (b c d e:Int) (a:LA) (r0:LA→O R)=>(Ls N r0 (fun f=>(Io N r0 b c d e a f)) g b c d e a))).1
theorem Vt (g b c d e a r0):(@Aa R N g b c d e a r0)=(Ls N r0 (fun f=>(Io N r0 b c d e a f)) g b c d e a):=by rw[Aa,(Ak _).2]
def Xk:Hints:={ H:=(hJ [0,2,3,4,5,20] hL hL) }
def Atv (F:KF R):=atM Tryz.f155 Xk [] [100000] N F
def Ip (F:KF R):LA→O R:=(fun l=>F (.tup []) [(100000,(bQ 0 l))])
def Atw (b c d e:Int) (a:LA) (f:Bool):St:=⟨[(0,(.optr 100000 0)),(2,(.int .i64 b)),(3,(.int .i64 c)),(4,(.int .i64 d)),(5,(.int .i64 e)),(20,(.bool f))],[(100000,(bQ 0 a))]⟩
def Atx (F:KF R):=Atv N F [1] []
theorem Akb (F:KF R) (b c d e:Int) (a:LA):∀ (f:Bool),Bh (Atx N F) (Atw b c d e a f)=(Io N (Ip F) b c d e a f):=by
 intro f
 kernel_rfl
theorem Xl (g:Bool) (b c d e:Int) (a:LA) (F:KF R):exM [] Xk N 155 [(.optr 100000 0),(.bool g),(.int .i64 b),(.int .i64 c),(.int .i64 d),(.int .i64 e)] [(100000,(bQ 0 a))] F=(Aa N g b c d e a (Ip F)):=by
 rw[Vt]
 exact Eq.trans (by kernel_rfl) (cgA (Ls N (Ip F) · g b c d e a) (funext fun f=>(Au ..).trans (Akb N F b c d e a f)):_)
def Vu (args:List AV) (h:Al) (k:KF R):O R :=
 match args,h with
 | [(.optr 100000 0),(.bool g),(.int .i64 b),(.int .i64 c),(.int .i64 d),(.int .i64 e)],[(100000,⟨false,false,true,false,0,a,false⟩)]=>(Aa N g b c d e a (Ip k))
 | _,_=>none
theorem Xm:Aq N 155 @Vu:=by
 intro R Q args h k j;unfold Vu;split
 exact A0 (Xl ..) (Xl ..) trivial
 exact A2
def Bc:=A1 (Xm N)
theorem Bi:Ay Tryz.prog 155 (Bc N):=A3 (Xm N) follows
def Nz (r0:LA→O R) (e:LA) (n:Bool) (f:LA) (a:Nat) (o g:Bool) (i l b c d:Int) (m:LA):O R :=
 (rdI .i64 e fun p=>(Aa N (((a:Nat):Int)==p) b c d 4 m (fun q=>(Ar N i l f a false g (fun r=>(Aa N r b c d 3 q (fun s=>(r0 s))))))))
def By:=(Ak (fun (N:Nat) (e:LA) (n:Bool) (f:LA) (a:Nat) (o g:Bool) (i l b c d:Int) (m:LA) (r0:LA→O R)=>(Nz N r0 e n f a o g i l b c d m))).1
theorem Ri (e n f a o g i l b c d m r0):(@By R N e n f a o g i l b c d m r0)=(Nz N r0 e n f a o g i l b c d m):=by rw[By,(Ak _).2]
def Anq:Hints:={ H:=hL }
def Arn:Tbl:=[(155,Bc N),(156,Ce N)]
def R6 (F:KF R):LA→O R:=(fun t=>F (.tup []) [(100000,(bQ 0 t))])
theorem R7 (e:LA) (n:Bool) (f:LA) (a:Nat) (o g:Bool) (i l b c d:Int) (m:LA) (F:KF R):exM (Arn N) Anq N 154 [(.optr 100000 0),(.pagg e n),(.imm f a 1 o g),(.int .i64 i),(.int .i64 l),(.int .i64 b),(.int .i64 c),(.int .i64 d)] [(100000,(bQ 0 m))] F=(By N e n f a o g i l b c d m (R6 F)):=by
 rw[Ri]
 kernel_rfl
def Rj (args:List AV) (h:Al) (k:KF R):O R :=
 match args,h with
 | [(.optr 100000 0),(.pagg e n),(.imm f a 1 o g),(.int .i64 i),(.int .i64 l),(.int .i64 b),(.int .i64 c),(.int .i64 d)],[(100000,⟨false,false,true,false,0,m,false⟩)]=>(By N e n f a o g i l b c d m (R6 k))
 | _,_=>none
theorem R8:Aq N 154 @Rj:=by
 intro R Q args h k j;unfold Rj;split
 exact A0 (R7 ..) (R7 ..) ⟨Bi N,Cw N,trivial⟩
 exact A2
def G2:=A1 (R8 N)
theorem Lf:Ay Tryz.prog 154 (G2 N):=A3 (R8 N) follows
end
end Gx

namespace Gx
open Go Go.Proofs
open IntKind (wrap)
set_option maxRecDepth 100000
noncomputable section
variable {R:Type} (N:Nat)
def Us (N:Nat) (r0:Nat→LA→O R) (b:Bool) (a:LA) (k0:Nat→Int→LA→O R) (c:Nat) (l:Int) (s:LA):O R :=
 (rdL 3 (a.drop 2) fun bb z=>(cond (decide (l<((z:Nat):Int))) (rdL 3 (a.drop 2) fun aa ab=>(cond (Aj l ab) (rdS (aa.drop ((l.toNat)*3)) fun ac=>(cond ((Nat.ble (c+1) 140737488355328)&&(Nat.ble ((c+1)*16) 140737488355328)) (k0 (c+1) (wrap .i64 (l+1)) ((s.take (c*1))++[(.str ac)])) none)) none)) (r0 c s)))
def J5 (r0:Nat→LA→O R) (b:Bool) (a:LA):Nat→Nat→Int→LA→O R
 | 0,_,_,_=>none
 | n+1,c,l,s=>(Us N r0 b a (J5 r0 b a n) c l s)
def Ut (N:Nat) (r0:Nat→LA→O R) (b:Bool) (a:LA) (k1:Nat→Int→LA→O R) (d:Nat) (m:Int) (t:LA):O R :=
 (rdL 12 (a.drop 3) fun bc ad=>(cond (decide (m<((ad:Nat):Int))) (rdL 12 (a.drop 3) fun ae af=>(cond (Aj m af) (rdS (ae.drop ((m.toNat)*12)) fun ag=>(cond ((Nat.ble (d+1) 140737488355328)&&(Nat.ble ((d+1)*16) 140737488355328)) (k1 (d+1) (wrap .i64 (m+1)) ((t.take (d*1))++[(.str ag)])) none)) none)) (r0 d t)))
def J6 (r0:Nat→LA→O R) (b:Bool) (a:LA):Nat→Nat→Int→LA→O R
 | 0,_,_,_=>none
 | n+1,d,m,t=>(Ut N r0 b a (J6 r0 b a n) d m t)
def Uu (N:Nat) (r0:Nat→LA→O R) (b:Bool) (a:LA) (k2:Nat→Int→LA→O R) (e:Nat) (o:Int) (u:LA):O R :=
 (rdL 22 (a.drop 4) fun bd ah=>(cond (decide (o<((ah:Nat):Int))) (rdL 22 (a.drop 4) fun ai aj=>(cond (Aj o aj) (rdS (ai.drop ((o.toNat)*22)) fun ak=>(cond ((Nat.ble (e+1) 140737488355328)&&(Nat.ble ((e+1)*16) 140737488355328)) (k2 (e+1) (wrap .i64 (o+1)) ((u.take (e*1))++[(.str ak)])) none)) none)) (r0 e u)))
def J7 (r0:Nat→LA→O R) (b:Bool) (a:LA):Nat→Nat→Int→LA→O R
 | 0,_,_,_=>none
 | n+1,e,o,u=>(Uu N r0 b a (J7 r0 b a n) e o u)
def Uv (N:Nat) (r0:Nat→LA→O R) (b:Bool) (a:LA) (k3:Nat→Int→LA→O R) (f:Nat) (p:Int) (v:LA):O R :=
 (rdL 9 (a.drop 5) fun be al=>(cond (decide (p<((al:Nat):Int))) (rdL 9 (a.drop 5) fun am an=>(cond (Aj p an) (rdS (am.drop ((p.toNat)*9)) fun ao=>(cond ((Nat.ble (f+1) 140737488355328)&&(Nat.ble ((f+1)*16) 140737488355328)) (k3 (f+1) (wrap .i64 (p+1)) ((v.take (f*1))++[(.str ao)])) none)) none)) (r0 f v)))
def J8 (r0:Nat→LA→O R) (b:Bool) (a:LA):Nat→Nat→Int→LA→O R
 | 0,_,_,_=>none
 | n+1,f,p,v=>(Uv N r0 b a (J8 r0 b a n) f p v)
def Uw (N:Nat) (r0:Nat→LA→O R) (b:Bool) (a:LA) (k4:Nat→Int→LA→O R) (g:Nat) (q:Int) (w:LA):O R :=
 (rdL 5 (a.drop 6) fun bf ap=>(cond (decide (q<((ap:Nat):Int))) (rdL 5 (a.drop 6) fun aq ar=>(cond (Aj q ar) (rdS (aq.drop ((q.toNat)*5)) fun au=>(cond ((Nat.ble (g+1) 140737488355328)&&(Nat.ble ((g+1)*16) 140737488355328)) (k4 (g+1) (wrap .i64 (q+1)) ((w.take (g*1))++[(.str au)])) none)) none)) (r0 g w)))
def J9 (r0:Nat→LA→O R) (b:Bool) (a:LA):Nat→Nat→Int→LA→O R
 | 0,_,_,_=>none
 | n+1,g,q,w=>(Uw N r0 b a (J9 r0 b a n) g q w)
def Ux (N:Nat) (r0:Nat→LA→O R) (b:Bool) (a:LA) (k5:Nat→Int→LA→O R) (i:Nat) (r:Int) (x:LA):O R :=
 (rdL 4 (a.drop 7) fun bg av=>(cond (decide (r<((av:Nat):Int))) (rdL 4 (a.drop 7) fun aw ax=>(cond (Aj r ax) (rdS (aw.drop ((r.toNat)*4)) fun ay=>(cond ((Nat.ble (i+1) 140737488355328)&&(Nat.ble ((i+1)*16) 140737488355328)) (k5 (i+1) (wrap .i64 (r+1)) ((x.take (i*1))++[(.str ay)])) none)) none)) (r0 i x)))
def Ka (r0:Nat→LA→O R) (b:Bool) (a:LA):Nat→Nat→Int→LA→O R
 | 0,_,_,_=>none
 | n+1,i,r,x=>(Ux N r0 b a (Ka r0 b a n) i r x)
def Kb (N:Nat) (r0:Nat→LA→O R) (q0:Nat→Int→LA→O R) (q1:Nat→Int→LA→O R) (q2:Nat→Int→LA→O R) (q3:Nat→Int→LA→O R) (q4:Nat→Int→LA→O R) (q5:Nat→Int→LA→O R) (a:LA) (b:Bool) (y:Int):O R :=
 (cond (y==1) (q0 0 0 []) (cond (y==2) (q1 0 0 []) (cond (y==3) (q2 0 0 []) (cond (y==4) (q3 0 0 []) (cond (y==5) (q4 0 0 []) (cond (y==6) (q5 0 0 []) (r0 0 [])))))))
def Ga:=(Ak (fun (N:Nat) (a:LA) (b:Bool) (y:Int) (r0:Nat→LA→O R)=>(Kb N r0 (fun c l s=>(J5 N r0 b a N c l s)) (fun d m t=>(J6 N r0 b a N d m t)) (fun e o u=>(J7 N r0 b a N e o u)) (fun f p v=>(J8 N r0 b a N f p v)) (fun g q w=>(J9 N r0 b a N g q w)) (fun i r x=>(Ka N r0 b a N i r x)) a b y))).1
theorem Ih (a b y r0):(@Ga R N a b y r0)=(Kb N r0 (fun c l s=>(J5 N r0 b a N c l s)) (fun d m t=>(J6 N r0 b a N d m t)) (fun e o u=>(J7 N r0 b a N e o u)) (fun f p v=>(J8 N r0 b a N f p v)) (fun g q w=>(J9 N r0 b a N g q w)) (fun i r x=>(Ka N r0 b a N i r x)) a b y):=by rw[Ga,(Ak _).2]
def A34:Hints:={ H:=(hS hL (hS hL (hS (hS hL (hS (hS hL (hS (hS hL (hS (hP [2,5,6] hL) hL)) (hS hL (hS (hS hL (hS (hP [2,5,7] hL) hL)) (hS hL (hS (hS hL (hS (hP [2,5,8] hL) hL)) (hS hL (hS (hS hL (hS (hP [2,5,9] hL) hL)) (hS hL (hS (hS hL (hS (hP [2,5,10] hL) hL)) (hS hL (hS (hS hL (hS (hP [2,5,11] hL) hL)) hL)))))))))))) hL)) hL))),nils:=[(4,1),(5,1)],modes:=[(2,1)] }
def Nr (F:KF R):=atM Tryz.f182 A34 [] [] N F
def Cb (F:KF R):Nat→LA→O R:=(fun az ba=>F (.own 300000 0 az) [(300000,(bQ 1 ba))])
def Btv (b:Bool) (a:LA) (c:Nat) (l:Int) (s:LA):St:=⟨[(2,(.optr 300000 0)),(5,(.own 300001 0 c)),(6,(.int .i64 l))],[(300000,(bP b 0 a)),(300001,(bQ 1 s))]⟩
def Btw (F:KF R):=Nr N F [1,1,0,1,0,1,0,1,0] []
def Btx (b:Bool) (a:LA) (d:Nat) (m:Int) (t:LA):St:=⟨[(2,(.optr 300000 0)),(5,(.own 300001 0 d)),(7,(.int .i64 m))],[(300000,(bP b 0 a)),(300001,(bQ 1 t))]⟩
def Bty (F:KF R):=Nr N F [1,1,0,1,0,1,1,1,0,1,0] []
def Btz (b:Bool) (a:LA) (e:Nat) (o:Int) (u:LA):St:=⟨[(2,(.optr 300000 0)),(5,(.own 300001 0 e)),(8,(.int .i64 o))],[(300000,(bP b 0 a)),(300001,(bQ 1 u))]⟩
def Bt0 (F:KF R):=Nr N F [1,1,0,1,0,1,1,1,1,1,0,1,0] []
def Bt1 (b:Bool) (a:LA) (f:Nat) (p:Int) (v:LA):St:=⟨[(2,(.optr 300000 0)),(5,(.own 300001 0 f)),(9,(.int .i64 p))],[(300000,(bP b 0 a)),(300001,(bQ 1 v))]⟩
def Bt2 (F:KF R):=Nr N F [1,1,0,1,0,1,1,1,1,1,1,1,0,1,0] []
def Bt3 (b:Bool) (a:LA) (g:Nat) (q:Int) (w:LA):St:=⟨[(2,(.optr 300000 0)),(5,(.own 300001 0 g)),(10,(.int .i64 q))],[(300000,(bP b 0 a)),(300001,(bQ 1 w))]⟩
def Bt4 (F:KF R):=Nr N F [1,1,0,1,0,1,1,1,1,1,1,1,1,1,0,1,0] []
def Bt5 (b:Bool) (a:LA) (i:Nat) (r:Int) (x:LA):St:=⟨[(2,(.optr 300000 0)),(5,(.own 300001 0 i)),(11,(.int .i64 r))],[(300000,(bP b 0 a)),(300001,(bQ 1 x))]⟩
def Bt6 (F:KF R):=Nr N F [1,1,0,1,0,1,1,1,1,1,1,1,1,1,1,1,0,1,0] []
theorem Amy (F:KF R) (b:Bool) (a:LA):∀ (n c:Nat) (l:Int) (s:LA),As (Btw N F) n (Btv b a c l s)=(J5 N (Cb F) b a n c l s)
 | 0,_,_,_=>by kernel_rfl
 | n+1,c,l,s=>Eq.trans (by kernel_rfl) (cgA (Us N (Cb F) b a · c l s) (funext fun c=>funext fun l=>funext fun s=>(Amy F b a n c l s)):_)
theorem Amz (F:KF R) (b:Bool) (a:LA):∀ (n d:Nat) (m:Int) (t:LA),As (Bty N F) n (Btx b a d m t)=(J6 N (Cb F) b a n d m t)
 | 0,_,_,_=>by kernel_rfl
 | n+1,d,m,t=>Eq.trans (by kernel_rfl) (cgA (Ut N (Cb F) b a · d m t) (funext fun d=>funext fun m=>funext fun t=>(Amz F b a n d m t)):_)
theorem Am0 (F:KF R) (b:Bool) (a:LA):∀ (n e:Nat) (o:Int) (u:LA),As (Bt0 N F) n (Btz b a e o u)=(J7 N (Cb F) b a n e o u)
 | 0,_,_,_=>by kernel_rfl
 | n+1,e,o,u=>Eq.trans (by kernel_rfl) (cgA (Uu N (Cb F) b a · e o u) (funext fun e=>funext fun o=>funext fun u=>(Am0 F b a n e o u)):_)
theorem Am1 (F:KF R) (b:Bool) (a:LA):∀ (n f:Nat) (p:Int) (v:LA),As (Bt2 N F) n (Bt1 b a f p v)=(J8 N (Cb F) b a n f p v)
 | 0,_,_,_=>by kernel_rfl
 | n+1,f,p,v=>Eq.trans (by kernel_rfl) (cgA (Uv N (Cb F) b a · f p v) (funext fun f=>funext fun p=>funext fun v=>(Am1 F b a n f p v)):_)
theorem Am2 (F:KF R) (b:Bool) (a:LA):∀ (n g:Nat) (q:Int) (w:LA),As (Bt4 N F) n (Bt3 b a g q w)=(J9 N (Cb F) b a n g q w)
 | 0,_,_,_=>by kernel_rfl
 | n+1,g,q,w=>Eq.trans (by kernel_rfl) (cgA (Uw N (Cb F) b a · g q w) (funext fun g=>funext fun q=>funext fun w=>(Am2 F b a n g q w)):_)
theorem Am3 (F:KF R) (b:Bool) (a:LA):∀ (n i:Nat) (r:Int) (x:LA),As (Bt6 N F) n (Bt5 b a i r x)=(Ka N (Cb F) b a n i r x)
 | 0,_,_,_=>by kernel_rfl
 | n+1,i,r,x=>Eq.trans (by kernel_rfl) (cgA (Ux N (Cb F) b a · i r x) (funext fun i=>funext fun r=>funext fun x=>(Am3 F b a n i r x)):_)
theorem A35 (a:LA) (b:Bool) (y:Int) (F:KF R):exM [] A34 N 182 [(.pagg a b),(.int .i64 y)] [] F=(Ga N a b y (Cb F)):=by
 rw[Ih]
 exact Eq.trans (by kernel_rfl) (cgF (Kb N (Cb F) · · · · · · a b y) (funext fun c=>funext fun l=>funext fun s=>(Am ..).trans (Amy N F b a N c l s)) (funext fun d=>funext fun m=>funext fun t=>(Am ..).trans (Amz N F b a N d m t)) (funext fun e=>funext fun o=>funext fun u=>(Am ..).trans (Am0 N F b a N e o u)) (funext fun f=>funext fun p=>funext fun v=>(Am ..).trans (Am1 N F b a N f p v)) (funext fun g=>funext fun q=>funext fun w=>(Am ..).trans (Am2 N F b a N g q w)) (funext fun i=>funext fun r=>funext fun x=>(Am ..).trans (Am3 N F b a N i r x)):_)
def Axi (args:List AV) (h:Al) (k:KF R):O R :=
 match args,h with
 | [(.pagg a b),(.int .i64 y)],[]=>(Ga N a b y (Cb k))
 | _,_=>none
theorem A36:Aq N 182 @Axi:=by
 intro R Q args h k j;unfold Axi;split
 exact A0 (A35 ..) (A35 ..) trivial
 exact A2
def Akc:=A1 (A36 N)
theorem A37:Ay Tryz.prog 182 (Akc N):=A3 (A36 N) follows
def A69 (N:Nat) (r0:Int→O R) (a:Int):O R :=
 (cond (Aj a 7) (rdI .i64 (List.drop (0+((a.toNat)*1)) [(.int .i64 0),(.int .i64 32),(.int .i64 64),(.int .i64 16),(.int .i64 8),(.int .i64 8),(.int .i64 64)]) fun b=>(r0 b)) none)
def Mn:=(Ak (fun (N:Nat) (a:Int) (r0:Int→O R)=>(A69 N r0 a))).1
theorem A38 (a r0):(@Mn R N a r0)=(A69 N r0 a):=by rw[Mn,(Ak _).2]
def Byb:Hints:={ H:=hL }
def Bbt (F:KF R):Int→O R:=(fun c=>F (.int .i64 c) [])
theorem Bbu (a:Int) (F:KF R):exM [] Byb N 183 [(.int .i64 a)] [] F=(Mn N a (Bbt F)):=by
 rw[A38]
 kernel_rfl
def A39 (args:List AV) (h:Al) (k:KF R):O R :=
 match args,h with
 | [(.int .i64 a)],[]=>(Mn N a (Bbt k))
 | _,_=>none
theorem Bbv:Aq N 183 @A39:=by
 intro R Q args h k j;unfold A39;split
 exact A0 (Bbu ..) (Bbu ..) trivial
 exact A2
def Bbw:=A1 (Bbv N)
theorem Byc:Ay Tryz.prog 183 (Bbw N):=A3 (Bbv N) follows
def B4 (r0:LA→O R) (b:Bool) (a:LA) (k0:Int→LA→O R) (c:Int) (d:LA):O R :=
 (cond (decide (c≤6)) (cond (Nat.ble 8 (a.length)) (Ga N (a.take 8) b c (fun f w=>(Mn N c (fun g=>(Aa N (decide (((f:Nat):Int)≤g)) 0 0 (wrap .i64 (c+1)) 8 d (fun i=>(k0 (wrap .i64 (c+1)) i))))))) none) (r0 d))
def Bd (r0:LA→O R) (b:Bool) (a:LA):Nat→Int→LA→O R
 | 0,_,_=>none
 | n+1,c,d=>(B4 N r0 b a (Bd r0 b a n) c d)
def Kc (r0:LA→O R) (q0:Int→LA→O R) (a:LA) (b:Bool) (e:LA):O R :=
 (rdI .i64 a fun l=>(Ar N 1 24 [(.int .i64 l)] 1 false true (fun m=>(Aa N m 0 0 0 3 e (fun o=>(cond (Nat.ble 8 (a.length)) (rdL 1 (a.drop 1) fun p q=>(By N (a.take 8) b p q false b 0 1048576 0 0 1 o (fun r=>(rdL 3 (a.drop 2) fun x s=>(Ar N 1 32 [(.int .i64 ((s:Nat):Int))] 1 false true (fun t=>(Aa N t 0 0 2 8 r (fun u=>(q0 2 u))))))))) none))))))
def Fi:=(Ak (fun (N:Nat) (a:LA) (b:Bool) (e:LA) (r0:LA→O R)=>(Kc N r0 (fun c d=>(Bd N r0 b a N c d)) a b e))).1
theorem R9 (a b e r0):(@Fi R N a b e r0)=(Kc N r0 (fun c d=>(Bd N r0 b a N c d)) a b e):=by rw[Fi,(Ak _).2]
def Vv:Hints:={ H:=(hS hL (hS hL (hS hL (hS hL (hS hL (hS (hP [0,3,4] hL) hL)))))) }
def Xn:Tbl:=[(156,Ce N),(155,Bc N),(154,G2 N),(182,Akc N),(183,Bbw N)]
def Aro (F:KF R):=atM Tryz.f152 Vv (Xn N) [100000] N F
def Fc (F:KF R):LA→O R:=(fun v=>F (.tup []) [(100000,(bQ 0 v))])
def Arp (b:Bool) (a:LA) (c:Int) (d:LA):St:=⟨[(0,(.optr 100000 0)),(3,(.optr 300000 0)),(4,(.int .i64 c))],[(100000,(bQ 0 d)),(300000,(bP b 0 a))]⟩
def Arq (F:KF R):=Aro N F [1,1,1,1,1,0] []
theorem P4 (F:KF R) (b:Bool) (a:LA):∀ (n:Nat) (c:Int) (d:LA),As (Arq N F) n (Arp b a c d)=(Bd N (Fc F) b a n c d)
 | 0,_,_=>by kernel_rfl
 | n+1,c,d=>Eq.trans (by kernel_rfl) (cgA (B4 N (Fc F) b a · c d) (funext fun c=>funext fun d=>(P4 F b a n c d)):_)
theorem Vw (a:LA) (b:Bool) (e:LA) (F:KF R):exM (Xn N) Vv N 152 [(.optr 100000 0),(.pagg a b)] [(100000,(bQ 0 e))] F=(Fi N a b e (Fc F)):=by
 rw[R9]
 exact Eq.trans (by kernel_rfl) (cgA (Kc N (Fc F) · a b e) (funext fun c=>funext fun d=>(Am ..).trans (P4 N F b a N c d)):_)
def Sa (args:List AV) (h:Al) (k:KF R):O R :=
 match args,h with
 | [(.optr 100000 0),(.pagg a b)],[(100000,⟨false,false,true,false,0,e,false⟩)]=>(Fi N a b e (Fc k))
 | _,_=>none
theorem Vx:Aq N 152 @Sa:=by
 intro R Q args h k j;unfold Sa;split
 exact A0 (Vw ..) (Vw ..) ⟨Cw N,Bi N,Lf N,A37 N,Byc N,trivial⟩
 exact A2
def Vy:=A1 (Vx N)
theorem Arr:Ay Tryz.prog 152 (Vy N):=A3 (Vx N) follows
def Ad7 (N:Nat) (k1:Int→O R) (r0:Bool→O R) (a:List UInt8) (c:Int) (d:Bool):O R :=
 (cond ((!d)==true) (cond ((c==0)==false) (cond (Aj c (a.length)) (cond ((((UInt8.toNat (List.getD a (c.toNat) 0):Nat):Int) != 95)==true) (cond (Aj c (a.length)) (cond ((decide (((UInt8.toNat (List.getD a (c.toNat) 0):Nat):Int)<48))==false) (cond (Aj c (a.length)) (cond (cond true (cond false true (cond true (cond false true (decide (((UInt8.toNat (List.getD a (c.toNat) 0):Nat):Int)>57))) false)) false) (r0 false) (k1 (wrap .i64 (c+1)))) none) (r0 false)) none) (k1 (wrap .i64 (c+1)))) none) (r0 false)) (k1 (wrap .i64 (c+1))))
def Yy (N:Nat) (r0:Bool→O R) (a:List UInt8) (k1:Int→O R) (q2:Int→Bool→O R) (b:Int):O R :=
 (cond (decide (b<(((a.length):Nat):Int))) (cond (Aj b (a.length)) (cond ((decide (((UInt8.toNat (List.getD a (b.toNat) 0):Nat):Int)≥97))==true) (cond (Aj b (a.length)) (q2 b (cond true (decide (((UInt8.toNat (List.getD a (b.toNat) 0):Nat):Int)≤122)) false)) none) (q2 b false)) none) (r0 true))
def Mo (r0:Bool→O R) (a:List UInt8):Nat→Int→O R
 | 0,_=>none
 | n+1,b=>(Yy N r0 a (Mo r0 a n) (fun c d=>(Ad7 N (Mo r0 a n) r0 a c d)) b)
def Akd (N:Nat) (r0:Bool→O R) (a:List UInt8) (q1:Int→O R):O R :=
 (q1 0)
def Ad8 (r0:Bool→O R) (a:List UInt8):O R:=(Akd N r0 a (fun b=>(Mo N r0 a N b)))
def Ath (N:Nat) (r0:Bool→O R) (q0:O R) (a:List UInt8):O R :=
 (cond ((decide ((((a.length):Nat):Int)<1))==false) (cond ((cond false true (decide ((((a.length):Nat):Int)>16)))==false) (cond (cond false true (a==([99,111,114,114,101,99,116,105,118,101]:List UInt8))) (r0 false) q0) (r0 false)) (r0 false))
def Ahj:=(Ak (fun (N:Nat) (a:List UInt8) (r0:Bool→O R)=>(Ath N r0 (Ad8 N r0 a) a))).1
theorem A4a (a r0):(@Ahj R N a r0)=(Ath N r0 (Ad8 N r0 a) a):=by rw[Ahj,(Ak _).2]
def Bbx:Hints:={ H:=(hS hL (hJ [0] hL (hS (hS hL (hS (hP [0,3] (hS hL (hS (hS (hJ [0,3,4] hL hL) hL) hL))) hL)) hL))) }
def Ars (F:KF R):=atM Tryz.f184 Bbx [] [] N F
def H0 (F:KF R):Bool→O R:=(fun e=>F (.bool e) [])
def Byd (a:List UInt8) (c:Int) (d:Bool):St:=⟨[(0,(.str a)),(3,(.int .i64 c)),(4,(.bool d))],[]⟩
def Bye (F:KF R) (Q1:St→O R):=Ars N F [1,1,0,1,0,0,1,0,0,1] [Q1]
def Bby (a:List UInt8) (b:Int):St:=⟨[(0,(.str a)),(3,(.int .i64 b))],[]⟩
def Bbz (F:KF R):=Ars N F [1,1,0,1,0] []
def Byf (a:List UInt8):St:=⟨[(0,(.str a))],[]⟩
def Byg (F:KF R):=Ars N F [1,1] []
theorem Bla (Q1:St→O R) (F:KF R) (a:List UInt8):∀ (c:Int) (d:Bool),Bh (Bye N F Q1) (Byd a c d)=(Ad7 N (fun b=>Q1 (Bby a b)) (H0 F) a c d):=by
 intro c d
 kernel_rfl
theorem Art (F:KF R) (a:List UInt8):∀ (n:Nat) (b:Int),As (Bbz N F) n (Bby a b)=(Mo N (H0 F) a n b)
 | 0,_=>by kernel_rfl
 | n+1,b=>have e0:=(funext fun b=>(Art F a n b))
  Eq.trans (by kernel_rfl) (cgB (Yy N (H0 F) a · · b) e0 (funext fun c=>funext fun d=>(Au ..).trans ((Bla N (As (Bbz N F) n) F a c d).trans (cgA (Ad7 N · (H0 F) a c d) e0))):_)
theorem Blb (F:KF R) (a:List UInt8):Bh (Byg N F) (Byf a)=(Ad8 N (H0 F) a):=by
 exact Eq.trans (by kernel_rfl) (cgA (Akd N (H0 F) a ·) (funext fun b=>(Am ..).trans (Art N F a N b)):_)
theorem Bb0 (a:List UInt8) (F:KF R):exM [] Bbx N 184 [(.str a)] [] F=(Ahj N a (H0 F)):=by
 rw[A4a]
 exact Eq.trans (by kernel_rfl) (cgA (Ath N (H0 F) · a) ((Au ..).trans (Blb N F a)):_)
def A4b (args:List AV) (h:Al) (k:KF R):O R :=
 match args,h with
 | [(.str a)],[]=>(Ahj N a (H0 k))
 | _,_=>none
theorem Bb1:Aq N 184 @A4b:=by
 intro R Q args h k j;unfold A4b;split
 exact A0 (Bb0 ..) (Bb0 ..) trivial
 exact A2
def Bb2:=A1 (Bb1 N)
theorem Byh:Ay Tryz.prog 184 (Bb2 N):=A3 (Bb1 N) follows
def H1 (r0:LA→O R) (b a:Int) (c:Nat) (d:LA) (k0:Int→LA→O R) (e:Int) (f:LA):O R :=
 (cond (decide (e<a)) (cond (Aj e c) (rdS (d.drop (0+((e.toNat)*1))) fun m=>(cond (Aj a c) (rdS (d.drop (0+((a.toNat)*1))) fun o=>(Aa N (!(m==o)) b a 0 10 f (fun p=>(k0 (wrap .i64 (e+1)) p)))) none)) none) (r0 f))
def Dd (r0:LA→O R) (b a:Int) (c:Nat) (d:LA):Nat→Int→LA→O R
 | 0,_,_=>none
 | n+1,e,f=>(H1 N r0 b a c d (Dd r0 b a c d n) e f)
def Lt (r0:LA→O R) (q0:Nat→LA→Int→LA→O R) (g:LA) (i:Bool) (b a:Int) (l:LA):O R :=
 (cond (Nat.ble 8 (g.length)) (Ga N (g.take 8) i b (fun c d=>(cond (Aj a c) (rdS (d.drop (0+((a.toNat)*1))) fun q=>(Ahj N q (fun r=>(Aa N r b a 0 9 l (fun s=>(q0 c d 0 s)))))) none))) none)
def B7:=(Ak (fun (N:Nat) (g:LA) (i:Bool) (b a:Int) (l:LA) (r0:LA→O R)=>(Lt N r0 (fun c d e f=>(Dd N r0 b a c d N e f)) g i b a l))).1
theorem Vz (g i b a l r0):(@B7 R N g i b a l r0)=(Lt N r0 (fun c d e f=>(Dd N r0 b a c d N e f)) g i b a l):=by rw[B7,(Ak _).2]
def Xo:Hints:={ H:=(hS hL (hS hL (hS hL (hS hL (hS (hP [0,2,3,8,9] hL) hL))))) }
def Abh:Tbl:=[(182,Akc N),(184,Bb2 N),(155,Bc N)]
def Aty (F:KF R):=atM Tryz.f153 Xo (Abh N) [100000] N F
def Fw (F:KF R):LA→O R:=(fun t=>F (.tup []) [(100000,(bQ 0 t))])
def Atz (b a:Int) (c:Nat) (d:LA) (e:Int) (f:LA):St:=⟨[(0,(.optr 100000 0)),(2,(.int .i64 b)),(3,(.int .i64 a)),(8,(.own 300000 0 c)),(9,(.int .i64 e))],[(100000,(bQ 0 f)),(300000,(bQ 1 d))]⟩
def At0 (F:KF R):=Aty N F [1,1,1,1,0] []
theorem Rk (F:KF R) (b a:Int) (c:Nat) (d:LA):∀ (n:Nat) (e:Int) (f:LA),As (At0 N F) n (Atz b a c d e f)=(Dd N (Fw F) b a c d n e f)
 | 0,_,_=>by kernel_rfl
 | n+1,e,f=>Eq.trans (by kernel_rfl) (cgA (H1 N (Fw F) b a c d · e f) (funext fun e=>funext fun f=>(Rk F b a c d n e f)):_)
theorem Xp (g:LA) (i:Bool) (b a:Int) (l:LA) (F:KF R):exM (Abh N) Xo N 153 [(.optr 100000 0),(.pagg g i),(.int .i64 b),(.int .i64 a)] [(100000,(bQ 0 l))] F=(B7 N g i b a l (Fw F)):=by
 rw[Vz]
 exact Eq.trans (by kernel_rfl) (cgA (Lt N (Fw F) · g i b a l) (funext fun c=>funext fun d=>funext fun e=>funext fun f=>(Am ..).trans (Rk N F b a c d N e f)):_)
def V0 (args:List AV) (h:Al) (k:KF R):O R :=
 match args,h with
 | [(.optr 100000 0),(.pagg g i),(.int .i64 b),(.int .i64 a)],[(100000,⟨false,false,true,false,0,l,false⟩)]=>(B7 N g i b a l (Fw k))
 | _,_=>none
theorem Xq:Aq N 153 @V0:=by
 intro R Q args h k j;unfold V0;split
 exact A0 (Xp ..) (Xp ..) ⟨A37 N,Byh N,Bi N,trivial⟩
 exact A2
def De:=A1 (Xq N)
theorem Ed:Ay Tryz.prog 153 (De N):=A3 (Xq N) follows
def Tv (r0:LA→O R) (a:LA) (g:Bool) (b c d e:Int) (f:LA):O R :=
 (rdL 3 (a.drop 2) fun o i=>(Ar N 0 (wrap .i64 (((i:Nat):Int) - 1)) [(.int .i64 b)] 1 false true (fun l=>(Aa N l c d e 12 f (fun m=>(r0 m))))))
def Cz:=(Ak (fun (N:Nat) (a:LA) (g:Bool) (b c d e:Int) (f:LA) (r0:LA→O R)=>(Tv N r0 a g b c d e f))).1
theorem Xr (a g b c d e f r0):(@Cz R N a g b c d e f r0)=(Tv N r0 a g b c d e f):=by rw[Cz,(Ak _).2]
def Azw:Hints:={ H:=hL }
def A4c:Tbl:=[(156,Ce N),(155,Bc N)]
def Abi (F:KF R):LA→O R:=(fun n=>F (.tup []) [(100000,(bQ 0 n))])
theorem Abj (a:LA) (g:Bool) (b c d e:Int) (f:LA) (F:KF R):exM (A4c N) Azw N 185 [(.optr 100000 0),(.pagg a g),(.int .i64 b),(.int .i64 c),(.int .i64 d),(.int .i64 e)] [(100000,(bQ 0 f))] F=(Cz N a g b c d e f (Abi F)):=by
 rw[Xr]
 kernel_rfl
def Xs (args:List AV) (h:Al) (k:KF R):O R :=
 match args,h with
 | [(.optr 100000 0),(.pagg a g),(.int .i64 b),(.int .i64 c),(.int .i64 d),(.int .i64 e)],[(100000,⟨false,false,true,false,0,f,false⟩)]=>(Cz N a g b c d e f (Abi k))
 | _,_=>none
theorem Abk:Aq N 185 @Xs:=by
 intro R Q args h k j;unfold Xs;split
 exact A0 (Abj ..) (Abj ..) ⟨Cw N,Bi N,trivial⟩
 exact A2
def Gw:=A1 (Abk N)
theorem Kd:Ay Tryz.prog 185 (Gw N):=A3 (Abk N) follows
def Afa (r0:Bool→O R) (a:LA) (b:Bool):O R :=
 (rdI .i64 (a.drop 1) fun c=>(Ar N 1 1048576 [(.int .i64 c)] 1 false true (fun d=>(cond (d==true) (rdI .i64 a fun e=>(Ar N (-1048576) 1048576 [(.int .i64 e)] 1 false true (fun f=>(r0 (cond true f false))))) (r0 false)))))
def F0:=(Ak (fun (N:Nat) (a:LA) (b:Bool) (r0:Bool→O R)=>(Afa N r0 a b))).1
theorem Ahk (a b r0):(@F0 R N a b r0)=(Afa N r0 a b):=by rw[F0,(Ak _).2]
def Bdm:Hints:={ H:=hL }
def Blc:Tbl:=[(156,Ce N)]
def Am4 (F:KF R):Bool→O R:=(fun g=>F (.bool g) [])
theorem Am5 (a:LA) (b:Bool) (F:KF R):exM (Blc N) Bdm N 186 [(.pagg a b)] [] F=(F0 N a b (Am4 F)):=by
 rw[Ahk]
 kernel_rfl
def Ahl (args:List AV) (h:Al) (k:KF R):O R :=
 match args,h with
 | [(.pagg a b)],[]=>(F0 N a b (Am4 k))
 | _,_=>none
theorem Am6:Aq N 186 @Ahl:=by
 intro R Q args h k j;unfold Ahl;split
 exact A0 (Am5 ..) (Am5 ..) ⟨Cw N,trivial⟩
 exact A2
def Ww:=A1 (Am6 N)
theorem Am7:Ay Tryz.prog 186 (Ww N):=A3 (Am6 N) follows
def Mp (N:Nat) (r0:Bool→O R) (b:LA) (a:Nat) (c d:Bool) (k0:Int→O R) (e:Int):O R :=
 (cond (decide (e<((a:Nat):Int))) (cond (Aj e a) (rdI .i64 (b.drop ((e.toNat)*1)) fun f=>(cond (Aj (wrap .i64 (e - 1)) a) (rdI .i64 (b.drop (((wrap .i64 (e - 1)).toNat)*1)) fun g=>(cond (decide (f≤g)) (r0 false) (k0 (wrap .i64 (e+1))))) none)) none) (r0 true))
def F5 (r0:Bool→O R) (b:LA) (a:Nat) (c d:Bool):Nat→Int→O R
 | 0,_=>none
 | n+1,e=>(Mp N r0 b a c d (F5 r0 b a c d n) e)
def Ad9 (N:Nat) (r0:Bool→O R) (q0:Int→O R) (b:LA) (a:Nat) (c d:Bool):O R :=
 (q0 1)
def Mq:=(Ak (fun (N:Nat) (b:LA) (a:Nat) (c d:Bool) (r0:Bool→O R)=>(Ad9 N r0 (fun e=>(F5 N r0 b a c d N e)) b a c d))).1
theorem Aru (b a c d r0):(@Mq R N b a c d r0)=(Ad9 N r0 (fun e=>(F5 N r0 b a c d N e)) b a c d):=by rw[Mq,(Ak _).2]
def Axj:Hints:={ H:=(hS hL (hS (hS hL (hS (hP [0,3] hL) hL)) hL)) }
def Bn8 (F:KF R):=atM Tryz.f189 Axj [] [] N F
def Oh (F:KF R):Bool→O R:=(fun i=>F (.bool i) [])
def Bn9 (b:LA) (a:Nat) (c d:Bool) (e:Int):St:=⟨[(0,(.imm b a 1 c d)),(3,(.int .i64 e))],[]⟩
def Boa (F:KF R):=Bn8 N F [1,0,1,0] []
theorem Ahm (F:KF R) (b:LA) (a:Nat) (c d:Bool):∀ (n:Nat) (e:Int),As (Boa N F) n (Bn9 b a c d e)=(F5 N (Oh F) b a c d n e)
 | 0,_=>by kernel_rfl
 | n+1,e=>Eq.trans (by kernel_rfl) (cgA (Mp N (Oh F) b a c d · e) (funext fun e=>(Ahm F b a c d n e)):_)
theorem Axk (b:LA) (a:Nat) (c d:Bool) (F:KF R):exM [] Axj N 189 [(.imm b a 1 c d)] [] F=(Mq N b a c d (Oh F)):=by
 rw[Aru]
 exact Eq.trans (by kernel_rfl) (cgA (Ad9 N (Oh F) · b a c d) (funext fun e=>(Am ..).trans (Ahm N F b a c d N e)):_)
def Arv (args:List AV) (h:Al) (k:KF R):O R :=
 match args,h with
 | [(.imm b a 1 c d)],[]=>(Mq N b a c d (Oh k))
 | _,_=>none
theorem Axl:Aq N 189 @Arv:=by
 intro R Q args h k j;unfold Arv;split
 exact A0 (Axk ..) (Axk ..) trivial
 exact A2
def Afb:=A1 (Axl N)
theorem Axm:Ay Tryz.prog 189 (Afb N):=A3 (Axl N) follows
def Rl (r0:LA→O R) (g:LA) (l:Bool) (a:LA) (b:Nat) (m c:Bool) (d e f:Int) (i:LA):O R :=
 (rdI .i64 g fun n=>(Ar N 0 (wrap .i64 (n - 1)) a b false c (fun o=>(Aa N o d e f 3 i (fun p=>(Mq N a b false c (fun q=>(Aa N q d e f 11 p (fun r=>(r0 r))))))))))
def Eu:=(Ak (fun (N:Nat) (g:LA) (l:Bool) (a:LA) (b:Nat) (m c:Bool) (d e f:Int) (i:LA) (r0:LA→O R)=>(Rl N r0 g l a b m c d e f i))).1
theorem V1 (g l a b m c d e f i r0):(@Eu R N g l a b m c d e f i r0)=(Rl N r0 g l a b m c d e f i):=by rw[Eu,(Ak _).2]
def At1:Hints:={ H:=hL }
def Azx:Tbl:=[(156,Ce N),(155,Bc N),(189,Afb N)]
def Xt (F:KF R):LA→O R:=(fun s=>F (.tup []) [(100000,(bQ 0 s))])
theorem Xu (g:LA) (l:Bool) (a:LA) (b:Nat) (m c:Bool) (d e f:Int) (i:LA) (F:KF R):exM (Azx N) At1 N 187 [(.optr 100000 0),(.pagg g l),(.imm a b 1 m c),(.int .i64 d),(.int .i64 e),(.int .i64 f)] [(100000,(bQ 0 i))] F=(Eu N g l a b m c d e f i (Xt F)):=by
 rw[V1]
 kernel_rfl
def V3 (args:List AV) (h:Al) (k:KF R):O R :=
 match args,h with
 | [(.optr 100000 0),(.pagg g l),(.imm a b 1 m c),(.int .i64 d),(.int .i64 e),(.int .i64 f)],[(100000,⟨false,false,true,false,0,i,false⟩)]=>(Eu N g l a b m c d e f i (Xt k))
 | _,_=>none
theorem Xv:Aq N 187 @V3:=by
 intro R Q args h k j;unfold V3;split
 exact A0 (Xu ..) (Xu ..) ⟨Cw N,Bi N,Axm N,trivial⟩
 exact A2
def N0:=A1 (Xv N)
theorem Xw:Ay Tryz.prog 187 (N0 N):=A3 (Xv N) follows
end
end Gx

namespace Gx
open Go Go.Proofs
open IntKind (wrap)
set_option maxRecDepth 100000
noncomputable section
variable {R:Type} (N:Nat)
def F1 (r0:LA→O R) (a:Int) (i:LA) (m:Nat) (b:Bool) (k2:Int→Int→LA→O R) (q e:Int) (r:LA):O R :=
 (cond (decide (e<q)) (cond (Aj e m) (cond (Nat.ble 3 ((i.drop ((e.toNat)*3)).length)) (cond ((!b)||(Bb ((i.drop ((e.toNat)*3)).take 3))) (cond ((Nat.beq (((i.drop ((e.toNat)*3)).take 3).length) 3)&&((Nat.ble 3 3)&&(!false))) (rdI .i64 ((setCells [(.int .i64 0),(.int .i64 0),(.int .i64 0)] 0 ((i.drop ((e.toNat)*3)).take 3)).drop 1) fun y=>(rdI .i64 ((setCells [(.int .i64 0),(.int .i64 0),(.int .i64 0)] 0 ((i.drop ((e.toNat)*3)).take 3)).drop 2) fun z=>(Ar N 0 1048576 [(.int .i64 y),(.int .i64 z)] 2 false true (fun aa=>(Aa N aa 6 a 3 3 r (fun ab=>(k2 q (wrap .i64 (e+1)) ab))))))) none) none) none) none) (r0 r))
def Dh (r0:LA→O R) (a:Int) (i:LA) (m:Nat) (b:Bool):Nat→Int→Int→LA→O R
 | 0,_,_,_=>none
 | n+1,q,e,r=>(F1 N r0 a i m b (Dh r0 a i m b n) q e r)
def F2 (r0:LA→O R) (a:Int) (l:LA) (o:Nat) (b:Bool) (s c d:LA) (k1:Nat→Int→Int→LA→O R) (q2:LA→Nat→Int→Int→LA→O R) (f:Nat) (t g:Int) (p:LA):O R :=
 (cond (decide (g<t)) (cond (Aj g o) (cond (Nat.ble 3 ((l.drop ((g.toNat)*3)).length)) (cond ((!b)||(Bb ((l.drop ((g.toNat)*3)).take 3))) (cond ((Nat.beq (((l.drop ((g.toNat)*3)).take 3).length) 3)&&((Nat.ble 3 3)&&(!false))) (rdI .i64 (setCells [(.int .i64 0),(.int .i64 0),(.int .i64 0)] 0 ((l.drop ((g.toNat)*3)).take 3)) fun ac=>(cond ((Nat.ble (f+1) 140737488355328)&&(Nat.ble ((f+1)*8) 140737488355328)) (k1 (f+1) t (wrap .i64 (g+1)) ((p.take (f*1))++[(.int .i64 ac)])) none)) none) none) none) none) (rdL 22 (c.drop 4) fun bd ad=>(Ar N 0 (wrap .i64 (((ad:Nat):Int) - 1)) (p.take (f*1)) f false true (fun ae=>(Aa N ae 6 a 3 12 s (fun af=>(Mq N (p.take (f*1)) f false true (fun ag=>(Aa N ag 6 a 3 11 af (fun ah=>(rdL 3 (d.drop 3) fun i m=>(q2 i m ((m:Nat):Int) 0 ah))))))))))))
def Di (r0:LA→O R) (a:Int) (l:LA) (o:Nat) (b:Bool) (s c d:LA):Nat→Nat→Int→Int→LA→O R
 | 0,_,_,_,_=>none
 | n+1,f,t,g,p=>(F2 N r0 a l o b s c d (Di r0 a l o b s c d n) (fun i m q e r=>(Dh N r0 a i m b N q e r)) f t g p)
def Ke (r0:LA→O R) (a:Int) (b:Bool) (c:LA) (q1:LA→Nat→LA→Nat→Int→Int→LA→O R) (u d:LA):O R :=
 (rdL 3 (d.drop 3) fun be ai=>(Aa N (decide (((ai:Nat):Int)≤16)) 6 a 3 8 u (fun s=>(rdL 3 (d.drop 3) fun l o=>(q1 l o s 0 ((o:Nat):Int) 0 [])))))
def G3 (r0:LA→O R) (a:Int) (b:Bool) (c:LA) (u d:LA):O R:=(Ke N r0 a b c (fun l o s f t g p=>(Di N r0 a l o b s c d N f t g p)) u d)
def Iq (r0:LA→O R) (q0:LA→LA→O R) (c:LA) (b:Bool) (a:Int) (v:LA):O R :=
 (rdL 4 (c.drop 7) fun w aj=>(cond (Aj a aj) (cond (Nat.ble 4 ((w.drop ((a.toNat)*4)).length)) (cond ((Nat.beq 0 0)&&((Nat.beq (((w.drop ((a.toNat)*4)).take 4).length) 4)&&(Nat.beq 4 4))) (cond (Nat.ble 8 (c.length)) (B7 N (c.take 8) b 6 a v (fun ak=>(rdL 1 (((w.drop ((a.toNat)*4)).take 4).drop 1) fun bf al=>(Ar N 1 2 [(.int .i64 ((al:Nat):Int))] 1 false true (fun am=>(Aa N am 6 a 1 4 ak (fun an=>(rdL 12 (c.drop 3) fun bg ao=>(rdL 1 (((w.drop ((a.toNat)*4)).take 4).drop 1) fun ap aq=>(Ar N 0 (wrap .i64 (((ao:Nat):Int) - 1)) ap aq false b (fun ar=>(Aa N ar 6 a 1 12 an (fun au=>(rdL 1 (((w.drop ((a.toNat)*4)).take 4).drop 1) fun av aw=>(Mq N av aw false b (fun ax=>(Aa N ax 6 a 1 11 au (fun x=>(rdB (((w.drop ((a.toNat)*4)).take 4).drop 2) fun ay=>(cond (ay==false) (rdL 3 (((w.drop ((a.toNat)*4)).take 4).drop 3) fun bh az=>(Aa N (cond false true (((az:Nat):Int)==0)) 6 a 3 16 x (fun ba=>(q0 ba ((w.drop ((a.toNat)*4)).take 4))))) (Aa N true 6 a 3 16 x (fun bb=>(q0 bb ((w.drop ((a.toNat)*4)).take 4)))))))))))))))))))))))) none) none) none) none))
def Ev:=(Ak (fun (N:Nat) (c:LA) (b:Bool) (a:Int) (v:LA) (r0:LA→O R)=>(Iq N r0 (fun u d=>(G3 N r0 a b c u d)) c b a v))).1
theorem Rm (c b a v r0):(@Ev R N c b a v r0)=(Iq N r0 (fun u d=>(G3 N r0 a b c u d)) c b a v):=by rw[Ev,(Ak _).2]
def Sb:Hints:={ H:=(hS hL (hS hL (hS hL (hS hL (hS hL (hS hL (hJ [0,2,4,6,7] hL (hS hL (hS hL (hS (hS hL (hS (hP [0,2,4,6,7,8,71,72,73] hL) hL)) (hS hL (hS hL (hS hL (hS (hP [0,2,7,100,101,102] hL) hL)))))))))))))),nils:=[(8,1)] }
def V4:Tbl:=[(153,De N),(156,Ce N),(155,Bc N),(189,Afb N)]
def Lg (F:KF R):=atM Tryz.f161 Sb (V4 N) [100000] N F
def Br (F:KF R):LA→O R:=(fun bc=>F (.tup []) [(100000,(bQ 0 bc))])
def Anr (a:Int) (i:LA) (m:Nat) (b:Bool) (q e:Int) (r:LA):St:=⟨[(0,(.optr 100000 0)),(2,(.int .i64 a)),(7,(.int .i64 6)),(100,(.imm i m 3 false b)),(101,(.int .i64 q)),(102,(.int .i64 e))],[(100000,(bQ 0 r))]⟩
def Ans (F:KF R):=Lg N F [1,1,1,1,1,1,1,1,1,1,1,1,1,0] []
def Ant (a:Int) (l:LA) (o:Nat) (b:Bool) (s c d:LA) (f:Nat) (t g:Int) (p:LA):St:=⟨[(0,(.optr 100000 0)),(2,(.int .i64 a)),(4,(.optr 300000 0)),(6,(.optr 300001 0)),(7,(.int .i64 6)),(8,(.own 300002 0 f)),(71,(.imm l o 3 false b)),(72,(.int .i64 t)),(73,(.int .i64 g))],[(100000,(bQ 0 s)),(300000,(bP b 0 c)),(300001,(bP b 0 d)),(300002,(bQ 1 p))]⟩
def Anu (F:KF R):=Lg N F [1,1,1,1,1,1,1,1,1,0,1,0] []
def Anv (a:Int) (b:Bool) (c u d:LA):St:=⟨[(0,(.optr 100000 0)),(2,(.int .i64 a)),(4,(.optr 300000 0)),(6,(.optr 300001 0)),(7,(.int .i64 6))],[(100000,(bQ 0 u)),(300000,(bP b 0 c)),(300001,(bP b 0 d))]⟩
def Anw (F:KF R):=Lg N F [1,1,1,1,1,1,1] []
theorem Oi (F:KF R) (a:Int) (i:LA) (m:Nat) (b:Bool):∀ (n:Nat) (q e:Int) (r:LA),As (Ans N F) n (Anr a i m b q e r)=(Dh N (Br F) a i m b n q e r)
 | 0,_,_,_=>by kernel_rfl
 | n+1,q,e,r=>Eq.trans (by kernel_rfl) (cgA (F1 N (Br F) a i m b · q e r) (funext fun q=>funext fun e=>funext fun r=>(Oi F a i m b n q e r)):_)
theorem Oj (F:KF R) (a:Int) (l:LA) (o:Nat) (b:Bool) (s c d:LA):∀ (n f:Nat) (t g:Int) (p:LA),As (Anu N F) n (Ant a l o b s c d f t g p)=(Di N (Br F) a l o b s c d n f t g p)
 | 0,_,_,_,_=>by kernel_rfl
 | n+1,f,t,g,p=>Eq.trans (by kernel_rfl) (cgB (F2 N (Br F) a l o b s c d · · f t g p) (funext fun f=>funext fun t=>funext fun g=>funext fun p=>(Oj F a l o b s c d n f t g p)) (funext fun i=>funext fun m=>funext fun q=>funext fun e=>funext fun r=>(Am ..).trans (Oi N F a i m b N q e r)):_)
theorem Afc (F:KF R) (a:Int) (b:Bool) (c:LA):∀ (u d:LA),Bh (Anw N F) (Anv a b c u d)=(G3 N (Br F) a b c u d):=by
 intro u d
 exact Eq.trans (by kernel_rfl) (cgA (Ke N (Br F) a b c · u d) (funext fun l=>funext fun o=>funext fun s=>funext fun f=>funext fun t=>funext fun g=>funext fun p=>(Am ..).trans (Oj N F a l o b s c d N f t g p)):_)
theorem Sc (c:LA) (b:Bool) (a:Int) (v:LA) (F:KF R):exM (V4 N) Sb N 161 [(.optr 100000 0),(.pagg c b),(.int .i64 a)] [(100000,(bQ 0 v))] F=(Ev N c b a v (Br F)):=by
 rw[Rm]
 exact Eq.trans (by kernel_rfl) (cgA (Iq N (Br F) · c b a v) (funext fun u=>funext fun d=>(Au ..).trans (Afc N F a b c u d)):_)
def Rn (args:List AV) (h:Al) (k:KF R):O R :=
 match args,h with
 | [(.optr 100000 0),(.pagg c b),(.int .i64 a)],[(100000,⟨false,false,true,false,0,v,false⟩)]=>(Ev N c b a v (Br k))
 | _,_=>none
theorem Sd:Aq N 161 @Rn:=by
 intro R Q args h k j;unfold Rn;split
 exact A0 (Sc ..) (Sc ..) ⟨Ed N,Cw N,Bi N,Axm N,trivial⟩
 exact A2
def Se:=A1 (Sd N)
theorem Anx:Ay Tryz.prog 161 (Se N):=A3 (Sd N) follows
def Aea (N:Nat) (r0:Bool→O R) (b:LA) (a:Nat) (d e:Bool) (c:Int) (k0:Int→O R) (f:Int):O R :=
 (cond (decide (f<((a:Nat):Int))) (cond (Aj f a) (rdI .i64 (b.drop ((f.toNat)*1)) fun g=>(cond (g==c) (r0 true) (k0 (wrap .i64 (f+1))))) none) (r0 false))
def Pc (r0:Bool→O R) (b:LA) (a:Nat) (d e:Bool) (c:Int):Nat→Int→O R
 | 0,_=>none
 | n+1,f=>(Aea N r0 b a d e c (Pc r0 b a d e c n) f)
def A4d (N:Nat) (r0:Bool→O R) (q0:Int→O R) (b:LA) (a:Nat) (d e:Bool) (c:Int):O R :=
 (q0 0)
def Aeb:=(Ak (fun (N:Nat) (b:LA) (a:Nat) (d e:Bool) (c:Int) (r0:Bool→O R)=>(A4d N r0 (fun f=>(Pc N r0 b a d e c N f)) b a d e c))).1
theorem Bb3 (b a d e c r0):(@Aeb R N b a d e c r0)=(A4d N r0 (fun f=>(Pc N r0 b a d e c N f)) b a d e c):=by rw[Aeb,(Ak _).2]
def Bld:Hints:={ H:=(hS hL (hS (hS hL (hS (hP [0,1,5] hL) hL)) hL)) }
def B1u (F:KF R):=atM Tryz.f163 Bld [] [] N F
def Abl (F:KF R):Bool→O R:=(fun i=>F (.bool i) [])
def B1v (b:LA) (a:Nat) (d e:Bool) (c f:Int):St:=⟨[(0,(.imm b a 1 d e)),(1,(.int .i64 c)),(5,(.int .i64 f))],[]⟩
def B1w (F:KF R):=B1u N F [1,0,1,0] []
theorem Axn (F:KF R) (b:LA) (a:Nat) (d e:Bool) (c:Int):∀ (n:Nat) (f:Int),As (B1w N F) n (B1v b a d e c f)=(Pc N (Abl F) b a d e c n f)
 | 0,_=>by kernel_rfl
 | n+1,f=>Eq.trans (by kernel_rfl) (cgA (Aea N (Abl F) b a d e c · f) (funext fun f=>(Axn F b a d e c n f)):_)
theorem Ble (b:LA) (a:Nat) (d e:Bool) (c:Int) (F:KF R):exM [] Bld N 163 [(.imm b a 1 d e),(.int .i64 c)] [] F=(Aeb N b a d e c (Abl F)):=by
 rw[Bb3]
 exact Eq.trans (by kernel_rfl) (cgA (A4d N (Abl F) · b a d e c) (funext fun f=>(Am ..).trans (Axn N F b a d e c N f)):_)
def Bb4 (args:List AV) (h:Al) (k:KF R):O R :=
 match args,h with
 | [(.imm b a 1 d e),(.int .i64 c)],[]=>(Aeb N b a d e c (Abl k))
 | _,_=>none
theorem Blf:Aq N 163 @Bb4:=by
 intro R Q args h k j;unfold Bb4;split
 exact A0 (Ble ..) (Ble ..) trivial
 exact A2
def Ake:=A1 (Blf N)
theorem Azy:Ay Tryz.prog 163 (Ake N):=A3 (Blf N) follows
def Lu (r0:Nat→LA→O R) (b:Int) (c:Bool) (a:LA) (k0:Nat→Int→LA→O R) (d:Nat) (e:Int) (f:LA):O R :=
 (rdL 12 (a.drop 3) fun s g=>(cond (decide (e<((g:Nat):Int))) (rdL 12 (a.drop 3) fun i l=>(cond (Aj e l) (rdL 1 ((i.drop ((e.toNat)*12)).drop 11) fun m o=>(Aeb N m o false c b (fun p=>(cond (!p) (cond ((Nat.ble (d+1) 140737488355328)&&(Nat.ble ((d+1)*8) 140737488355328)) (k0 (d+1) (wrap .i64 (e+1)) ((f.take (d*1))++[(.int .i64 e)])) none) (k0 d (wrap .i64 (e+1)) f))))) none)) (r0 d f)))
def Ew (r0:Nat→LA→O R) (b:Int) (c:Bool) (a:LA):Nat→Nat→Int→LA→O R
 | 0,_,_,_=>none
 | n+1,d,e,f=>(Lu N r0 b c a (Ew r0 b c a n) d e f)
def Ro (N:Nat) (r0:Nat→LA→O R) (q0:Nat→Int→LA→O R) (a:LA) (c:Bool) (b:Int):O R :=
 (q0 0 0 [])
def Ld:=(Ak (fun (N:Nat) (a:LA) (c:Bool) (b:Int) (r0:Nat→LA→O R)=>(Ro N r0 (fun d e f=>(Ew N r0 b c a N d e f)) a c b))).1
theorem Aec (a c b r0):(@Ld R N a c b r0)=(Ro N r0 (fun d e f=>(Ew N r0 b c a N d e f)) a c b):=by rw[Ld,(Ak _).2]
def Ahn:Hints:={ H:=(hS hL (hS hL (hS (hS hL (hS (hP [1,2,5,6] hL) hL)) hL))),nils:=[(4,1),(5,1)],modes:=[(2,1)] }
def Am8:Tbl:=[(163,Ake N)]
def A7a (F:KF R):=atM Tryz.f190 Ahn (Am8 N) [] N F
def Jc (F:KF R):Nat→LA→O R:=(fun q r=>F (.own 300000 0 q) [(300000,(bQ 1 r))])
def A7b (b:Int) (c:Bool) (a:LA) (d:Nat) (e:Int) (f:LA):St:=⟨[(1,(.int .i64 b)),(2,(.optr 300000 0)),(5,(.own 300001 0 d)),(6,(.int .i64 e))],[(300000,(bP c 0 a)),(300001,(bQ 1 f))]⟩
def A7c (F:KF R):=A7a N F [1,1,0,1,0] []
theorem Xx (F:KF R) (b:Int) (c:Bool) (a:LA):∀ (n d:Nat) (e:Int) (f:LA),As (A7c N F) n (A7b b c a d e f)=(Ew N (Jc F) b c a n d e f)
 | 0,_,_,_=>by kernel_rfl
 | n+1,d,e,f=>Eq.trans (by kernel_rfl) (cgA (Lu N (Jc F) b c a · d e f) (funext fun d=>funext fun e=>funext fun f=>(Xx F b c a n d e f)):_)
theorem Aho (a:LA) (c:Bool) (b:Int) (F:KF R):exM (Am8 N) Ahn N 190 [(.pagg a c),(.int .i64 b)] [] F=(Ld N a c b (Jc F)):=by
 rw[Aec]
 exact Eq.trans (by kernel_rfl) (cgA (Ro N (Jc F) · a c b) (funext fun d=>funext fun e=>funext fun f=>(Am ..).trans (Xx N F b c a N d e f)):_)
def Aed (args:List AV) (h:Al) (k:KF R):O R :=
 match args,h with
 | [(.pagg a c),(.int .i64 b)],[]=>(Ld N a c b (Jc k))
 | _,_=>none
theorem Ahp:Aq N 190 @Aed:=by
 intro R Q args h k j;unfold Aed;split
 exact A0 (Aho ..) (Aho ..) ⟨Azy N,trivial⟩
 exact A2
def Ahq:=A1 (Ahp N)
theorem A7d:Ay Tryz.prog 190 (Ahq N):=A3 (Ahp N) follows
def Uy (N:Nat) (r0:Nat→Nat→LA→LA→O R) (c:Nat) (b:Bool) (a f:LA) (k0:Nat→Int→Int→LA→O R) (d:Nat) (g e:Int) (i:LA):O R :=
 (cond (decide (e<g)) (cond (Aj e c) (rdI .i64 (f.drop (0+((e.toNat)*1))) fun m=>(rdL 12 (a.drop 3) fun o p=>(cond (Aj m p) (rdI .i64 ((o.drop ((m.toNat)*12)).drop 1) fun q=>(rdL 12 (a.drop 3) fun r s=>(cond (Aj m s) (rdI .i64 ((r.drop ((m.toNat)*12)).drop 2) fun t=>(cond ((Nat.ble (d+1) 140737488355328)&&(Nat.ble ((d+1)*16) 140737488355328)) (k0 (d+1) g (wrap .i64 (e+1)) ((i.take (d*2))++[(.int .i64 q),(.int .i64 t)])) none)) none))) none))) none) (r0 d c i f))
def Kf (r0:Nat→Nat→LA→LA→O R) (c:Nat) (b:Bool) (a f:LA):Nat→Nat→Int→Int→LA→O R
 | 0,_,_,_,_=>none
 | n+1,d,g,e,i=>(Uy N r0 c b a f (Kf r0 c b a f n) d g e i)
def Akf (r0:Nat→Nat→LA→LA→O R) (q0:Nat→LA→Nat→Int→Int→LA→O R) (a:LA) (b:Bool) (l:Int):O R :=
 (cond (Nat.ble 8 (a.length)) (Ld N (a.take 8) b l (fun c f=>(q0 c f 0 ((c:Nat):Int) 0 []))) none)
def Ze:=(Ak (fun (N:Nat) (a:LA) (b:Bool) (l:Int) (r0:Nat→Nat→LA→LA→O R)=>(Akf N r0 (fun c f d g e i=>(Kf N r0 c b a f N d g e i)) a b l))).1
theorem Axo (a b l r0):(@Ze R N a b l r0)=(Akf N r0 (fun c f d g e i=>(Kf N r0 c b a f N d g e i)) a b l):=by rw[Ze,(Ak _).2]
def A4e:Hints:={ H:=(hS hL (hS hL (hS hL (hS (hS hL (hS (hP [2,6,7,13,14,15] hL) hL)) hL)))),nils:=[(4,2),(5,1),(7,2)],modes:=[(2,2),(2,1)] }
def Bb5:Tbl:=[(190,Ahq N)]
def Bt7 (F:KF R):=atM Tryz.f162 A4e (Bb5 N) [] N F
def Rp (F:KF R):Nat→Nat→LA→LA→O R:=(fun u v w x=>F (.tup [(.own 300000 0 u),(.own 300001 0 v)]) [(300000,(bQ 2 w)),(300001,(bQ 1 x))])
def Bt8 (c:Nat) (b:Bool) (a f:LA) (d:Nat) (g e:Int) (i:LA):St:=⟨[(2,(.optr 300000 0)),(6,(.own 300001 0 c)),(7,(.own 300002 0 d)),(13,(.own 300001 0 c)),(14,(.int .i64 g)),(15,(.int .i64 e))],[(300000,(bP b 0 a)),(300001,(bQ 1 f)),(300002,(bQ 2 i))]⟩
def Bt9 (F:KF R):=Bt7 N F [1,1,1,0,1,0] []
theorem Am9 (F:KF R) (c:Nat) (b:Bool) (a f:LA):∀ (n d:Nat) (g e:Int) (i:LA),As (Bt9 N F) n (Bt8 c b a f d g e i)=(Kf N (Rp F) c b a f n d g e i)
 | 0,_,_,_,_=>by kernel_rfl
 | n+1,d,g,e,i=>Eq.trans (by kernel_rfl) (cgA (Uy N (Rp F) c b a f · d g e i) (funext fun d=>funext fun g=>funext fun e=>funext fun i=>(Am9 F c b a f n d g e i)):_)
theorem A4f (a:LA) (b:Bool) (l:Int) (F:KF R):exM (Bb5 N) A4e N 162 [(.pagg a b),(.int .i64 l)] [] F=(Ze N a b l (Rp F)):=by
 rw[Axo]
 exact Eq.trans (by kernel_rfl) (cgA (Akf N (Rp F) · a b l) (funext fun c=>funext fun f=>funext fun d=>funext fun g=>funext fun e=>funext fun i=>(Am ..).trans (Am9 N F c b a f N d g e i)):_)
def Axp (args:List AV) (h:Al) (k:KF R):O R :=
 match args,h with
 | [(.pagg a b),(.int .i64 l)],[]=>(Ze N a b l (Rp k))
 | _,_=>none
theorem A4g:Aq N 162 @Axp:=by
 intro R Q args h k j;unfold Axp;split
 exact A0 (A4f ..) (A4f ..) ⟨A7d N,trivial⟩
 exact A2
def A4h:=A1 (A4g N)
theorem Bua:Ay Tryz.prog 162 (A4h N):=A3 (A4g N) follows
def Oz (N:Nat) (k1:Bool→LA→O R) (r0:Nat→LA→O R) (a:LA) (c:Nat) (e d:Bool) (b:Nat) (k2:Bool→Int→Int→LA→O R) (r:Bool) (o f:Int) (i:LA):O R :=
 (cond (decide (f<o)) (cond (Aj f c) (cond (Nat.ble 2 ((a.drop ((f.toNat)*2)).length)) (cond ((!d)||(Bb ((a.drop ((f.toNat)*2)).take 2))) (cond ((Nat.beq (((a.drop ((f.toNat)*2)).take 2).length) 2)&&((Nat.ble 2 2)&&(!false))) (rdI .i64 (setCells [(.int .i64 0),(.int .i64 0)] 0 ((a.drop ((f.toNat)*2)).take 2)) fun aa=>(cond (Aj aa b) (rdI .i64 (i.drop (0+((aa.toNat)*1))) fun s=>(rdI .i64 ((setCells [(.int .i64 0),(.int .i64 0)] 0 ((a.drop ((f.toNat)*2)).take 2)).drop 1) fun ab=>(cond (Aj ab b) (rdI .i64 (i.drop (0+((ab.toNat)*1))) fun t=>(cond (r==false) (rdI .i64 (setCells [(.int .i64 0),(.int .i64 0)] 0 ((a.drop ((f.toNat)*2)).take 2)) fun ac=>(cond (Aj ac b) (rdI .i64 (i.drop (0+((ac.toNat)*1))) fun ae=>(cond ((cond false true (ae != (Fe s t)))==false) (rdI .i64 ((setCells [(.int .i64 0),(.int .i64 0)] 0 ((a.drop ((f.toNat)*2)).take 2)).drop 1) fun ad=>(cond (Aj ad b) (rdI .i64 (i.drop (0+((ad.toNat)*1))) fun af=>(rdI .i64 (setCells [(.int .i64 0),(.int .i64 0)] 0 ((a.drop ((f.toNat)*2)).take 2)) fun u=>(rdI .i64 ((setCells [(.int .i64 0),(.int .i64 0)] 0 ((a.drop ((f.toNat)*2)).take 2)).drop 1) fun x=>(cond (Aj u b) (cond ((Nat.beq 1 1)&&((Nat.ble ((0+((u.toNat)*1))+1) (i.length))&&(!false))) (cond (Aj x b) (cond ((Nat.beq 1 1)&&((Nat.ble ((0+((x.toNat)*1))+1) ((i.set (0+((u.toNat)*1)) (.int .i64 (Fe s t))).length))&&(!false))) (k2 (cond false true (af != (Fe s t))) o (wrap .i64 (f+1)) ((i.set (0+((u.toNat)*1)) (.int .i64 (Fe s t))).set (0+((x.toNat)*1)) (.int .i64 (Fe s t)))) none) none) none) none)))) none)) (rdI .i64 (setCells [(.int .i64 0),(.int .i64 0)] 0 ((a.drop ((f.toNat)*2)).take 2)) fun v=>(rdI .i64 ((setCells [(.int .i64 0),(.int .i64 0)] 0 ((a.drop ((f.toNat)*2)).take 2)).drop 1) fun y=>(cond (Aj v b) (cond ((Nat.beq 1 1)&&((Nat.ble ((0+((v.toNat)*1))+1) (i.length))&&(!false))) (cond (Aj y b) (cond ((Nat.beq 1 1)&&((Nat.ble ((0+((y.toNat)*1))+1) ((i.set (0+((v.toNat)*1)) (.int .i64 (Fe s t))).length))&&(!false))) (k2 true o (wrap .i64 (f+1)) ((i.set (0+((v.toNat)*1)) (.int .i64 (Fe s t))).set (0+((y.toNat)*1)) (.int .i64 (Fe s t)))) none) none) none) none))))) none)) (rdI .i64 (setCells [(.int .i64 0),(.int .i64 0)] 0 ((a.drop ((f.toNat)*2)).take 2)) fun w=>(rdI .i64 ((setCells [(.int .i64 0),(.int .i64 0)] 0 ((a.drop ((f.toNat)*2)).take 2)).drop 1) fun z=>(cond (Aj w b) (cond ((Nat.beq 1 1)&&((Nat.ble ((0+((w.toNat)*1))+1) (i.length))&&(!false))) (cond (Aj z b) (cond ((Nat.beq 1 1)&&((Nat.ble ((0+((z.toNat)*1))+1) ((i.set (0+((w.toNat)*1)) (.int .i64 (Fe s t))).length))&&(!false))) (k2 true o (wrap .i64 (f+1)) ((i.set (0+((w.toNat)*1)) (.int .i64 (Fe s t))).set (0+((z.toNat)*1)) (.int .i64 (Fe s t)))) none) none) none) none))))) none))) none)) none) none) none) none) (k1 r i))
def Gy (k1:Bool→LA→O R) (r0:Nat→LA→O R) (a:LA) (c:Nat) (e d:Bool) (b:Nat):Nat→Bool→Int→Int→LA→O R
 | 0,_,_,_,_=>none
 | n+1,r,o,f,i=>(Oz N k1 r0 a c e d b (Gy k1 r0 a c e d b n) r o f i)
def O0 (N:Nat) (r0:Nat→LA→O R) (a:LA) (c:Nat) (e d:Bool) (b:Nat) (k1:Bool→LA→O R) (q2:Bool→Int→Int→LA→O R) (p:Bool) (m:LA):O R :=
 (cond p (q2 false ((c:Nat):Int) 0 m) (r0 b m))
def Cx (r0:Nat→LA→O R) (a:LA) (c:Nat) (e d:Bool) (b:Nat):Nat→Bool→LA→O R
 | 0,_,_=>none
 | n+1,p,m=>(O0 N r0 a c e d b (Cx r0 a c e d b n) (fun r o f i=>(Gy N (Cx r0 a c e d b n) r0 a c e d b N r o f i)) p m)
def O1 (N:Nat) (r0:Nat→LA→O R) (g:Int) (a:LA) (c:Nat) (e d:Bool) (k0:Nat→Int→LA→O R) (q1:Bool→LA→O R) (b:Nat) (l:Int) (q:LA):O R :=
 (cond (decide (l<g)) (cond (Aj l b) (cond ((Nat.beq 1 1)&&((Nat.ble ((0+((l.toNat)*1))+1) (q.length))&&(!false))) (k0 b (wrap .i64 (l+1)) (q.set (0+((l.toNat)*1)) (.int .i64 l))) none) none) (q1 true q))
def Gz (r0:Nat→LA→O R) (g:Int) (a:LA) (c:Nat) (e d:Bool):Nat→Nat→Int→LA→O R
 | 0,_,_,_=>none
 | n+1,b,l,q=>(O1 N r0 g a c e d (Gz r0 g a c e d n) (fun p m=>(Cx N r0 a c e d b N p m)) b l q)
def Yz (N:Nat) (r0:Nat→LA→O R) (q0:Nat→Int→LA→O R) (g:Int) (a:LA) (c:Nat) (e d:Bool):O R :=
 (cond ((decide (0≤g))&&((decide (g≤g))&&((decide (g≤140737488355328))&&(decide ((g*((8:Nat):Int))≤140737488355328))))) (q0 (g.toNat) 0 (List.replicate (g.toNat) (.int .i64 0))) none)
def Mr:=(Ak (fun (N:Nat) (g:Int) (a:LA) (c:Nat) (e d:Bool) (r0:Nat→LA→O R)=>(Yz N r0 (fun b l q=>(Gz N r0 g a c e d N b l q)) g a c e d))).1
theorem Ana (g a c e d r0):(@Mr R N g a c e d r0)=(Yz N r0 (fun b l q=>(Gz N r0 g a c e d N b l q)) g a c e d):=by rw[Mr,(Ak _).2]
def Arw:Hints:={ H:=(hS hL (hS hL (hS (hS hL (hS (hP [0,1,5,6] hL) hL)) (hS (hS hL (hS (hP [1,5,7] (hS hL (hS (hS hL (hS hL (hS (hP [1,5,7,23,24,25] hL) hL))) hL))) hL)) hL)))),nils:=[(4,1)],modes:=[(2,1)] }
def Abm (F:KF R):=atM Tryz.f192 Arw [] [] N F
def Do (F:KF R):Nat→LA→O R:=(fun ag ah=>F (.own 300000 0 ag) [(300000,(bQ 1 ah))])
def Blg (a:LA) (c:Nat) (e d:Bool) (b:Nat) (r:Bool) (o f:Int) (i:LA):St:=⟨[(1,(.imm a c 2 e d)),(5,(.own 300000 0 b)),(7,(.bool r)),(23,(.imm a c 2 e d)),(24,(.int .i64 o)),(25,(.int .i64 f))],[(300000,(bQ 1 i))]⟩
def Blh (F:KF R) (Q1:St→O R):=Abm N F [1,1,1,0,1,0,0,1,0,1,1,0] [Q1]
def Abn (a:LA) (c:Nat) (e d:Bool) (b:Nat) (p:Bool) (m:LA):St:=⟨[(1,(.imm a c 2 e d)),(5,(.own 300000 0 b)),(7,(.bool p))],[(300000,(bQ 1 m))]⟩
def Arx (F:KF R):=Abm N F [1,1,1,0,1,0] []
def Bli (g:Int) (a:LA) (c:Nat) (e d:Bool) (b:Nat) (l:Int) (q:LA):St:=⟨[(0,(.int .i64 g)),(1,(.imm a c 2 e d)),(5,(.own 300000 0 b)),(6,(.int .i64 l))],[(300000,(bQ 1 q))]⟩
def Blj (F:KF R):=Abm N F [1,1,0,1,0] []
theorem Aee (Q1:St→O R) (F:KF R) (a:LA) (c:Nat) (e d:Bool) (b:Nat):∀ (n:Nat) (r:Bool) (o f:Int) (i:LA),As (Blh N F Q1) n (Blg a c e d b r o f i)=(Gy N (fun p m=>Q1 (Abn a c e d b p m)) (Do F) a c e d b n r o f i)
 | 0,_,_,_,_=>by kernel_rfl
 | n+1,r,o,f,i=>Eq.trans (by kernel_rfl) (cgA (Oz N (fun p m=>Q1 (Abn a c e d b p m)) (Do F) a c e d b · r o f i) (funext fun r=>funext fun o=>funext fun f=>funext fun i=>(Aee Q1 F a c e d b n r o f i)):_)
theorem Aef (F:KF R) (a:LA) (c:Nat) (e d:Bool) (b:Nat):∀ (n:Nat) (p:Bool) (m:LA),As (Arx N F) n (Abn a c e d b p m)=(Cx N (Do F) a c e d b n p m)
 | 0,_,_=>by kernel_rfl
 | n+1,p,m=>have e0:=(funext fun p=>funext fun m=>(Aef F a c e d b n p m))
  Eq.trans (by kernel_rfl) (cgB (O0 N (Do F) a c e d b · · p m) e0 (funext fun r=>funext fun o=>funext fun f=>funext fun i=>(Am ..).trans ((Aee N (As (Arx N F) n) F a c e d b N r o f i).trans (cgA (Gy N · (Do F) a c e d b N r o f i) e0))):_)
theorem Aeg (F:KF R) (g:Int) (a:LA) (c:Nat) (e d:Bool):∀ (n b:Nat) (l:Int) (q:LA),As (Blj N F) n (Bli g a c e d b l q)=(Gz N (Do F) g a c e d n b l q)
 | 0,_,_,_=>by kernel_rfl
 | n+1,b,l,q=>Eq.trans (by kernel_rfl) (cgB (O1 N (Do F) g a c e d · · b l q) (funext fun b=>funext fun l=>funext fun q=>(Aeg F g a c e d n b l q)) (funext fun p=>funext fun m=>(Am ..).trans (Aef N F a c e d b N p m)):_)
theorem Ary (g:Int) (a:LA) (c:Nat) (e d:Bool) (F:KF R):exM [] Arw N 192 [(.int .i64 g),(.imm a c 2 e d)] [] F=(Mr N g a c e d (Do F)):=by
 rw[Ana]
 exact Eq.trans (by kernel_rfl) (cgA (Yz N (Do F) · g a c e d) (funext fun b=>funext fun l=>funext fun q=>(Am ..).trans (Aeg N F g a c e d N b l q)):_)
def Anb (args:List AV) (h:Al) (k:KF R):O R :=
 match args,h with
 | [(.int .i64 g),(.imm a c 2 e d)],[]=>(Mr N g a c e d (Do k))
 | _,_=>none
theorem Arz:Aq N 192 @Anb:=by
 intro R Q args h k j;unfold Anb;split
 exact A0 (Ary ..) (Ary ..) trivial
 exact A2
def Ar0:=A1 (Arz N)
theorem Bll:Ay Tryz.prog 192 (Ar0 N):=A3 (Arz N) follows
def Uz (N:Nat) (r0:Int→O R) (b:LA) (a:Nat) (c d:Bool) (k0:Int→Int→O R) (f e:Int):O R :=
 (cond (decide (e<((a:Nat):Int))) (cond (Aj e a) (rdI .i64 (b.drop ((e.toNat)*1)) fun g=>(cond (g==e) (k0 (wrap .i64 (f+1)) (wrap .i64 (e+1))) (k0 f (wrap .i64 (e+1))))) none) (r0 f))
def Kg (r0:Int→O R) (b:LA) (a:Nat) (c d:Bool):Nat→Int→Int→O R
 | 0,_,_=>none
 | n+1,f,e=>(Uz N r0 b a c d (Kg r0 b a c d n) f e)
def Akg (N:Nat) (r0:Int→O R) (q0:Int→Int→O R) (b:LA) (a:Nat) (c d:Bool):O R :=
 (q0 0 0)
def Tx:=(Ak (fun (N:Nat) (b:LA) (a:Nat) (c d:Bool) (r0:Int→O R)=>(Akg N r0 (fun f e=>(Kg N r0 b a c d N f e)) b a c d))).1
theorem Axq (b a c d r0):(@Tx R N b a c d r0)=(Akg N r0 (fun f e=>(Kg N r0 b a c d N f e)) b a c d):=by rw[Tx,(Ak _).2]
def A4i:Hints:={ H:=(hS hL (hS hL (hS (hS hL (hS (hP [0,3,4] hL) hL)) hL))) }
def Bub (F:KF R):=atM Tryz.f191 A4i [] [] N F
def Rq (F:KF R):Int→O R:=(fun i=>F (.int .i64 i) [])
def Buc (b:LA) (a:Nat) (c d:Bool) (f e:Int):St:=⟨[(0,(.imm b a 1 c d)),(3,(.int .i64 f)),(4,(.int .i64 e))],[]⟩
def Bud (F:KF R):=Bub N F [1,1,0,1,0] []
theorem Anc (F:KF R) (b:LA) (a:Nat) (c d:Bool):∀ (n:Nat) (f e:Int),As (Bud N F) n (Buc b a c d f e)=(Kg N (Rq F) b a c d n f e)
 | 0,_,_=>by kernel_rfl
 | n+1,f,e=>Eq.trans (by kernel_rfl) (cgA (Uz N (Rq F) b a c d · f e) (funext fun f=>funext fun e=>(Anc F b a c d n f e)):_)
theorem A4j (b:LA) (a:Nat) (c d:Bool) (F:KF R):exM [] A4i N 191 [(.imm b a 1 c d)] [] F=(Tx N b a c d (Rq F)):=by
 rw[Axq]
 exact Eq.trans (by kernel_rfl) (cgA (Akg N (Rq F) · b a c d) (funext fun f=>funext fun e=>(Am ..).trans (Anc N F b a c d N f e)):_)
def Axr (args:List AV) (h:Al) (k:KF R):O R :=
 match args,h with
 | [(.imm b a 1 c d)],[]=>(Tx N b a c d (Rq k))
 | _,_=>none
theorem A4k:Aq N 191 @Axr:=by
 intro R Q args h k j;unfold Axr;split
 exact A0 (A4j ..) (A4j ..) trivial
 exact A2
def A4l:=A1 (A4k N)
theorem Bue:Ay Tryz.prog 191 (A4l N):=A3 (A4k N) follows
def Lv (r0:Bool→O R) (c:Int) (a:LA) (b:Nat) (l d:Bool) (e:LA) (f:Nat) (m g:Bool) (k0:Nat→Int→LA→O R) (o:Nat) (i:Int) (p:LA):O R :=
 (cond (decide (i<((b:Nat):Int))) (Aeb N e f false g i (fun s=>(cond (!s) (cond (Aj i b) (cond (Nat.ble 2 ((a.drop ((i.toNat)*2)).length)) (cond ((!d)||(Bb ((a.drop ((i.toNat)*2)).take 2))) (cond ((Nat.beq (((a.drop ((i.toNat)*2)).take 2).length) 2)&&(Nat.ble 2 2)) (cond ((Nat.ble (o+1) 140737488355328)&&(Nat.ble ((o+1)*16) 140737488355328)) (k0 (o+1) (wrap .i64 (i+1)) ((p.take (o*2))++((setCells [(.int .i64 0),(.int .i64 0)] 0 ((a.drop ((i.toNat)*2)).take 2)).take 2))) none) none) none) none) none) (k0 o (wrap .i64 (i+1)) p)))) (Mr N c (p.take (o*2)) o false true (fun q t=>(Tx N (t.take (q*1)) q false true (fun u=>(Mr N c a b false d (fun r v=>(Tx N (v.take (r*1)) r false true (fun w=>(r0 (decide (u>w))))))))))))
def Ex (r0:Bool→O R) (c:Int) (a:LA) (b:Nat) (l d:Bool) (e:LA) (f:Nat) (m g:Bool):Nat→Nat→Int→LA→O R
 | 0,_,_,_=>none
 | n+1,o,i,p=>(Lv N r0 c a b l d e f m g (Ex r0 c a b l d e f m g n) o i p)
def Rr (N:Nat) (r0:Bool→O R) (q0:Nat→Int→LA→O R) (c:Int) (a:LA) (b:Nat) (l d:Bool) (e:LA) (f:Nat) (m g:Bool):O R :=
 (q0 0 0 [])
def Le:=(Ak (fun (N:Nat) (c:Int) (a:LA) (b:Nat) (l d:Bool) (e:LA) (f:Nat) (m g:Bool) (r0:Bool→O R)=>(Rr N r0 (fun o i p=>(Ex N r0 c a b l d e f m g N o i p)) c a b l d e f m g))).1
theorem Aeh (c a b l d e f m g r0):(@Le R N c a b l d e f m g r0)=(Rr N r0 (fun o i p=>(Ex N r0 c a b l d e f m g N o i p)) c a b l d e f m g):=by rw[Le,(Ak _).2]
def Ahr:Hints:={ H:=(hS hL (hS hL (hS (hS hL (hS (hP [0,1,2,7,8] hL) hL)) hL))),nils:=[(7,2)] }
def And:Tbl:=[(163,Ake N),(192,Ar0 N),(191,A4l N)]
def A7e (F:KF R):=atM Tryz.f164 Ahr (And N) [] N F
def Jd (F:KF R):Bool→O R:=(fun x=>F (.bool x) [])
def A7f (c:Int) (a:LA) (b:Nat) (l d:Bool) (e:LA) (f:Nat) (m g:Bool) (o:Nat) (i:Int) (p:LA):St:=⟨[(0,(.int .i64 c)),(1,(.imm a b 2 l d)),(2,(.imm e f 1 m g)),(7,(.own 300000 0 o)),(8,(.int .i64 i))],[(300000,(bQ 2 p))]⟩
def A7g (F:KF R):=A7e N F [1,1,0,1,0] []
theorem Xy (F:KF R) (c:Int) (a:LA) (b:Nat) (l d:Bool) (e:LA) (f:Nat) (m g:Bool):∀ (n o:Nat) (i:Int) (p:LA),As (A7g N F) n (A7f c a b l d e f m g o i p)=(Ex N (Jd F) c a b l d e f m g n o i p)
 | 0,_,_,_=>by kernel_rfl
 | n+1,o,i,p=>Eq.trans (by kernel_rfl) (cgA (Lv N (Jd F) c a b l d e f m g · o i p) (funext fun o=>funext fun i=>funext fun p=>(Xy F c a b l d e f m g n o i p)):_)
theorem Ahs (c:Int) (a:LA) (b:Nat) (l d:Bool) (e:LA) (f:Nat) (m g:Bool) (F:KF R):exM (And N) Ahr N 164 [(.int .i64 c),(.imm a b 2 l d),(.imm e f 1 m g)] [] F=(Le N c a b l d e f m g (Jd F)):=by
 rw[Aeh]
 exact Eq.trans (by kernel_rfl) (cgA (Rr N (Jd F) · c a b l d e f m g) (funext fun o=>funext fun i=>funext fun p=>(Am ..).trans (Xy N F c a b l d e f m g N o i p)):_)
def Aei (args:List AV) (h:Al) (k:KF R):O R :=
 match args,h with
 | [(.int .i64 c),(.imm a b 2 l d),(.imm e f 1 m g)],[]=>(Le N c a b l d e f m g (Jd k))
 | _,_=>none
theorem Aht:Aq N 164 @Aei:=by
 intro R Q args h k j;unfold Aei;split
 exact A0 (Ahs ..) (Ahs ..) ⟨Azy N,Bll N,Bue N,trivial⟩
 exact A2
def Ahu:=A1 (Aht N)
theorem A7h:Ay Tryz.prog 164 (Ahu N):=A3 (Aht N) follows
end
end Gx

namespace Gx.Cf
open Go Go.Proofs
section
variable {R:Type}
def Pd (n N:Nat):Prop:=n<N∧n<4611686018427387904
theorem El {j:Nat} (h:j<4611686018427387904):IntKind.wrap .i64 ((j:Int)+1)=((j+1:Nat):Int):=by rw[Vc _ (by omega)];omega
theorem Blm {l:List Int} {j:Nat} (h:j<l.length) {f:Int→Option R}:rdI .i64 (List.drop ((Int.toNat (j:Int))*1) (Az l)) f=f l[j]:=by
 rw[Int.toNat_natCast,Nat.mul_one,Aq9 h]
theorem ltT {j n:Nat} (h:j<n):decide ((j:Int)<(n:Int))=true:=by simp;omega
theorem ltF {j n:Nat} (h:n≤j):decide ((j:Int)<(n:Int))=false:=by simp;omega
theorem F4 {α:Type} {l:List α} {j:Nat} (h:j<l.length):l.drop j=l[j]::l.drop (j+1):=List.drop_eq_getElem_cons h
theorem I8 {α:Type} {l:List α} {j:Nat} (h:l.length≤j):l.drop j=[]:=List.drop_eq_nil_of_le h
theorem Ahv {N:Nat} {lo hi:Int} {l:List Int} {t o:Bool} {K:Bool→Option R} (hs:l.length<4611686018427387904):∀ (m j fuel:Nat),j+m=l.length→m<fuel →
  Gv N K lo hi (Az l) l.length t o fuel (j:Int)=K ((l.drop j).all (btw lo hi))
 | 0,j,fuel+1,hj,_=>by
  rw[Gv];unfold Oy
  rw[ltF (by omega),cf,I8 (by omega)];rfl
 | m+1,j,fuel+1,hj,hf=>by
  rw[Gv];unfold Oy
  have h:j<l.length:=by omega
  rw[ltT h,ct,Ab h,ct,Blm h,ct,Blm h,El (by omega),Ahv hs m (j+1) fuel (by omega) (by omega),F4 h,List.all_cons]
  unfold btw
  by_cases h1:l[j]<lo
  ·have:¬ lo≤l[j]:=by omega
   simp[h1,this]
  ·have:lo≤l[j]:=by omega
   by_cases h2:l[j]>hi
   ·have:¬ l[j]≤hi:=by omega
    simp[h1,h2,this]
   ·have h3:l[j]≤hi:=by omega
    simp[h1,h2,this,h3]
theorem Gb {N:Nat} {lo hi:Int} {l:List Int} {n:Nat} {t o:Bool} {K:Bool→Option R} (hn:n=l.length) (hs:Pd l.length N):Ar N lo hi (Az l) n t o K=K (l.all (btw lo hi)):=by
 subst hn
 rw[Amw];unfold Yx
 have:=Ahv (R:=R) (N:=N) (lo:=lo) (hi:=hi) (t:=t) (o:=o) (K:=K) hs.2 l.length 0 N (by omega) hs.1
 simpa using this
theorem Dq {N:Nat} {lo hi a:Int} {t o:Bool} {K:Bool→Option R} (hN:8≤N):Ar N lo hi [.int .i64 a] 1 t o K=K (btw lo hi a):=by
 have:=Gb (R:=R) (N:=N) (lo:=lo) (hi:=hi) (l:=[a]) (t:=t) (o:=o) (K:=K) rfl ⟨by simp;omega,by simp⟩
 simpa[Az] using this
theorem Bdn {N:Nat} {lo hi a b:Int} {t o:Bool} {K:Bool→Option R} (hN:8≤N):Ar N lo hi [.int .i64 a,.int .i64 b] 2 t o K=K (btw lo hi a&&btw lo hi b):=by
 have:=Gb (R:=R) (N:=N) (lo:=lo) (hi:=hi) (l:=[a,b]) (t:=t) (o:=o) (K:=K) rfl ⟨by simp;omega,by simp⟩
 simpa[Az] using this
def asc:List Int→Bool
 | a::b::r=>decide (a<b)&&asc (b::r)
 | _=>true
theorem Ahw (a b:Int) (r:List Int):asc (a::b::r)=(decide (a<b)&&asc (b::r)):=by rw[asc]
theorem A4m (a:Int):asc [a]=true:=by rw[asc];intros;simp_all
theorem Buf:asc []=true:=by rw[asc];intros;simp_all
theorem Bln {j:Nat} (h:j+1<4611686018427387904):IntKind.wrap .i64 (((j+1:Nat):Int) - 1)=(j:Int):=by rw[Vc _ (by omega)];omega
theorem Ane {N:Nat} {l:List Int} {t o:Bool} {K:Bool→Option R} (hs:l.length<4611686018427387904):∀ (m j fuel:Nat),j+1+m=l.length→m<fuel →
  F5 N K (Az l) l.length t o fuel ((j+1:Nat):Int)=K (asc (l.drop j))
 | 0,j,fuel+1,hj,_=>by
  rw[F5];unfold Mp
  rw[ltF (by omega),cf,F4 (by omega),I8 (by omega),A4m]
 | m+1,j,fuel+1,hj,hf=>by
  rw[F5];unfold Mp
  have h:j+1<l.length:=by omega
  have h':j<l.length:=by omega
  rw[ltT h,ct,Ab h,ct,Blm h,Bln (by omega),Ab h',ct,Blm h',El (by omega),Ane hs m (j+1) fuel (by omega) (by omega),F4 h',F4 h,Ahw]
  by_cases h1:l[j+1]≤l[j]
  ·have:¬ l[j]<l[j+1]:=by omega
   simp[h1,this]
  ·have:l[j]<l[j+1]:=by omega
   simp[h1,this]
theorem Wx {N:Nat} {l:List Int} {n:Nat} {t o:Bool} {K:Bool→Option R} (hn:n=l.length) (hs:Pd l.length N):Mq N (Az l) n t o K=K (asc l):=by
 subst hn
 rw[Aru];unfold Ad9
 rcases l with _ | ⟨a,r⟩
 ·have hN:=hs.1
  rcases N with _ | N
  ·simp at hN
  ·dsimp only;rw[F5];unfold Mp;simp[Buf]
 ·have:=Ane (R:=R) (N:=N) (t:=t) (o:=o) (K:=K) hs.2 r.length 0 N (by simp;omega) (by have:=hs.1;simp at this;omega)
  simpa using this
theorem A4n {N:Nat} {v:Int} {l:List Int} {t o:Bool} {K:Bool→Option R} (hs:l.length<4611686018427387904):∀ (m j fuel:Nat),j+m=l.length→m<fuel →
  Pc N K (Az l) l.length t o v fuel (j:Int)=K ((l.drop j).contains v)
 | 0,j,fuel+1,hj,_=>by
  rw[Pc];unfold Aea
  rw[ltF (by omega),cf,I8 (by omega)];rfl
 | m+1,j,fuel+1,hj,hf=>by
  rw[Pc];unfold Aea
  have h:j<l.length:=by omega
  rw[ltT h,ct,Ab h,ct,Blm h,El (by omega),A4n hs m (j+1) fuel (by omega) (by omega),F4 h,List.contains_cons,BEq.comm]
  cases h1:v==l[j]<;>simp
theorem Akh {N:Nat} {v:Int} {l:List Int} {n:Nat} {t o:Bool} {K:Bool→Option R} (hn:n=l.length) (hs:Pd l.length N):Aeb N (Az l) n t o v K=K (l.contains v):=by
 subst hn
 rw[Bb3];unfold A4d
 have:=A4n (R:=R) (N:=N) (v:=v) (t:=t) (o:=o) (K:=K) hs.2 l.length 0 N (by omega) hs.1
 simpa using this
end
end Gx.Cf

namespace Gx.Cf
open Go Go.Proofs
section
variable {R:Type}
def G7:Err→Int
 | none=>0
 | some x=>x.2.1
theorem Ahx {c:CaseD} {f:Int→Option R}:rdI .i64 c.av f=f c.hours:=by simp[CaseD.av,Ax]
theorem B1x {c:CaseD} {f:List AV→Nat→Option R}:rdL 1 (List.drop 1 c.av) f=f (Az c.reserve.l) c.reserve.l.length:=by simp[CaseD.av,I7,F9]
theorem Rs {c:CaseD} {f:List AV→Nat→Option R}:rdL 3 (List.drop 2 c.av) f=f (c.buses.l.flatMap BusD.av) c.buses.l.length:=by simp[CaseD.av,I7]
theorem Ok {c:CaseD} {f:List AV→Nat→Option R}:rdL 12 (List.drop 3 c.av) f=f (c.lines.l.flatMap LineD.av) c.lines.l.length:=by simp[CaseD.av,I7]
theorem Abo {c:CaseD} {f:List AV→Nat→Option R}:rdL 22 (List.drop 4 c.av) f=f (c.units.l.flatMap UnitD.av) c.units.l.length:=by simp[CaseD.av,I7]
theorem Zf {c:CaseD} {f:List AV→Nat→Option R}:rdL 9 (List.drop 5 c.av) f=f (c.stores.l.flatMap StoreD.av) c.stores.l.length:=by simp[CaseD.av,I7]
theorem Ati {c:CaseD} {f:List AV→Nat→Option R}:rdL 5 (List.drop 6 c.av) f=f (c.ties.l.flatMap TieD.av) c.ties.l.length:=by simp[CaseD.av,I7]
theorem Y0 {c:CaseD} {f:List AV→Nat→Option R}:rdL 4 (List.drop 7 c.av) f=f (c.outs.l.flatMap OutD.av) c.outs.l.length:=by simp[CaseD.av,I7]
def Cq (p:Err):List AV:=B8e p 0 0
theorem Af {N:Nat} {p:Err} {k i f e:Int} {ok:Bool} {K:List AV→Option R} (he:e≠0) :
  Aa N ok k i f e (Cq p) K=K (Cq (nd p ok (k,i,f) ⟨e,he⟩)):=by
 rw[Vt];unfold Ls Io
 rcases p with _ | ⟨⟨a,b,f'⟩,e',he'⟩
 ·cases ok<;>simp[Cq,B8e,Ax,nd,Ef,Dk]
 ·have:(e'==0)=false:=by simpa using he'
  simp[Cq,B8e,Ax,nd,this]
def Bq9 (h:Int) (l:List Int) (lo hi:Int) (w:Int×Int×Int) (p:Err):Err:=nd (nd p ((l.length:Int)==h) w ⟨4,by decide⟩) (l.all (btw lo hi)) w ⟨3,by decide⟩
def Blo (h:Int) (l:List Int) (w:Int×Int×Int) (p:Err):Err:=nd (nd p (l.all (btw 0 (IntKind.wrap .i64 (h - 1)))) w ⟨3,by decide⟩) (asc l) w ⟨11,by decide⟩
theorem Dx {N:Nat} {c:CaseD} {p:Err} {k i f lo hi:Int} {l:List Int} {n:Nat} {t o o1:Bool} {K:List AV→Option R} (hn:n=l.length) (hs:Pd l.length N) :
  By N c.av o1 (Az l) n t o lo hi k i f (Cq p) K=K (Cq (Bq9 c.hours l lo hi (k,i,f) p)):=by
 rw[Ri];unfold Nz
 rw[Ahx,Af (by decide),Gb hn hs,Af (by decide),hn];rfl
theorem Sf {N:Nat} {c:CaseD} {p:Err} {k i f:Int} {l:List Int} {n:Nat} {t o o1:Bool} {K:List AV→Option R} (hn:n=l.length) (hs:Pd l.length N) :
  Eu N c.av o1 (Az l) n t o k i f (Cq p) K=K (Cq (Blo c.hours l (k,i,f) p)):=by
 rw[V1];unfold Rl
 rw[Ahx,Gb hn hs,Af (by decide),Wx hn hs,Af (by decide)];rfl
def Bb6 (c:CaseD) (b:Int):Bool:=decide (0≤b)&&decide (b<(c.buses.l.length:Int))
theorem B1y (n:Nat) (b:Int) (h:n<4611686018427387904):btw 0 (IntKind.wrap .i64 ((n:Int) - 1)) b=(decide (0≤b)&&decide (b<(n:Int))):=by
 rw[Vc _ (by omega),btw]
 congr 1
 simp;omega
theorem H2 {N:Nat} {c:CaseD} {p:Err} {k i f b:Int} {o1:Bool} {K:List AV→Option R} (hN:8≤N) (hb:c.buses.l.length<4611686018427387904) :
  Cz N c.av o1 b k i f (Cq p) K=K (Cq (nd p (Bb6 c b) (k,i,f) ⟨12,by decide⟩)):=by
 rw[Xr];unfold Tv
 rw[Rs,Dq hN,B1y _ _ hb,Af (by decide)];rfl
def Pe (f:FracD):Bool:=btw 1 1048576 f.den&&btw (-1048576) 1048576 f.num
theorem Aej {N:Nat} {f:FracD} {o:Bool} {K:Bool→Option R} (hN:8≤N):F0 N [.int .i64 f.num,.int .i64 f.den] o K=K (Pe f):=by
 rw[Ahk];unfold Afa
 simp only[List.drop_succ_cons,List.drop_zero,Ax,Dq hN]
 unfold Pe
 cases btw 1 1048576 f.den<;>simp
def Bug (c:UInt8):Bool:=decide (97≤c.toNat)&&decide (c.toNat≤122)
def Ca4 (c:UInt8):Bool:=Bug c||(decide (48≤c.toNat)&&decide (c.toNat≤57))||decide (c.toNat=95)
def Buh (s:List UInt8):Bool:=decide (1≤s.length)&&(decide (s.length≤16)&&(!(s==[99,111,114,114,101,99,116,105,118,101])&&(Bug (s.getD 0 0)&&s.all Ca4)))
theorem B3n {s:List UInt8} {j:Nat} (h:j<s.length):List.getD s (Int.toNat (j:Int)) 0=s[j]:=by
 rw[Int.toNat_natCast,List.getD_eq_getElem?_getD,List.getElem?_eq_getElem h];rfl
theorem Axs {N:Nat} {s:List UInt8} {K:Bool→Option R} (hs:s.length<4611686018427387904):∀ (m j fuel:Nat),j+m=s.length→m<fuel →
  Mo N K s fuel (j:Int)=K ((decide (j≠0)||(decide (s.length=0)||Bug (s.getD 0 0)))&&(s.drop j).all Ca4)
 | 0,j,fuel+1,hj,_=>by
  rw[Mo];unfold Yy
  rw[ltF (by omega),cf,I8 (by omega)]
  by_cases h:j=0
  ·have:s.length=0:=by omega
   simp[this]
  ·simp[h]
 | m+1,j,fuel+1,hj,hf=>by
  rw[Mo];unfold Yy Ad7
  dsimp only
  have h:j<s.length:=by omega
  rw[ltT h,ct,Ab h,ct,El (by omega),Axs hs m (j+1) fuel (by omega) (by omega),F4 h,List.all_cons,B3n h]
  have hd:j=0→s.getD 0 0=s[j]:=fun e=>by
   have:=B3n h;rw[←this,e];rfl
  unfold Ca4 Bug
  by_cases hj0:j=0
  ·rw[hd hj0]
   have hne:decide (s.length=0)=false:=decide_eq_false (by omega)
   have e:((j:Int)==0)=true:=by simp;omega
   simp only[ct,hj0,ne_eq,not_true_eq_false,decide_false,Bool.false_or,hne,Nat.zero_add,show decide (¬ (1=0))=true by decide,Bool.true_or,Bool.true_and]
   simp only[hj0] at *
   generalize s[0].toNat=v
   by_cases h1:97≤v<;>by_cases h2:v≤122<;>simp[h1,h2,show((97:Int)≤v)↔97≤v by omega,show((v:Int)≤122)↔v≤122 by omega]
  ·have e:((j:Int)==0)=false:=by simp;omega
   simp only[ct,e,hj0,ne_eq,not_false_eq_true,decide_true,Bool.true_or,Bool.true_and,show decide (¬ (j+1=0))=true by simp]
   generalize s[j].toNat=v
   generalize (s.drop (j+1)).all _=r
   by_cases h1:97≤v<;>by_cases h2:v≤122<;>by_cases h3:48≤v<;>by_cases h4:v≤57<;>by_cases h5:v=95 <;>
    simp[h1,h2,h3,h4,show((97:Int)≤v)↔97≤v by omega,show((v:Int)≤122)↔v≤122 by omega,show((v:Int)<48)↔¬ 48≤v by omega,show((57:Int)<v)↔¬ v≤57 by omega,show((v:Int) != 95)=!decide (v=95) by (by_cases v=95<;>simp_all<;>omega),h5]
theorem Bob {N:Nat} {s:List UInt8} {K:Bool→Option R} (hN:64≤N):Ahj N s K=K (Buh s):=by
 rw[A4a];unfold Ath Ad8 Akd
 dsimp only
 unfold Buh
 by_cases h1:1≤s.length
 ·by_cases h2:s.length≤16
  ·have hl:=Axs (R:=R) (N:=N) (s:=s) (K:=K) (by omega) s.length 0 N (by omega) (by omega)
   simp only[List.drop_zero,Int.natCast_zero] at hl
   rw[hl]
   simp only[h1,h2,show(decide ((s.length:Int)<1))=false by simp;omega,show(decide ((s.length:Int)>16))=false by simp;omega,decide_true,cond_true,cond_false,beq_self_eq_true]
   have:s.length≠0:=by omega
   cases s==[99,111,114,114,101,99,116,105,118,101]<;>simp[this]
  ·simp[h1,h2,show((s.length:Int)<1)↔¬ 1≤s.length by omega,show((16:Int)<s.length)↔¬ s.length≤16 by omega]
 ·simp[h1,show((s.length:Int)<1)↔¬ 1≤s.length by omega]
end
end Gx.Cf

namespace Gx.Cf
open Go Go.Proofs
section
variable {R:Type}
def A4o (names:List (List UInt8)) (k i:Int) (s:List UInt8) (p:Err):Err:=nd (nd p (Buh s) (k,i,0) ⟨9,by decide⟩) (names.all fun x=>!(x==s)) (k,i,0) ⟨10,by decide⟩
theorem Ahy (a:BusD):a.av.length=3:=rfl
theorem Gc (a:LineD):a.av.length=12:=rfl
theorem Ns (a:UnitD):a.av.length=22:=rfl
theorem Ms (a:StoreD):a.av.length=9:=rfl
theorem V5 (a:TieD):a.av.length=5:=rfl
theorem Mt (a:OutD):a.av.length=4:=rfl
end
end Gx.Cf

namespace Gx.Cf
open Go Go.Proofs
section
variable {R:Type}
structure Small (c:CaseD) (N:Nat):Prop where
 n64:64≤N
 res:Pd c.reserve.l.length N
 bus:Pd c.buses.l.length N
 lin:Pd c.lines.l.length N
 uni:Pd c.units.l.length N
 sto:Pd c.stores.l.length N
 tie:Pd c.ties.l.length N
 out:Pd c.outs.l.length N
 dem:∀ b ∈ c.buses.l,Pd b.demand.l.length N
 law:∀ b ∈ c.lines.l,Pd b.away.l.length N
 seg:∀ b ∈ c.units.l,Pd b.segs.l.length N
 uaw:∀ b ∈ c.units.l,Pd b.away.l.length N
 tim:∀ b ∈ c.ties.l,Pd b.imp.l.length N
 tex:∀ b ∈ c.ties.l,Pd b.exp.l.length N
 tpr:∀ b ∈ c.ties.l,Pd b.price.l.length N
 oli:∀ b ∈ c.outs.l,Pd b.lines.l.length N
 omo:∀ b ∈ c.outs.l,Pd b.moves.l.length N
 omb:∀ b ∈ c.outs.l,b.moves.l.length<8796093022208
 top:c.buses.l.length≤1000000∧c.lines.l.length≤1000000∧c.units.l.length≤1000000∧c.stores.l.length≤1000000∧c.ties.l.length≤1000000∧c.outs.l.length≤1000000
def Fj {α:Type} (f:Nat→α→Err→Err):List α→Nat→Err→Err
 | [],_,p=>p
 | a::r,j,p=>Fj f r (j+1) (f j a p)
theorem Mu {α:Type} {f:Nat→α→Err→Err} {x:(Int×Int×Int)×{ e:Int // e≠0 }} (hf:∀ j a,f j a (some x)=some x):∀ (l:List α) (j:Nat),Fj f l j (some x)=some x
 | [],_=>rfl
 | a::r,j=>by rw[Fj,hf];exact Mu hf r (j+1)
abbrev e1:{ e:Int // e≠0 }:=⟨1,by decide⟩
abbrev e3:{ e:Int // e≠0 }:=⟨3,by decide⟩
abbrev e4:{ e:Int // e≠0 }:=⟨4,by decide⟩
abbrev e8:{ e:Int // e≠0 }:=⟨8,by decide⟩
abbrev e11:{ e:Int // e≠0 }:=⟨11,by decide⟩
abbrev e12:{ e:Int // e≠0 }:=⟨12,by decide⟩
abbrev e13:{ e:Int // e≠0 }:=⟨13,by decide⟩
abbrev e16:{ e:Int // e≠0 }:=⟨16,by decide⟩
def B1z (c:CaseD) (p:Err):Err :=
 let p:=nd p (btw 1 24 c.hours) (0,0,0) e3
 let p:=Bq9 c.hours c.reserve.l 0 1048576 (0,0,1) p
 let p:=nd p (btw 1 32 (c.buses.l.length:Int)) (0,0,2) e8
 let p:=nd p (decide ((c.lines.l.length:Int)≤64)) (0,0,3) e8
 let p:=nd p (decide ((c.units.l.length:Int)≤16)) (0,0,4) e8
 let p:=nd p (decide ((c.stores.l.length:Int)≤8)) (0,0,5) e8
 let p:=nd p (decide ((c.ties.l.length:Int)≤8)) (0,0,6) e8
 nd p (decide ((c.outs.l.length:Int)≤64)) (0,0,7) e8
def B9m (c:CaseD) (j:Nat) (b:BusD) (p:Err):Err :=
 let p:=A4o ((c.buses.l.map (·.name)).take j) 1 j b.name p
 let p:=Bq9 c.hours b.demand.l 0 1048576 (1,j,1) p
 nd p (btw 0 1048576 b.shed) (1,j,2) e3
def Bra (c:CaseD) (j:Nat) (x:LineD) (p:Err):Err :=
 let p:=A4o ((c.lines.l.map (·.name)).take j) 2 j x.name p
 let p:=nd p (Bb6 c x.fr) (2,j,1) e12
 let p:=nd p (Bb6 c x.to) (2,j,2) e12
 let p:=nd p (x.to != x.fr) (2,j,2) e1
 let p:=nd p (Pe x.re&&decide (x.re.num>0)) (2,j,3) e3
 let p:=nd p (Pe x.smin&&decide (x.smin.num≤0)) (2,j,4) e3
 let p:=nd p (Pe x.smax&&decide (x.smax.num≥0)) (2,j,5) e3
 let p:=nd p (btw 0 1048576 x.limit) (2,j,6) e3
 let p:=nd p (btw x.limit 1048576 x.emer) (2,j,7) e3
 Blo c.hours x.away.l (2,j,8) p
def Blp (c:CaseD) (j:Nat) (x:StoreD) (p:Err):Err :=
 let p:=A4o ((c.stores.l.map (·.name)).take j) 4 j x.name p
 let p:=nd p (Bb6 c x.bus) (4,j,1) e12
 let p:=nd p (btw 0 1048576 x.capacity) (4,j,2) e3
 let p:=nd p (btw 0 x.capacity x.initial) (4,j,3) e3
 let p:=nd p (btw 0 x.capacity x.final) (4,j,4) e3
 let p:=nd p (btw 0 1048576 x.charge) (4,j,5) e3
 let p:=nd p (btw 0 1048576 x.discharge) (4,j,6) e3
 nd p (Pe x.eff&&(decide (x.eff.num>0)&&decide (x.eff.num≤x.eff.den))) (4,j,7) e3
def B9n (c:CaseD) (j:Nat) (x:TieD) (p:Err):Err :=
 let p:=A4o ((c.ties.l.map (·.name)).take j) 5 j x.name p
 let p:=nd p (Bb6 c x.bus) (5,j,1) e12
 let p:=Bq9 c.hours x.imp.l 0 1048576 (5,j,2) p
 let p:=Bq9 c.hours x.exp.l 0 1048576 (5,j,3) p
 Bq9 c.hours x.price.l (-1048576) 1048576 (5,j,4) p
end
end Gx.Cf

namespace Gx.Cf
open Go Go.Proofs
section
variable {R:Type}
theorem Abp (a:SegD):a.av.length=2:=rfl
theorem Nt (a:MoveD):a.av.length=3:=rfl
def Ek (s:SegD):Bool:=btw 1 1048576 s.width&&btw (-1048576) 1048576 s.price
def Aki (a:Int):List SegD→Int
 | []=>a
 | s::r=>Aki (IntKind.wrap .i64 (a+s.width)) r
def Ar1:List SegD→Bool
 | a::b::r=>decide (b.price≥a.price)&&Ar1 (b::r)
 | _=>true
theorem Akj (a b:SegD) (r:List SegD):Ar1 (a::b::r)=(decide (b.price≥a.price)&&Ar1 (b::r)):=by rw[Ar1]
theorem Blq (a:SegD):Ar1 [a]=true:=by rw[Ar1];intros;simp_all
theorem Byi:Ar1 []=true:=by rw[Ar1];intros;simp_all
def B8f (u:UnitD) (j:Nat) (p:Err):Err :=
 let p:=nd p (decide ((u.segs.l.length:Int)≤8)) (3,j,4) e8
 let p:=nd p (u.segs.l.all Ek) (3,j,4) e3
 let p:=nd p (Ar1 u.segs.l) (3,j,4) e11
 nd p (Aki 0 u.segs.l==IntKind.wrap .i64 (u.max - u.min)) (3,j,4) e4
theorem A7i {u:UnitD} {f:List AV→Nat→Option R}:rdL 2 (List.drop 4 u.av) f=f (u.segs.l.flatMap SegD.av) u.segs.l.length:=by simp[UnitD.av,I7]
theorem B98 {u:UnitD} {f:Int→Option R}:rdI .i64 (List.drop 3 u.av) f=f u.max:=by simp[UnitD.av,Ax]
theorem B99 {u:UnitD} {f:Int→Option R}:rdI .i64 (List.drop 2 u.av) f=f u.min:=by simp[UnitD.av,Ax]
theorem Brb {l:List SegD} {j:Nat} (h:j<l.length) {f:Int→Option R}:rdI .i64 (List.drop 1 (List.drop ((Int.toNat (j:Int))*2) (l.flatMap SegD.av))) f=f l[j].price:=by
 rw[Int.toNat_natCast,Bn Abp _ _ h];simp[SegD.av,Ax]
theorem B6l {l:List SegD} {j:Nat} (h:j<l.length) {f:Int→Option R}:rdI .i64 (List.drop ((Int.toNat (j:Int))*2) (l.flatMap SegD.av)) f=f l[j].width:=by
 rw[Int.toNat_natCast,Bn Abp _ _ h];simp[SegD.av,Ax]
def Byj (c:CaseD) (j:Nat) (u:UnitD) (p:Err):Err :=
 let p:=A4o ((c.units.l.map (·.name)).take j) 3 j u.name p
 let p:=nd p (Bb6 c u.bus) (3,j,1) e12
 let p:=nd p (btw 0 1048576 u.min) (3,j,2) e3
 let p:=nd p (btw u.min 1048576 u.max) (3,j,3) e3
 let p:=B8f u j p
 let p:=nd p (btw 0 1048576 u.noLoad) (3,j,5) e3
 let p:=nd p (btw 0 1048576 u.rampUp) (3,j,6) e3
 let p:=nd p (btw 0 1048576 u.rampDown) (3,j,7) e3
 let p:=nd p (btw u.min u.max u.startRamp) (3,j,8) e3
 let p:=nd p (btw u.min u.max u.stopRamp) (3,j,9) e3
 let p:=nd p (btw 0 24 u.upTime) (3,j,10) e3
 let p:=nd p (btw 0 24 u.downTime) (3,j,11) e3
 let p:=nd p (btw 0 24 u.startTime) (3,j,12) e3
 let p:=nd p (btw 0 1048576 u.hotCost) (3,j,13) e3
 let p:=nd p (btw 0 1048576 u.coldCost) (3,j,14) e3
 let p:=nd p (btw 0 24 u.hotHours) (3,j,15) e3
 let p:=nd p (btw 0 1048576 u.reserve) (3,j,16) e3
 let p:=nd p (btw 0 1048576 u.reservePrice) (3,j,17) e3
 let p:=Blo c.hours u.away.l (3,j,18) p
 let p:=nd p (btw 0 2 u.state) (3,j,19) e12
 let p:=nd p (u.state != 1||u.startTime != 0) (3,j,19) e16
 let p:=nd p (btw 1 48 u.hours) (3,j,20) e3
 let p:=nd p (u.state != 1||decide (u.hours≤u.startTime)) (3,j,20) e3
 cond (u.state==2) (nd p (btw u.min u.max u.output) (3,j,21) e3) (nd p (btw 0 0 u.output) (3,j,21) e3)
def B9o (c:CaseD) (m:MoveD):Bool:=decide (0≤m.unit)&&decide (m.unit<(c.units.l.length:Int))
def B6m (m:MoveD):Bool:=btw 0 1048576 m.up&&btw 0 1048576 m.down
def B10 (c:CaseD) (o:OutD) (j:Nat) (p:Err):Err :=
 let p:=nd p ((o.moves.l.length:Int)==0||o.corr) (6,j,3) e16
 let p:=nd p (decide ((o.moves.l.length:Int)≤16)) (6,j,3) e8
 let p:=nd p (o.moves.l.all (B9o c)) (6,j,3) e12
 let p:=nd p (asc (o.moves.l.map (·.unit))) (6,j,3) e11
 nd p (o.moves.l.all B6m) (6,j,3) e3
theorem B3o {u:OutD} {f:List AV→Nat→Option R}:rdL 3 (List.drop 3 u.av) f=f (u.moves.l.flatMap MoveD.av) u.moves.l.length:=by simp[OutD.av,I7]
theorem Ca5 {u:OutD} {f:Bool→Option R}:rdB (List.drop 2 u.av) f=f u.corr:=by simp[OutD.av,B8d]
def B6n (c:CaseD) (j:Nat) (x:OutD) (p:Err):Err :=
 let p:=A4o ((c.outs.l.map (·.name)).take j) 6 j x.name p
 let p:=nd p ((x.lines.l.length:Int)==1||(x.lines.l.length:Int)==2) (6,j,1) e4
 let p:=nd p (x.lines.l.all fun n=>decide (0≤n)&&decide (n<(c.lines.l.length:Int))) (6,j,1) e12
 let p:=nd p (asc x.lines.l) (6,j,1) e11
 B10 c x j p
theorem A7j {c:CaseD} {j:Nat} {x:OutD} {y:(Int×Int×Int)×{ e:Int // e≠0 }}:B6n c j x (some y)=some y:=rfl
end
end Gx.Cf

namespace Gx.Cf
open Go Go.Proofs
section
variable {R:Type}
theorem B9p {u:OutD} {f:List AV→Nat→Option R}:rdL 1 (List.drop 1 u.av) f=f (Az u.lines.l) u.lines.l.length:=by simp[OutD.av,I7,F9]
end
end Gx.Cf

namespace Gx.Cf
open Go Go.Proofs
section
variable {R:Type}
def Gd (l:List (List UInt8)):List AV:=l.map fun s=>.str s
theorem P5 (l:List (List UInt8)):(Gd l).length=l.length:=by simp[Gd]
theorem Blr {l:List (List UInt8)} {i:Nat} (h:i<l.length) {f:List UInt8→Option R}:rdS (List.drop i (Gd l)) f=f l[i]:=by
 rw[Gd,List.drop_eq_getElem_cons (by simpa using h)];simp[Abd]
theorem E2 {c:CaseD}:List.take 8 c.av=c.av:=rfl
theorem Mv {c:CaseD}:Nat.ble 8 (List.length c.av)=true:=rfl
theorem Ahz {N:Nat} {c:CaseD} {o:Bool} {K:Nat→List AV→Option R} (hb:c.buses.l.length≤1000000):∀ (m j fuel:Nat),j+m=c.buses.l.length→m<fuel →
  J5 N K o c.av fuel j (j:Int) (Gd ((c.buses.l.take j).map (·.name)))=K c.buses.l.length (Gd (c.buses.l.map (·.name)))
 | 0,j,fuel+1,hj,_=>by
  rw[J5];unfold Us
  have hjl:j=c.buses.l.length:=by omega
  rw[Rs,ltF (by omega),cf,List.take_of_length_le (by omega),hjl]
 | m+1,j,fuel+1,hj,hf=>by
  rw[J5];unfold Us
  have h:j<c.buses.l.length:=by omega
  have b3:(Nat.ble (j+1) 140737488355328&&Nat.ble ((j+1)*16) 140737488355328)=true:=by rw[Ef,Ef];simp;omega
  have b4:List.take (j*1) (Gd ((c.buses.l.take j).map (·.name)))++[.str c.buses.l[j].name]=Gd ((c.buses.l.take (j+1)).map (·.name)):=by
   rw[List.take_of_length_le (by simp[P5];omega),List.take_succ_eq_append_getElem h,List.map_append];simp[Gd]
  have b5:∀ f:List UInt8→Option R,rdS (List.drop (j*3) (List.flatMap BusD.av c.buses.l)) f=f c.buses.l[j].name:=fun f=>by rw[Bn Ahy _ _ h];simp[BusD.av,Abd]
  rw[Rs,ltT h,ct,Rs,Ab h,ct,Int.toNat_natCast,b5,b3,ct,b4,El (by omega),Ahz hb m (j+1) fuel (by omega) (by omega)]
theorem Byk {N:Nat} {c:CaseD} {o:Bool} {K:Nat→List AV→Option R} (hs:Small c N):Ga N c.av o 1 K=K (c.buses.l.map (·.name)).length (Gd (c.buses.l.map (·.name))):=by
 rw[Ih];unfold Kb
 have:=Ahz (R:=R) (N:=N) (c:=c) (o:=o) (K:=K) hs.top.1 c.buses.l.length 0 N (by omega) hs.bus.1
 simpa[Gd] using this
theorem Ah0 {N:Nat} {c:CaseD} {o:Bool} {K:Nat→List AV→Option R} (hb:c.lines.l.length≤1000000):∀ (m j fuel:Nat),j+m=c.lines.l.length→m<fuel →
  J6 N K o c.av fuel j (j:Int) (Gd ((c.lines.l.take j).map (·.name)))=K c.lines.l.length (Gd (c.lines.l.map (·.name)))
 | 0,j,fuel+1,hj,_=>by
  rw[J6];unfold Ut
  have hjl:j=c.lines.l.length:=by omega
  rw[Ok,ltF (by omega),cf,List.take_of_length_le (by omega),hjl]
 | m+1,j,fuel+1,hj,hf=>by
  rw[J6];unfold Ut
  have h:j<c.lines.l.length:=by omega
  have b3:(Nat.ble (j+1) 140737488355328&&Nat.ble ((j+1)*16) 140737488355328)=true:=by rw[Ef,Ef];simp;omega
  have b4:List.take (j*1) (Gd ((c.lines.l.take j).map (·.name)))++[.str c.lines.l[j].name]=Gd ((c.lines.l.take (j+1)).map (·.name)):=by
   rw[List.take_of_length_le (by simp[P5];omega),List.take_succ_eq_append_getElem h,List.map_append];simp[Gd]
  have b5:∀ f:List UInt8→Option R,rdS (List.drop (j*12) (List.flatMap LineD.av c.lines.l)) f=f c.lines.l[j].name:=fun f=>by rw[Bn Gc _ _ h];simp[LineD.av,Abd]
  rw[Ok,ltT h,ct,Ok,Ab h,ct,Int.toNat_natCast,b5,b3,ct,b4,El (by omega),Ah0 hb m (j+1) fuel (by omega) (by omega)]
theorem Bb7 {N:Nat} {c:CaseD} {o:Bool} {K:Nat→List AV→Option R} (hs:Small c N):Ga N c.av o 2 K=K (c.lines.l.map (·.name)).length (Gd (c.lines.l.map (·.name))):=by
 rw[Ih];unfold Kb
 have:=Ah0 (R:=R) (N:=N) (c:=c) (o:=o) (K:=K) hs.top.2.1 c.lines.l.length 0 N (by omega) hs.lin.1
 simpa[Gd] using this
theorem Ah1 {N:Nat} {c:CaseD} {o:Bool} {K:Nat→List AV→Option R} (hb:c.units.l.length≤1000000):∀ (m j fuel:Nat),j+m=c.units.l.length→m<fuel →
  J7 N K o c.av fuel j (j:Int) (Gd ((c.units.l.take j).map (·.name)))=K c.units.l.length (Gd (c.units.l.map (·.name)))
 | 0,j,fuel+1,hj,_=>by
  rw[J7];unfold Uu
  have hjl:j=c.units.l.length:=by omega
  rw[Abo,ltF (by omega),cf,List.take_of_length_le (by omega),hjl]
 | m+1,j,fuel+1,hj,hf=>by
  rw[J7];unfold Uu
  have h:j<c.units.l.length:=by omega
  have b3:(Nat.ble (j+1) 140737488355328&&Nat.ble ((j+1)*16) 140737488355328)=true:=by rw[Ef,Ef];simp;omega
  have b4:List.take (j*1) (Gd ((c.units.l.take j).map (·.name)))++[.str c.units.l[j].name]=Gd ((c.units.l.take (j+1)).map (·.name)):=by
   rw[List.take_of_length_le (by simp[P5];omega),List.take_succ_eq_append_getElem h,List.map_append];simp[Gd]
  have b5:∀ f:List UInt8→Option R,rdS (List.drop (j*22) (List.flatMap UnitD.av c.units.l)) f=f c.units.l[j].name:=fun f=>by rw[Bn Ns _ _ h];simp[UnitD.av,Abd]
  rw[Abo,ltT h,ct,Abo,Ab h,ct,Int.toNat_natCast,b5,b3,ct,b4,El (by omega),Ah1 hb m (j+1) fuel (by omega) (by omega)]
theorem Bb8 {N:Nat} {c:CaseD} {o:Bool} {K:Nat→List AV→Option R} (hs:Small c N):Ga N c.av o 3 K=K (c.units.l.map (·.name)).length (Gd (c.units.l.map (·.name))):=by
 rw[Ih];unfold Kb
 have:=Ah1 (R:=R) (N:=N) (c:=c) (o:=o) (K:=K) hs.top.2.2.1 c.units.l.length 0 N (by omega) hs.uni.1
 simpa[Gd] using this
theorem Aek {N:Nat} {c:CaseD} {o:Bool} {K:Nat→List AV→Option R} (hb:c.stores.l.length≤1000000):∀ (m j fuel:Nat),j+m=c.stores.l.length→m<fuel →
  J8 N K o c.av fuel j (j:Int) (Gd ((c.stores.l.take j).map (·.name)))=K c.stores.l.length (Gd (c.stores.l.map (·.name)))
 | 0,j,fuel+1,hj,_=>by
  rw[J8];unfold Uv
  have hjl:j=c.stores.l.length:=by omega
  rw[Zf,ltF (by omega),cf,List.take_of_length_le (by omega),hjl]
 | m+1,j,fuel+1,hj,hf=>by
  rw[J8];unfold Uv
  have h:j<c.stores.l.length:=by omega
  have b3:(Nat.ble (j+1) 140737488355328&&Nat.ble ((j+1)*16) 140737488355328)=true:=by rw[Ef,Ef];simp;omega
  have b4:List.take (j*1) (Gd ((c.stores.l.take j).map (·.name)))++[.str c.stores.l[j].name]=Gd ((c.stores.l.take (j+1)).map (·.name)):=by
   rw[List.take_of_length_le (by simp[P5];omega),List.take_succ_eq_append_getElem h,List.map_append];simp[Gd]
  have b5:∀ f:List UInt8→Option R,rdS (List.drop (j*9) (List.flatMap StoreD.av c.stores.l)) f=f c.stores.l[j].name:=fun f=>by rw[Bn Ms _ _ h];simp[StoreD.av,Abd]
  rw[Zf,ltT h,ct,Zf,Ab h,ct,Int.toNat_natCast,b5,b3,ct,b4,El (by omega),Aek hb m (j+1) fuel (by omega) (by omega)]
theorem A4p {N:Nat} {c:CaseD} {o:Bool} {K:Nat→List AV→Option R} (hs:Small c N):Ga N c.av o 4 K=K (c.stores.l.map (·.name)).length (Gd (c.stores.l.map (·.name))):=by
 rw[Ih];unfold Kb
 have:=Aek (R:=R) (N:=N) (c:=c) (o:=o) (K:=K) hs.top.2.2.2.1 c.stores.l.length 0 N (by omega) hs.sto.1
 simpa[Gd] using this
theorem Anf {N:Nat} {c:CaseD} {o:Bool} {K:Nat→List AV→Option R} (hb:c.ties.l.length≤1000000):∀ (m j fuel:Nat),j+m=c.ties.l.length→m<fuel →
  J9 N K o c.av fuel j (j:Int) (Gd ((c.ties.l.take j).map (·.name)))=K c.ties.l.length (Gd (c.ties.l.map (·.name)))
 | 0,j,fuel+1,hj,_=>by
  rw[J9];unfold Uw
  have hjl:j=c.ties.l.length:=by omega
  rw[Ati,ltF (by omega),cf,List.take_of_length_le (by omega),hjl]
 | m+1,j,fuel+1,hj,hf=>by
  rw[J9];unfold Uw
  have h:j<c.ties.l.length:=by omega
  have b3:(Nat.ble (j+1) 140737488355328&&Nat.ble ((j+1)*16) 140737488355328)=true:=by rw[Ef,Ef];simp;omega
  have b4:List.take (j*1) (Gd ((c.ties.l.take j).map (·.name)))++[.str c.ties.l[j].name]=Gd ((c.ties.l.take (j+1)).map (·.name)):=by
   rw[List.take_of_length_le (by simp[P5];omega),List.take_succ_eq_append_getElem h,List.map_append];simp[Gd]
  have b5:∀ f:List UInt8→Option R,rdS (List.drop (j*5) (List.flatMap TieD.av c.ties.l)) f=f c.ties.l[j].name:=fun f=>by rw[Bn V5 _ _ h];simp[TieD.av,Abd]
  rw[Ati,ltT h,ct,Ati,Ab h,ct,Int.toNat_natCast,b5,b3,ct,b4,El (by omega),Anf hb m (j+1) fuel (by omega) (by omega)]
theorem Bls {N:Nat} {c:CaseD} {o:Bool} {K:Nat→List AV→Option R} (hs:Small c N):Ga N c.av o 5 K=K (c.ties.l.map (·.name)).length (Gd (c.ties.l.map (·.name))):=by
 rw[Ih];unfold Kb
 have:=Anf (R:=R) (N:=N) (c:=c) (o:=o) (K:=K) hs.top.2.2.2.2.1 c.ties.l.length 0 N (by omega) hs.tie.1
 simpa[Gd] using this
theorem Ang {N:Nat} {c:CaseD} {o:Bool} {K:Nat→List AV→Option R} (hb:c.outs.l.length≤1000000):∀ (m j fuel:Nat),j+m=c.outs.l.length→m<fuel →
  Ka N K o c.av fuel j (j:Int) (Gd ((c.outs.l.take j).map (·.name)))=K c.outs.l.length (Gd (c.outs.l.map (·.name)))
 | 0,j,fuel+1,hj,_=>by
  rw[Ka];unfold Ux
  have hjl:j=c.outs.l.length:=by omega
  rw[Y0,ltF (by omega),cf,List.take_of_length_le (by omega),hjl]
 | m+1,j,fuel+1,hj,hf=>by
  rw[Ka];unfold Ux
  have h:j<c.outs.l.length:=by omega
  have b3:(Nat.ble (j+1) 140737488355328&&Nat.ble ((j+1)*16) 140737488355328)=true:=by rw[Ef,Ef];simp;omega
  have b4:List.take (j*1) (Gd ((c.outs.l.take j).map (·.name)))++[.str c.outs.l[j].name]=Gd ((c.outs.l.take (j+1)).map (·.name)):=by
   rw[List.take_of_length_le (by simp[P5];omega),List.take_succ_eq_append_getElem h,List.map_append];simp[Gd]
  have b5:∀ f:List UInt8→Option R,rdS (List.drop (j*4) (List.flatMap OutD.av c.outs.l)) f=f c.outs.l[j].name:=fun f=>by rw[Bn Mt _ _ h];simp[OutD.av,Abd]
  rw[Y0,ltT h,ct,Y0,Ab h,ct,Int.toNat_natCast,b5,b3,ct,b4,El (by omega),Ang hb m (j+1) fuel (by omega) (by omega)]
theorem Blt {N:Nat} {c:CaseD} {o:Bool} {K:Nat→List AV→Option R} (hs:Small c N):Ga N c.av o 6 K=K (c.outs.l.map (·.name)).length (Gd (c.outs.l.map (·.name))):=by
 rw[Ih];unfold Kb
 have:=Ang (R:=R) (N:=N) (c:=c) (o:=o) (K:=K) hs.top.2.2.2.2.2 c.outs.l.length 0 N (by omega) hs.out.1
 simpa[Gd] using this
theorem Sg {N:Nat} {L:List (List UInt8)} {k:Int} {n:Nat} {K:List AV→Option R} (hn:n<L.length) (hs:n<4611686018427387904):∀ (m j fuel:Nat) (p:Err),j+m=n→m<fuel →
  Dd N K k (n:Int) L.length (Gd L) fuel (j:Int) (Cq p)=K (Cq (nd p (((L.take n).drop j).all fun x=>!(x==L[n])) (k,n,0) ⟨10,by decide⟩))
 | 0,j,fuel+1,p,hj,_=>by
  rw[Dd];unfold H1
  rw[ltF (by omega),cf,I8 (l:=L.take n) (by simp;omega),List.all_nil,Aj9]
 | m+1,j,fuel+1,p,hj,hf=>by
  rw[Dd];unfold H1
  have h:j<L.length:=by omega
  have h2:j<(L.take n).length:=by simp;omega
  rw[ltT (by omega),ct,Ab h,ct,Int.toNat_natCast,Nat.zero_add,Nat.mul_one,Blr h,Ab hn,ct,Int.toNat_natCast,Nat.zero_add,Nat.mul_one,Blr hn,Af (by decide),El (by omega),Sg hn hs m (j+1) fuel _ (by omega) (by omega),F4 h2,List.all_cons,Bya]
  have e:(L.take n)[j]=L[j]:=by simp
  rw[e]
theorem Dj {N:Nat} {c:CaseD} {L:List (List UInt8)} {o:Bool} {p:Err} {k:Int} {n:Nat} {K:List AV→Option R} (hN:64≤N) (hL:∀ K:Nat→List AV→Option R,Ga N c.av o k K=K L.length (Gd L)) (hn:n<L.length) (hs:Pd n N) :
  B7 N c.av o k (n:Int) (Cq p) K=K (Cq (A4o (L.take n) k n L[n] p)):=by
 rw[Vz];unfold Lt
 rw[E2,Mv,ct,hL,Ab hn,ct,Int.toNat_natCast,Nat.zero_add,Nat.mul_one,Blr hn,Bob hN,Af (by decide)]
 have:=Sg (R:=R) (N:=N) (L:=L) (k:=k) (n:=n) (K:=K) hn hs.2 n 0 N (nd p (Buh L[n]) (k,n,0) ⟨9,by decide⟩) (by omega) hs.1
 simpa[A4o] using this
theorem Akk {N fuel:Nat} {c:CaseD} {o:Bool} {p:Err} {K:List AV→Option R} (hs:Small c N):Bd N K o c.av (fuel+6) 2 (Cq p)=K (Cq
  (nd (nd (nd (nd (nd p (decide ((c.lines.l.length:Int)≤64)) (0,0,3) e8) (decide ((c.units.l.length:Int)≤16)) (0,0,4) e8) (decide ((c.stores.l.length:Int)≤8)) (0,0,5) e8) (decide ((c.ties.l.length:Int)≤8)) (0,0,6) e8) (decide ((c.outs.l.length:Int)≤64)) (0,0,7) e8)):=by
 have most:∀ (k:Nat) (n:Int) (K:Int→Option R),k<7→([0,32,64,16,8,8,64]:List Int)[k]?=some n→Mn N (k:Int) K=K n:=by
  intro k n K hk he
  rw[A38];unfold A69
  rw[Ab hk,ct]
  have e:[(.int .i64 (0:Int)),(.int .i64 (32:Int)),(.int .i64 (64:Int)),(.int .i64 (16:Int)),(.int .i64 (8:Int)),(.int .i64 (8:Int)),(.int .i64 (64:Int))]=Az [0,32,64,16,8,8,64]:=rfl
  rw[e,Int.toNat_natCast,Nat.zero_add,Nat.mul_one,Aq9 (by simpa using hk)]
  rw[List.getElem?_eq_getElem (by simpa using hk)] at he
  simp only[Option.some.injEq] at he
  rw[he]
 have m2:∀ K:Int→Option R,Mn N 2 K=K 64:=fun K=>most 2 64 K (by omega) rfl
 have m3:∀ K:Int→Option R,Mn N 3 K=K 16:=fun K=>most 3 16 K (by omega) rfl
 have m4:∀ K:Int→Option R,Mn N 4 K=K 8:=fun K=>most 4 8 K (by omega) rfl
 have m5:∀ K:Int→Option R,Mn N 5 K=K 8:=fun K=>most 5 8 K (by omega) rfl
 have m6:∀ K:Int→Option R,Mn N 6 K=K 64:=fun K=>most 6 64 K (by omega) rfl
 have w2:IntKind.wrap .i64 (2+1)=3:=rfl
 have w3:IntKind.wrap .i64 (3+1)=4:=rfl
 have w4:IntKind.wrap .i64 (4+1)=5:=rfl
 have w5:IntKind.wrap .i64 (5+1)=6:=rfl
 have w6:IntKind.wrap .i64 (6+1)=7:=rfl
 rw[Bd];unfold B4
 rw[show decide ((2:Int)≤6)=true from rfl,ct,Mv,ct,E2,Bb7 hs,m2,Af (by decide),w2]
 rw[Bd];unfold B4
 rw[show decide ((3:Int)≤6)=true from rfl,ct,Mv,ct,E2,Bb8 hs,m3,Af (by decide),w3]
 rw[Bd];unfold B4
 rw[show decide ((4:Int)≤6)=true from rfl,ct,Mv,ct,E2,A4p hs,m4,Af (by decide),w4]
 rw[Bd];unfold B4
 rw[show decide ((5:Int)≤6)=true from rfl,ct,Mv,ct,E2,Bls hs,m5,Af (by decide),w5]
 rw[Bd];unfold B4
 rw[show decide ((6:Int)≤6)=true from rfl,ct,Mv,ct,E2,Blt hs,m6,Af (by decide),w6]
 rw[Bd];unfold B4
 rw[show decide ((7:Int)≤6)=false from rfl,cf]
 simp only[List.length_map]
theorem Akl {N:Nat} {c:CaseD} {o:Bool} {p:Err} {K:List AV→Option R} (hs:Small c N):Fi N c.av o (Cq p) K=K (Cq (B1z c p)):=by
 have hN:=hs.n64
 rw[R9];unfold Kc
 have:=fun p=>Akk (fuel:=N - 6) (o:=o) (p:=p) (K:=K) hs
 rw[show N - 6+6=N by omega] at this
 simp only[Ahx,Dq (show 8≤N by omega),Af (show(3:Int)≠0 by decide),Af (show(8:Int)≠0 by decide),Mv,ct,E2,B1x,Rs,Dx rfl hs.res,this]
 rfl
end
end Gx.Cf

namespace Gx
open Go Go.Proofs
open IntKind (wrap)
set_option maxRecDepth 100000
noncomputable section
variable {R:Type} (N:Nat)
def N1 (r0:LA→O R) (a:Int) (b:Bool) (c d:LA) (l:LA):O R :=
 (rdI .i64 (d.drop 9) fun n=>(Ar N 0 1048576 [(.int .i64 n)] 1 false true (fun o=>(Aa N o 2 a 6 3 l (fun p=>(rdI .i64 (d.drop 9) fun q=>(rdI .i64 (d.drop 10) fun r=>(Ar N q 1048576 [(.int .i64 r)] 1 false true (fun s=>(Aa N s 2 a 7 3 p (fun t=>(cond (Nat.ble 8 (c.length)) (rdL 1 (d.drop 11) fun u v=>(Eu N (c.take 8) b u v false b 2 a 8 t (fun w=>(r0 w)))) none))))))))))))
def Mw (r0:LA→O R) (a:Int) (b:Bool) (c d:LA) (q2:LA→O R) (f:LA):O R :=
 (cond (Nat.ble 2 ((d.drop 7).length)) (cond ((!b)||(Bb ((d.drop 7).take 2))) (F0 N ((d.drop 7).take 2) false (fun x=>(cond (x==true) (rdI .i64 (d.drop 7) fun y=>(Aa N (cond true (decide (y≥0)) false) 2 a 5 3 f (fun z=>(q2 z)))) (Aa N false 2 a 5 3 f (fun aa=>(q2 aa)))))) none) none)
def N2 (r0:LA→O R) (a:Int) (b:Bool) (c d:LA) (f:LA):O R:=(Mw N r0 a b c d (fun l=>(N1 N r0 a b c d l)) f)
def Mx (r0:LA→O R) (a:Int) (b:Bool) (c:LA) (q1:LA→O R) (e d:LA):O R :=
 (cond (Nat.ble 2 ((d.drop 5).length)) (cond ((!b)||(Bb ((d.drop 5).take 2))) (F0 N ((d.drop 5).take 2) false (fun ab=>(cond (ab==true) (rdI .i64 (d.drop 5) fun ac=>(Aa N (cond true (decide (ac≤0)) false) 2 a 4 3 e (fun ad=>(q1 ad)))) (Aa N false 2 a 4 3 e (fun ae=>(q1 ae)))))) none) none)
def Ir (r0:LA→O R) (a:Int) (b:Bool) (c:LA) (e d:LA):O R:=(Mx N r0 a b c (fun f=>(N2 N r0 a b c d f)) e d)
def Lw (r0:LA→O R) (q0:LA→LA→O R) (c:LA) (b:Bool) (a:Int) (g:LA):O R :=
 (rdL 12 (c.drop 3) fun i af=>(cond (Aj a af) (cond (Nat.ble 12 ((i.drop ((a.toNat)*12)).length)) (cond ((Nat.beq 0 0)&&((Nat.beq (((i.drop ((a.toNat)*12)).take 12).length) 12)&&(Nat.beq 12 12))) (cond (Nat.ble 8 (c.length)) (B7 N (c.take 8) b 2 a g (fun ag=>(cond (Nat.ble 8 (c.length)) (rdI .i64 (((i.drop ((a.toNat)*12)).take 12).drop 1) fun ah=>(Cz N (c.take 8) b ah 2 a 1 ag (fun ai=>(cond (Nat.ble 8 (c.length)) (rdI .i64 (((i.drop ((a.toNat)*12)).take 12).drop 2) fun aj=>(Cz N (c.take 8) b aj 2 a 2 ai (fun ak=>(rdI .i64 (((i.drop ((a.toNat)*12)).take 12).drop 1) fun al=>(rdI .i64 (((i.drop ((a.toNat)*12)).take 12).drop 2) fun am=>(Aa N (al != am) 2 a 2 1 ak (fun m=>(cond (Nat.ble 2 ((((i.drop ((a.toNat)*12)).take 12).drop 3).length)) (cond ((!b)||(Bb ((((i.drop ((a.toNat)*12)).take 12).drop 3).take 2))) (F0 N ((((i.drop ((a.toNat)*12)).take 12).drop 3).take 2) false (fun an=>(cond (an==true) (rdI .i64 (((i.drop ((a.toNat)*12)).take 12).drop 3) fun ao=>(Aa N (cond true (decide (ao>0)) false) 2 a 3 3 m (fun ap=>(q0 ap ((i.drop ((a.toNat)*12)).take 12))))) (Aa N false 2 a 3 3 m (fun aq=>(q0 aq ((i.drop ((a.toNat)*12)).take 12))))))) none) none)))))))) none)))) none))) none) none) none) none))
def Ge:=(Ak (fun (N:Nat) (c:LA) (b:Bool) (a:Int) (g:LA) (r0:LA→O R)=>(Lw N r0 (fun e d=>(Ir N r0 a b c e d)) c b a g))).1
theorem V6 (c b a g r0):(@Ge R N c b a g r0)=(Lw N r0 (fun e d=>(Ir N r0 a b c e d)) c b a g):=by rw[Ge,(Ak _).2]
def Xz:Hints:={ H:=(hS hL (hS hL (hS hL (hS hL (hS hL (hS hL (hJ [0,2,4,6,7] hL (hJ [0,2,4,6,7] hL (hJ [0,2,4,6,7] hL hL))))))))) }
def Abq:Tbl:=[(153,De N),(185,Gw N),(155,Bc N),(186,Ww N),(156,Ce N),(187,N0 N)]
def N3 (F:KF R):=atM Tryz.f157 Xz (Abq N) [100000] N F
def Cj (F:KF R):LA→O R:=(fun ar=>F (.tup []) [(100000,(bQ 0 ar))])
def At2 (a:Int) (b:Bool) (c d l:LA):St:=⟨[(0,(.optr 100000 0)),(2,(.int .i64 a)),(4,(.optr 300000 0)),(6,(.optr 300001 0)),(7,(.int .i64 2))],[(100000,(bQ 0 l)),(300000,(bP b 0 c)),(300001,(bP b 0 d))]⟩
def At3 (F:KF R):=N3 N F [1,1,1,1,1,1,1,1,1] []
def At4 (a:Int) (b:Bool) (c d f:LA):St:=⟨[(0,(.optr 100000 0)),(2,(.int .i64 a)),(4,(.optr 300000 0)),(6,(.optr 300001 0)),(7,(.int .i64 2))],[(100000,(bQ 0 f)),(300000,(bP b 0 c)),(300001,(bP b 0 d))]⟩
def At5 (F:KF R):=N3 N F [1,1,1,1,1,1,1,1] []
def At6 (a:Int) (b:Bool) (c e d:LA):St:=⟨[(0,(.optr 100000 0)),(2,(.int .i64 a)),(4,(.optr 300000 0)),(6,(.optr 300001 0)),(7,(.int .i64 2))],[(100000,(bQ 0 e)),(300000,(bP b 0 c)),(300001,(bP b 0 d))]⟩
def At7 (F:KF R):=N3 N F [1,1,1,1,1,1,1] []
theorem Akm (F:KF R) (a:Int) (b:Bool) (c d:LA):∀ (l:LA),Bh (At3 N F) (At2 a b c d l)=(N1 N (Cj F) a b c d l):=by
 intro l
 kernel_rfl
theorem Akn (F:KF R) (a:Int) (b:Bool) (c d:LA):∀ (f:LA),Bh (At5 N F) (At4 a b c d f)=(N2 N (Cj F) a b c d f):=by
 intro f
 exact Eq.trans (by kernel_rfl) (cgA (Mw N (Cj F) a b c d · f) (funext fun l=>(Au ..).trans (Akm N F a b c d l)):_)
theorem Ako (F:KF R) (a:Int) (b:Bool) (c:LA):∀ (e d:LA),Bh (At7 N F) (At6 a b c e d)=(Ir N (Cj F) a b c e d):=by
 intro e d
 exact Eq.trans (by kernel_rfl) (cgA (Mx N (Cj F) a b c · e d) (funext fun f=>(Au ..).trans (Akn N F a b c d f)):_)
theorem X0 (c:LA) (b:Bool) (a:Int) (g:LA) (F:KF R):exM (Abq N) Xz N 157 [(.optr 100000 0),(.pagg c b),(.int .i64 a)] [(100000,(bQ 0 g))] F=(Ge N c b a g (Cj F)):=by
 rw[V6]
 exact Eq.trans (by kernel_rfl) (cgA (Lw N (Cj F) · c b a g) (funext fun e=>funext fun d=>(Au ..).trans (Ako N F a b c e d)):_)
def V7 (args:List AV) (h:Al) (k:KF R):O R :=
 match args,h with
 | [(.optr 100000 0),(.pagg c b),(.int .i64 a)],[(100000,⟨false,false,true,false,0,g,false⟩)]=>(Ge N c b a g (Cj k))
 | _,_=>none
theorem X1:Aq N 157 @V7:=by
 intro R Q args h k j;unfold V7;split
 exact A0 (X0 ..) (X0 ..) ⟨Ed N,Kd N,Bi N,Am7 N,Cw N,Xw N,trivial⟩
 exact A2
def X2:=A1 (X1 N)
theorem At8:Ay Tryz.prog 157 (X2 N):=A3 (X1 N) follows
def E3 (r0:LA→O R) (b:Int) (d:LA) (c:Bool) (a:LA) (k2:Int→Int→O R) (p o:Int):O R :=
 (rdL 2 (a.drop 4) fun az r=>(cond ((decide (o<((r:Nat):Int)))==true) (rdI .i64 (d.drop 3) fun s=>(cond (cond true (s==0) false) (rdL 2 (a.drop 4) fun t u=>(cond (Aj o u) (rdI .i64 (t.drop ((o.toNat)*2)) fun v=>(k2 (wrap .i64 (p+v)) (wrap .i64 (o+1)))) none)) (rdI .i64 (d.drop 3) fun w=>(cond ((w != 0)==false) (rdI .i64 (a.drop 3) fun x=>(rdI .i64 (a.drop 2) fun y=>(Aa N (cond false true (p==(wrap .i64 (x - y)))) 3 b 4 4 d (fun z=>(r0 z))))) (Aa N true 3 b 4 4 d (fun aa=>(r0 aa))))))) (rdI .i64 (d.drop 3) fun ab=>(cond ((ab != 0)==false) (rdI .i64 (a.drop 3) fun ac=>(rdI .i64 (a.drop 2) fun ad=>(Aa N (cond false true (p==(wrap .i64 (ac - ad)))) 3 b 4 4 d (fun ae=>(r0 ae))))) (Aa N true 3 b 4 4 d (fun af=>(r0 af)))))))
def Co (r0:LA→O R) (b:Int) (d:LA) (c:Bool) (a:LA):Nat→Int→Int→O R
 | 0,_,_=>none
 | n+1,p,o=>(E3 N r0 b d c a (Co r0 b d c a n) p o)
def Dp (r0:LA→O R) (b:Int) (c:Bool) (a:LA) (k1:Int→LA→O R) (q2:Int→Int→O R) (g:Int) (d:LA):O R :=
 (rdL 2 (a.drop 4) fun ba ag=>(cond (decide (g<((ag:Nat):Int))) (rdL 2 (a.drop 4) fun ah ai=>(cond (Aj g ai) (rdI .i64 ((ah.drop ((g.toNat)*2)).drop 1) fun aj=>(rdL 2 (a.drop 4) fun ak al=>(cond (Aj (wrap .i64 (g - 1)) al) (rdI .i64 ((ak.drop (((wrap .i64 (g - 1)).toNat)*2)).drop 1) fun am=>(Aa N (decide (aj≥am)) 3 b 4 11 d (fun an=>(k1 (wrap .i64 (g+1)) an)))) none))) none)) (q2 0 0)))
def B8 (r0:LA→O R) (b:Int) (c:Bool) (a:LA):Nat→Int→LA→O R
 | 0,_,_=>none
 | n+1,g,d=>(Dp N r0 b c a (B8 r0 b c a n) (fun p o=>(Co N r0 b d c a N p o)) g d)
def E4 (r0:LA→O R) (b:Int) (f:LA) (i:Nat) (c:Bool) (a:LA) (k0:Int→Int→LA→O R) (q1:Int→LA→O R) (l e:Int) (m:LA):O R :=
 (cond (decide (e<l)) (cond (Aj e i) (cond (Nat.ble 2 ((f.drop ((e.toNat)*2)).length)) (cond ((!c)||(Bb ((f.drop ((e.toNat)*2)).take 2))) (cond ((Nat.beq (((f.drop ((e.toNat)*2)).take 2).length) 2)&&((Nat.ble 2 2)&&(!false))) (rdI .i64 (setCells [(.int .i64 0),(.int .i64 0)] 0 ((f.drop ((e.toNat)*2)).take 2)) fun ao=>(Ar N 1 1048576 [(.int .i64 ao)] 1 false true (fun ap=>(cond (ap==true) (rdI .i64 ((setCells [(.int .i64 0),(.int .i64 0)] 0 ((f.drop ((e.toNat)*2)).take 2)).drop 1) fun aq=>(Ar N (-1048576) 1048576 [(.int .i64 aq)] 1 false true (fun ar=>(Aa N (cond true ar false) 3 b 4 3 m (fun au=>(k0 l (wrap .i64 (e+1)) au)))))) (Aa N false 3 b 4 3 m (fun av=>(k0 l (wrap .i64 (e+1)) av))))))) none) none) none) none) (q1 1 m))
def B9 (r0:LA→O R) (b:Int) (f:LA) (i:Nat) (c:Bool) (a:LA):Nat→Int→Int→LA→O R
 | 0,_,_,_=>none
 | n+1,l,e,m=>(E4 N r0 b f i c a (B9 r0 b f i c a n) (fun g d=>(B8 N r0 b c a N g d)) l e m)
def G4 (r0:LA→O R) (q0:LA→Nat→Int→Int→LA→O R) (a:LA) (c:Bool) (b:Int) (q:LA):O R :=
 (rdL 2 (a.drop 4) fun bb aw=>(Aa N (decide (((aw:Nat):Int)≤8)) 3 b 4 8 q (fun ax=>(rdL 2 (a.drop 4) fun f i=>(q0 f i ((i:Nat):Int) 0 ax)))))
def Cy:=(Ak (fun (N:Nat) (a:LA) (c:Bool) (b:Int) (q:LA) (r0:LA→O R)=>(G4 N r0 (fun f i l e m=>(B9 N r0 b f i c a N l e m)) a c b q))).1
theorem Ol (a c b q r0):(@Cy R N a c b q r0)=(G4 N r0 (fun f i l e m=>(B9 N r0 b f i c a N l e m)) a c b q):=by rw[Cy,(Ak _).2]
def P6:Hints:={ H:=(hS hL (hS hL (hS hL (hS (hS hL (hS (hP [0,2,4,6,21,22,23] hL) hL)) (hS (hS hL (hS (hP [0,2,4,6,9] hL) hL)) (hS hL (hS (hS hL (hS (hP [0,2,4,6,10,11] hL) hL)) hL))))))) }
def Rt:Tbl:=[(155,Bc N),(156,Ce N)]
def Je (F:KF R):=atM Tryz.f188 P6 (Rt N) [100000] N F
def Bf (F:KF R):LA→O R:=(fun ay=>F (.tup []) [(100000,(bQ 0 ay))])
def Ah2 (b:Int) (d:LA) (c:Bool) (a:LA) (p o:Int):St:=⟨[(0,(.optr 100000 0)),(2,(.int .i64 b)),(4,(.optr 300000 0)),(6,(.int .i64 3)),(10,(.int .i64 p)),(11,(.int .i64 o))],[(100000,(bQ 0 d)),(300000,(bP c 0 a))]⟩
def Ah3 (F:KF R):=Je N F [1,1,1,1,1,1,0,1,0] []
def Ah4 (b:Int) (c:Bool) (a:LA) (g:Int) (d:LA):St:=⟨[(0,(.optr 100000 0)),(2,(.int .i64 b)),(4,(.optr 300000 0)),(6,(.int .i64 3)),(9,(.int .i64 g))],[(100000,(bQ 0 d)),(300000,(bP c 0 a))]⟩
def Ah5 (F:KF R):=Je N F [1,1,1,1,0,1,0] []
def Ah6 (b:Int) (f:LA) (i:Nat) (c:Bool) (a:LA) (l e:Int) (m:LA):St:=⟨[(0,(.optr 100000 0)),(2,(.int .i64 b)),(4,(.optr 300000 0)),(6,(.int .i64 3)),(21,(.imm f i 2 false c)),(22,(.int .i64 l)),(23,(.int .i64 e))],[(100000,(bQ 0 m)),(300000,(bP c 0 a))]⟩
def Ah7 (F:KF R):=Je N F [1,1,1,0,1,0] []
theorem My (F:KF R) (b:Int) (d:LA) (c:Bool) (a:LA):∀ (n:Nat) (p o:Int),As (Ah3 N F) n (Ah2 b d c a p o)=(Co N (Bf F) b d c a n p o)
 | 0,_,_=>by kernel_rfl
 | n+1,p,o=>Eq.trans (by kernel_rfl) (cgA (E3 N (Bf F) b d c a · p o) (funext fun p=>funext fun o=>(My F b d c a n p o)):_)
theorem Mz (F:KF R) (b:Int) (c:Bool) (a:LA):∀ (n:Nat) (g:Int) (d:LA),As (Ah5 N F) n (Ah4 b c a g d)=(B8 N (Bf F) b c a n g d)
 | 0,_,_=>by kernel_rfl
 | n+1,g,d=>Eq.trans (by kernel_rfl) (cgB (Dp N (Bf F) b c a · · g d) (funext fun g=>funext fun d=>(Mz F b c a n g d)) (funext fun p=>funext fun o=>(Am ..).trans (My N F b d c a N p o)):_)
theorem M0 (F:KF R) (b:Int) (f:LA) (i:Nat) (c:Bool) (a:LA):∀ (n:Nat) (l e:Int) (m:LA),As (Ah7 N F) n (Ah6 b f i c a l e m)=(B9 N (Bf F) b f i c a n l e m)
 | 0,_,_,_=>by kernel_rfl
 | n+1,l,e,m=>Eq.trans (by kernel_rfl) (cgB (E4 N (Bf F) b f i c a · · l e m) (funext fun l=>funext fun e=>funext fun m=>(M0 F b f i c a n l e m)) (funext fun g=>funext fun d=>(Am ..).trans (Mz N F b c a N g d)):_)
theorem P7 (a:LA) (c:Bool) (b:Int) (q:LA) (F:KF R):exM (Rt N) P6 N 188 [(.optr 100000 0),(.pagg a c),(.int .i64 b)] [(100000,(bQ 0 q))] F=(Cy N a c b q (Bf F)):=by
 rw[Ol]
 exact Eq.trans (by kernel_rfl) (cgA (G4 N (Bf F) · a c b q) (funext fun f=>funext fun i=>funext fun l=>funext fun e=>funext fun m=>(Am ..).trans (M0 N F b f i c a N l e m)):_)
def Om (args:List AV) (h:Al) (k:KF R):O R :=
 match args,h with
 | [(.optr 100000 0),(.pagg a c),(.int .i64 b)],[(100000,⟨false,false,true,false,0,q,false⟩)]=>(Cy N a c b q (Bf k))
 | _,_=>none
theorem P8:Aq N 188 @Om:=by
 intro R Q args h k j;unfold Om;split
 exact A0 (P7 ..) (P7 ..) ⟨Bi N,Cw N,trivial⟩
 exact A2
def P9:=A1 (P8 N)
theorem Ah8:Ay Tryz.prog 188 (P9 N):=A3 (P8 N) follows
def N4 (r0:LA→O R) (a:Int) (b:Bool) (c g:LA):O R :=
 (rdI .i64 (c.drop 19) fun n=>(cond (n==2) (rdI .i64 (c.drop 2) fun o=>(rdI .i64 (c.drop 3) fun p=>(rdI .i64 (c.drop 21) fun q=>(Ar N o p [(.int .i64 q)] 1 false true (fun r=>(Aa N r 3 a 21 3 g (fun s=>(r0 s)))))))) (rdI .i64 (c.drop 21) fun t=>(Aa N (t==0) 3 a 21 3 g (fun u=>(r0 u))))))
def M5 (r0:LA→O R) (a:Int) (b:Bool) (q1:LA→O R) (f c:LA):O R :=
 (rdI .i64 (c.drop 20) fun v=>(Ar N 1 48 [(.int .i64 v)] 1 false true (fun w=>(Aa N w 3 a 20 3 f (fun l=>(rdI .i64 (c.drop 19) fun x=>(cond ((x != 1)==false) (rdI .i64 (c.drop 20) fun y=>(rdI .i64 (c.drop 12) fun z=>(Aa N (cond false true (decide (y≤z))) 3 a 20 3 l (fun aa=>(q1 aa))))) (Aa N true 3 a 20 3 l (fun ab=>(q1 ab))))))))))
def Is (r0:LA→O R) (a:Int) (b:Bool) (f c:LA):O R:=(M5 N r0 a b (fun g=>(N4 N r0 a b c g)) f c)
def Lx (r0:LA→O R) (q0:LA→LA→O R) (e:LA) (b:Bool) (a:Int) (i:LA):O R :=
 (rdL 22 (e.drop 4) fun d ac=>(cond (Aj a ac) (cond (Nat.ble 22 ((d.drop ((a.toNat)*22)).length)) (cond ((Nat.beq 0 0)&&((Nat.beq (((d.drop ((a.toNat)*22)).take 22).length) 22)&&(Nat.beq 22 22))) (cond (Nat.ble 8 (e.length)) (B7 N (e.take 8) b 3 a i (fun ad=>(cond (Nat.ble 8 (e.length)) (rdI .i64 (((d.drop ((a.toNat)*22)).take 22).drop 1) fun ae=>(Cz N (e.take 8) b ae 3 a 1 ad (fun af=>(rdI .i64 (((d.drop ((a.toNat)*22)).take 22).drop 2) fun ag=>(Ar N 0 1048576 [(.int .i64 ag)] 1 false true (fun ah=>(Aa N ah 3 a 2 3 af (fun ai=>(rdI .i64 (((d.drop ((a.toNat)*22)).take 22).drop 2) fun aj=>(rdI .i64 (((d.drop ((a.toNat)*22)).take 22).drop 3) fun ak=>(Ar N aj 1048576 [(.int .i64 ak)] 1 false true (fun al=>(Aa N al 3 a 3 3 ai (fun am=>(cond (Nat.ble 22 (((d.drop ((a.toNat)*22)).take 22).length)) (Cy N (((d.drop ((a.toNat)*22)).take 22).take 22) b a am (fun an=>(rdI .i64 (((d.drop ((a.toNat)*22)).take 22).drop 5) fun ao=>(Ar N 0 1048576 [(.int .i64 ao)] 1 false true (fun ap=>(Aa N ap 3 a 5 3 an (fun aq=>(rdI .i64 (((d.drop ((a.toNat)*22)).take 22).drop 6) fun ar=>(Ar N 0 1048576 [(.int .i64 ar)] 1 false true (fun au=>(Aa N au 3 a 6 3 aq (fun av=>(rdI .i64 (((d.drop ((a.toNat)*22)).take 22).drop 7) fun aw=>(Ar N 0 1048576 [(.int .i64 aw)] 1 false true (fun ax=>(Aa N ax 3 a 7 3 av (fun ay=>(rdI .i64 (((d.drop ((a.toNat)*22)).take 22).drop 2) fun az=>(rdI .i64 (((d.drop ((a.toNat)*22)).take 22).drop 3) fun ba=>(rdI .i64 (((d.drop ((a.toNat)*22)).take 22).drop 8) fun bb=>(Ar N az ba [(.int .i64 bb)] 1 false true (fun bc=>(Aa N bc 3 a 8 3 ay (fun bd=>(rdI .i64 (((d.drop ((a.toNat)*22)).take 22).drop 2) fun be=>(rdI .i64 (((d.drop ((a.toNat)*22)).take 22).drop 3) fun bf=>(rdI .i64 (((d.drop ((a.toNat)*22)).take 22).drop 9) fun bg=>(Ar N be bf [(.int .i64 bg)] 1 false true (fun bh=>(Aa N bh 3 a 9 3 bd (fun bi=>(rdI .i64 (((d.drop ((a.toNat)*22)).take 22).drop 10) fun bj=>(Ar N 0 24 [(.int .i64 bj)] 1 false true (fun bk=>(Aa N bk 3 a 10 3 bi (fun bl=>(rdI .i64 (((d.drop ((a.toNat)*22)).take 22).drop 11) fun bm=>(Ar N 0 24 [(.int .i64 bm)] 1 false true (fun bn=>(Aa N bn 3 a 11 3 bl (fun bo=>(rdI .i64 (((d.drop ((a.toNat)*22)).take 22).drop 12) fun bp=>(Ar N 0 24 [(.int .i64 bp)] 1 false true (fun bq=>(Aa N bq 3 a 12 3 bo (fun br=>(rdI .i64 (((d.drop ((a.toNat)*22)).take 22).drop 13) fun bs=>(Ar N 0 1048576 [(.int .i64 bs)] 1 false true (fun bt=>(Aa N bt 3 a 13 3 br (fun bu=>(rdI .i64 (((d.drop ((a.toNat)*22)).take 22).drop 14) fun bv=>(Ar N 0 1048576 [(.int .i64 bv)] 1 false true (fun bw=>(Aa N bw 3 a 14 3 bu (fun bx=>(rdI .i64 (((d.drop ((a.toNat)*22)).take 22).drop 15) fun bz=>(Ar N 0 24 [(.int .i64 bz)] 1 false true (fun ca=>(Aa N ca 3 a 15 3 bx (fun cb=>(rdI .i64 (((d.drop ((a.toNat)*22)).take 22).drop 16) fun cc=>(Ar N 0 1048576 [(.int .i64 cc)] 1 false true (fun cd=>(Aa N cd 3 a 16 3 cb (fun ce=>(rdI .i64 (((d.drop ((a.toNat)*22)).take 22).drop 17) fun cf=>(Ar N 0 1048576 [(.int .i64 cf)] 1 false true (fun cg=>(Aa N cg 3 a 17 3 ce (fun ch=>(cond (Nat.ble 8 (e.length)) (rdL 1 (((d.drop ((a.toNat)*22)).take 22).drop 18) fun ci cj=>(Eu N (e.take 8) b ci cj false b 3 a 18 ch (fun ck=>(rdI .i64 (((d.drop ((a.toNat)*22)).take 22).drop 19) fun cl=>(Ar N 0 2 [(.int .i64 cl)] 1 false true (fun cm=>(Aa N cm 3 a 19 12 ck (fun m=>(rdI .i64 (((d.drop ((a.toNat)*22)).take 22).drop 19) fun cn=>(cond ((cn != 1)==false) (rdI .i64 (((d.drop ((a.toNat)*22)).take 22).drop 12) fun co=>(Aa N (cond false true (decide (co>0))) 3 a 19 16 m (fun cp=>(q0 cp ((d.drop ((a.toNat)*22)).take 22))))) (Aa N true 3 a 19 16 m (fun cq=>(q0 cq ((d.drop ((a.toNat)*22)).take 22)))))))))))))) none)))))))))))))))))))))))))))))))))))))))))))))))))))))))))))))))))))))))) none))))))))))))))) none))) none) none) none) none))
def Gf:=(Ak (fun (N:Nat) (e:LA) (b:Bool) (a:Int) (i:LA) (r0:LA→O R)=>(Lx N r0 (fun f c=>(Is N r0 a b f c)) e b a i))).1
theorem V8 (e b a i r0):(@Gf R N e b a i r0)=(Lx N r0 (fun f c=>(Is N r0 a b f c)) e b a i):=by rw[Gf,(Ak _).2]
def X3:Hints:={ H:=(hS hL (hS hL (hS hL (hS hL (hS hL (hS hL (hS hL (hS hL (hS hL (hS hL (hS hL (hS hL (hS hL (hS hL (hS hL (hS hL (hS hL (hS hL (hS hL (hS hL (hS hL (hS hL (hJ [0,2,6,7] hL (hS hL (hJ [0,2,6,7] hL hL))))))))))))))))))))))))) }
def Abr:Tbl:=[(153,De N),(185,Gw N),(156,Ce N),(155,Bc N),(188,P9 N),(187,N0 N)]
def X4 (F:KF R):=atM Tryz.f158 X3 (Abr N) [100000] N F
def Ee (F:KF R):LA→O R:=(fun cr=>F (.tup []) [(100000,(bQ 0 cr))])
def At9 (a:Int) (b:Bool) (c g:LA):St:=⟨[(0,(.optr 100000 0)),(2,(.int .i64 a)),(6,(.optr 300000 0)),(7,(.int .i64 3))],[(100000,(bQ 0 g)),(300000,(bP b 0 c))]⟩
def Aua (F:KF R):=X4 N F [1,1,1,1,1,1,1,1,1,1,1,1,1,1,1,1,1,1,1,1,1,1,1,1,1] []
def Aub (a:Int) (b:Bool) (f c:LA):St:=⟨[(0,(.optr 100000 0)),(2,(.int .i64 a)),(6,(.optr 300000 0)),(7,(.int .i64 3))],[(100000,(bQ 0 f)),(300000,(bP b 0 c))]⟩
def Auc (F:KF R):=X4 N F [1,1,1,1,1,1,1,1,1,1,1,1,1,1,1,1,1,1,1,1,1,1,1] []
theorem Akp (F:KF R) (a:Int) (b:Bool) (c:LA):∀ (g:LA),Bh (Aua N F) (At9 a b c g)=(N4 N (Ee F) a b c g):=by
 intro g
 kernel_rfl
theorem Akq (F:KF R) (a:Int) (b:Bool):∀ (f c:LA),Bh (Auc N F) (Aub a b f c)=(Is N (Ee F) a b f c):=by
 intro f c
 exact Eq.trans (by kernel_rfl) (cgA (M5 N (Ee F) a b · f c) (funext fun g=>(Au ..).trans (Akp N F a b c g)):_)
theorem X5 (e:LA) (b:Bool) (a:Int) (i:LA) (F:KF R):exM (Abr N) X3 N 158 [(.optr 100000 0),(.pagg e b),(.int .i64 a)] [(100000,(bQ 0 i))] F=(Gf N e b a i (Ee F)):=by
 rw[V8]
 exact Eq.trans (by kernel_rfl) (cgA (Lx N (Ee F) · e b a i) (funext fun f=>funext fun c=>(Au ..).trans (Akq N F a b f c)):_)
def V9 (args:List AV) (h:Al) (k:KF R):O R :=
 match args,h with
 | [(.optr 100000 0),(.pagg e b),(.int .i64 a)],[(100000,⟨false,false,true,false,0,i,false⟩)]=>(Gf N e b a i (Ee k))
 | _,_=>none
theorem X6:Aq N 158 @V9:=by
 intro R Q args h k j;unfold V9;split
 exact A0 (X5 ..) (X5 ..) ⟨Ed N,Kd N,Cw N,Bi N,Ah8 N,Xw N,trivial⟩
 exact A2
def X7:=A1 (X6 N)
theorem Aud:Ay Tryz.prog 158 (X7 N):=A3 (X6 N) follows
def Pf (r0:LA→O R) (c:LA) (d:Bool) (a:Int) (e:LA):O R :=
 (rdL 9 (c.drop 5) fun b g=>(cond (Aj a g) (cond (Nat.ble 9 ((b.drop ((a.toNat)*9)).length)) (cond ((Nat.beq 0 0)&&((Nat.beq (((b.drop ((a.toNat)*9)).take 9).length) 9)&&(Nat.beq 9 9))) (cond (Nat.ble 8 (c.length)) (B7 N (c.take 8) d 4 a e (fun i=>(cond (Nat.ble 8 (c.length)) (rdI .i64 (((b.drop ((a.toNat)*9)).take 9).drop 1) fun l=>(Cz N (c.take 8) d l 4 a 1 i (fun m=>(rdI .i64 (((b.drop ((a.toNat)*9)).take 9).drop 2) fun n=>(Ar N 0 1048576 [(.int .i64 n)] 1 false true (fun o=>(Aa N o 4 a 2 3 m (fun p=>(rdI .i64 (((b.drop ((a.toNat)*9)).take 9).drop 2) fun q=>(rdI .i64 (((b.drop ((a.toNat)*9)).take 9).drop 3) fun r=>(Ar N 0 q [(.int .i64 r)] 1 false true (fun s=>(Aa N s 4 a 3 3 p (fun t=>(rdI .i64 (((b.drop ((a.toNat)*9)).take 9).drop 2) fun u=>(rdI .i64 (((b.drop ((a.toNat)*9)).take 9).drop 4) fun v=>(Ar N 0 u [(.int .i64 v)] 1 false true (fun w=>(Aa N w 4 a 4 3 t (fun x=>(rdI .i64 (((b.drop ((a.toNat)*9)).take 9).drop 5) fun y=>(Ar N 0 1048576 [(.int .i64 y)] 1 false true (fun z=>(Aa N z 4 a 5 3 x (fun aa=>(rdI .i64 (((b.drop ((a.toNat)*9)).take 9).drop 6) fun ab=>(Ar N 0 1048576 [(.int .i64 ab)] 1 false true (fun ac=>(Aa N ac 4 a 6 3 aa (fun f=>(cond (Nat.ble 2 ((((b.drop ((a.toNat)*9)).take 9).drop 7).length)) (cond ((!d)||(Bb ((((b.drop ((a.toNat)*9)).take 9).drop 7).take 2))) (F0 N ((((b.drop ((a.toNat)*9)).take 9).drop 7).take 2) false (fun ad=>(cond (ad==true) (rdI .i64 (((b.drop ((a.toNat)*9)).take 9).drop 7) fun ae=>(cond ((cond true (decide (ae>0)) false)==true) (rdI .i64 (((b.drop ((a.toNat)*9)).take 9).drop 7) fun af=>(rdI .i64 (((b.drop ((a.toNat)*9)).take 9).drop 8) fun ag=>(Aa N (cond true (decide (af≤ag)) false) 4 a 7 3 f (fun ah=>(r0 ah))))) (Aa N false 4 a 7 3 f (fun ai=>(r0 ai))))) (Aa N false 4 a 7 3 f (fun aj=>(r0 aj)))))) none) none))))))))))))))))))))))))))))))) none))) none) none) none) none))
def Fk:=(Ak (fun (N:Nat) (c:LA) (d:Bool) (a:Int) (e:LA) (r0:LA→O R)=>(Pf N r0 c d a e))).1
theorem Sh (c d a e r0):(@Fk R N c d a e r0)=(Pf N r0 c d a e):=by rw[Fk,(Ak _).2]
def Ar2:Hints:={ H:=hL }
def Aue:Tbl:=[(153,De N),(185,Gw N),(156,Ce N),(155,Bc N),(186,Ww N)]
def Wa (F:KF R):LA→O R:=(fun ak=>F (.tup []) [(100000,(bQ 0 ak))])
theorem Wb (c:LA) (d:Bool) (a:Int) (e:LA) (F:KF R):exM (Aue N) Ar2 N 159 [(.optr 100000 0),(.pagg c d),(.int .i64 a)] [(100000,(bQ 0 e))] F=(Fk N c d a e (Wa F)):=by
 rw[Sh]
 kernel_rfl
def Si (args:List AV) (h:Al) (k:KF R):O R :=
 match args,h with
 | [(.optr 100000 0),(.pagg c d),(.int .i64 a)],[(100000,⟨false,false,true,false,0,e,false⟩)]=>(Fk N c d a e (Wa k))
 | _,_=>none
theorem Wc:Aq N 159 @Si:=by
 intro R Q args h k j;unfold Si;split
 exact A0 (Wb ..) (Wb ..) ⟨Ed N,Kd N,Cw N,Bi N,Am7 N,trivial⟩
 exact A2
def Wd:=A1 (Wc N)
theorem Ar3:Ay Tryz.prog 159 (Wd N):=A3 (Wc N) follows
def Ty (r0:LA→O R) (b:LA) (c:Bool) (a:Int) (d:LA):O R :=
 (rdL 5 (b.drop 6) fun e f=>(cond (Aj a f) (cond (Nat.ble 5 ((e.drop ((a.toNat)*5)).length)) (cond ((Nat.beq 0 0)&&((Nat.beq (((e.drop ((a.toNat)*5)).take 5).length) 5)&&(Nat.beq 5 5))) (cond (Nat.ble 8 (b.length)) (B7 N (b.take 8) c 5 a d (fun g=>(cond (Nat.ble 8 (b.length)) (rdI .i64 (((e.drop ((a.toNat)*5)).take 5).drop 1) fun i=>(Cz N (b.take 8) c i 5 a 1 g (fun l=>(cond (Nat.ble 8 (b.length)) (rdL 1 (((e.drop ((a.toNat)*5)).take 5).drop 2) fun m n=>(By N (b.take 8) c m n false c 0 1048576 5 a 2 l (fun o=>(cond (Nat.ble 8 (b.length)) (rdL 1 (((e.drop ((a.toNat)*5)).take 5).drop 3) fun p q=>(By N (b.take 8) c p q false c 0 1048576 5 a 3 o (fun r=>(cond (Nat.ble 8 (b.length)) (rdL 1 (((e.drop ((a.toNat)*5)).take 5).drop 4) fun s t=>(By N (b.take 8) c s t false c (-1048576) 1048576 5 a 4 r (fun u=>(r0 u)))) none)))) none)))) none)))) none))) none) none) none) none))
def Hp:=(Ak (fun (N:Nat) (b:LA) (c:Bool) (a:Int) (d:LA) (r0:LA→O R)=>(Ty N r0 b c a d))).1
theorem X8 (b c a d r0):(@Hp R N b c a d r0)=(Ty N r0 b c a d):=by rw[Hp,(Ak _).2]
def Azz:Hints:={ H:=hL }
def A4q:Tbl:=[(153,De N),(185,Gw N),(154,G2 N)]
def Abs (F:KF R):LA→O R:=(fun v=>F (.tup []) [(100000,(bQ 0 v))])
theorem Abt (b:LA) (c:Bool) (a:Int) (d:LA) (F:KF R):exM (A4q N) Azz N 160 [(.optr 100000 0),(.pagg b c),(.int .i64 a)] [(100000,(bQ 0 d))] F=(Hp N b c a d (Abs F)):=by
 rw[X8]
 kernel_rfl
def X9 (args:List AV) (h:Al) (k:KF R):O R :=
 match args,h with
 | [(.optr 100000 0),(.pagg b c),(.int .i64 a)],[(100000,⟨false,false,true,false,0,d,false⟩)]=>(Hp N b c a d (Abs k))
 | _,_=>none
theorem Abu:Aq N 160 @X9:=by
 intro R Q args h k j;unfold X9;split
 exact A0 (Abt ..) (Abt ..) ⟨Ed N,Kd N,Lf N,trivial⟩
 exact A2
def Abv:=A1 (Abu N)
theorem Az0:Ay Tryz.prog 160 (Abv N):=A3 (Abu N) follows
end
end Gx

namespace Gx.Cf
open Go Go.Proofs
section
variable {R:Type}
theorem Afd {p:Err} {f:Int→Option R}:rdI .i64 (List.drop 3 (Cq p)) f=f (G7 p):=by
 rcases p with _ | ⟨⟨a,b,f'⟩,e,he⟩<;>simp[Cq,B8e,Ax,G7]
theorem Lh {N:Nat} {i:Int} {u:UnitD} {o:Bool} {p:Err} {K:List AV→Option R} (hs:u.segs.l.length<4611686018427387904):∀ (m j fuel:Nat) (a:Int),j+m=u.segs.l.length→m<fuel →
  Co N K i (Cq p) o u.av fuel a (j:Int)=K (Cq (nd p (Aki a (u.segs.l.drop j)==IntKind.wrap .i64 (u.max - u.min)) (3,i,4) e4))
 | 0,j,fuel+1,a,hj,_=>by
  rw[Co];unfold E3
  simp only[A7i,B98,B99,Afd,Af (show(4:Int)≠0 by decide)]
  rw[ltF (by omega),I8 (l:=u.segs.l) (by omega),Aki,Aj9]
  rcases p with _ | ⟨x,e,he⟩
  ·simp[G7]
  ·have:(e != 0)=true:=by simpa using he
   simp[G7,this,nd]
 | m+1,j,fuel+1,a,hj,hf=>by
  rw[Co];unfold E3
  have h:j<u.segs.l.length:=by omega
  simp only[A7i,B98,B99,Afd,Af (show(4:Int)≠0 by decide),B6l h,Ab h]
  rw[ltT h,El (by omega),Lh hs m (j+1) fuel _ (by omega) (by omega),F4 h,Aki,Aj9]
  rcases p with _ | ⟨x,e,he⟩
  ·simp[G7]
  ·have h1:(e != 0)=true:=by simpa using he
   have h2:(e==0)=false:=by simpa using he
   simp[G7,h1,h2,nd]
theorem Sj {N:Nat} {i:Int} {u:UnitD} {o:Bool} {K:List AV→Option R} (hs:Pd u.segs.l.length N):∀ (m j fuel:Nat) (p:Err),j+1+m=u.segs.l.length→m<fuel →
  B8 N K i o u.av fuel ((j+1:Nat):Int) (Cq p)=K (Cq (nd (nd p (Ar1 (u.segs.l.drop j)) (3,i,4) e11) (Aki 0 u.segs.l==IntKind.wrap .i64 (u.max - u.min)) (3,i,4) e4))
 | 0,j,fuel+1,p,hj,_=>by
  rw[B8];unfold Dp
  rw[A7i,ltF (by omega),cf,F4 (l:=u.segs.l) (j:=j) (by omega),I8 (l:=u.segs.l) (j:=j+1) (by omega),Blq,Aj9]
  have:=Lh (R:=R) (N:=N) (i:=i) (u:=u) (o:=o) (p:=p) (K:=K) hs.2 u.segs.l.length 0 N 0 (by omega) hs.1
  simpa using this
 | m+1,j,fuel+1,p,hj,hf=>by
  rw[B8];unfold Dp
  have h:j+1<u.segs.l.length:=by omega
  have h':j<u.segs.l.length:=by omega
  have hs2:=hs.2
  simp only[A7i]
  rw[ltT h,ct,Ab h,ct,Brb h,Bln (by omega),Ab h',ct,Brb h',El (by omega),Af (by decide),Sj hs m (j+1) fuel _ (by omega) (by omega),F4 h',F4 h,Akj,Bya]
theorem Sk {N:Nat} {i:Int} {u:UnitD} {o:Bool} {K:List AV→Option R} (hN:8≤N) (hs:Pd u.segs.l.length N):∀ (m j fuel:Nat) (p:Err),j+m=u.segs.l.length→m<fuel →
  B9 N K i (u.segs.l.flatMap SegD.av) u.segs.l.length o u.av fuel (u.segs.l.length:Int) (j:Int) (Cq p) =
   K (Cq (nd (nd (nd p ((u.segs.l.drop j).all Ek) (3,i,4) e3) (Ar1 u.segs.l) (3,i,4) e11) (Aki 0 u.segs.l==IntKind.wrap .i64 (u.max - u.min)) (3,i,4) e4))
 | 0,j,fuel+1,p,hj,_=>by
  rw[B9];unfold E4
  rw[ltF (by omega),cf,I8 (l:=u.segs.l) (by omega),List.all_nil,Aj9]
  rcases hl:u.segs.l with _ | ⟨b,r⟩
  ·rw[Byi,Aj9]
   have l2:=Lh (R:=R) (N:=N) (i:=i) (u:=u) (o:=o) (p:=p) (K:=K) hs.2 u.segs.l.length 0 N 0 (by omega) hs.1
   rcases N with _ | N
   ·omega
   ·dsimp only
    rw[B8];unfold Dp
    rw[A7i,hl]
    simp only[List.length_nil,Int.natCast_zero]
    rw[show decide ((1:Int)<0)=false by decide,cf]
    rw[hl] at l2
    simpa using l2
  ·have:=Sj (R:=R) (N:=N) (i:=i) (u:=u) (o:=o) (K:=K) hs r.length 0 N p (by rw[hl];simp;omega) (by have:=hs.1;rw[hl] at this;simp at this;omega)
   rw[hl] at this
   simpa using this
 | m+1,j,fuel+1,p,hj,hf=>by
  rw[B9];unfold E4
  have h:j<u.segs.l.length:=by omega
  have hs2:=hs.2
  rw[ltT h,ct,Ab h,ct,Int.toNat_natCast,Bn Abp _ _ h,F4 h,List.all_cons,El (by omega)]
  have b1:Nat.ble 2 (List.length (u.segs.l[j].av++List.flatMap SegD.av (List.drop (j+1) u.segs.l)))=true:=by rw[Ef,List.length_append,Abp];simp
  have b2:List.take 2 (u.segs.l[j].av++List.flatMap SegD.av (List.drop (j+1) u.segs.l))=u.segs.l[j].av:=List.take_left' (Abp _)
  rw[b1,ct,b2,Abp]
  simp only[SegD.av,setCells,Dk,List.nil_append,List.append_nil,List.drop_nil,List.drop_succ_cons,List.drop_zero,List.take_zero,List.length_cons,List.length_nil,Ax,Ef,Bts,Bb,Nat.reduceAdd,decide_true,Bool.and_true,Bool.or_true,Bool.not_false,cond_true,Nat.zero_add,Nat.le_refl,Dq hN,Af (show(3:Int)≠0 by decide),Sk hN hs m (j+1) fuel _ (show j+1+m=_ by omega) (show m<fuel by omega)]
  unfold Ek
  rw[Bya,Bya]
  cases btw 1 1048576 u.segs.l[j].width<;>rfl
theorem Ab3 {N:Nat} {p:Err} {j:Nat} {u:UnitD} {o:Bool} {K:List AV→Option R} (hN:8≤N) (hs:Pd u.segs.l.length N) :
  Cy N u.av o (j:Int) (Cq p) K=K (Cq (B8f u j p)):=by
 rw[Ol];unfold G4
 simp only[A7i,Af (show(8:Int)≠0 by decide)]
 have:=Sk (R:=R) (N:=N) (i:=j) (u:=u) (o:=o) (K:=K) hN hs u.segs.l.length 0 N (nd p (decide ((u.segs.l.length:Int)≤8)) (3,j,4) e8) (by omega) hs.1
 simpa[B8f] using this
theorem We {N:Nat} {i:Int} {l:List MoveD} {o:Bool} {K:List AV→Option R} (hN:8≤N) (hs:l.length<4611686018427387904):∀ (m j fuel:Nat) (p:Err),j+m=l.length→m<fuel →
  Dh N K i (l.flatMap MoveD.av) l.length o fuel (l.length:Int) (j:Int) (Cq p)=K (Cq (nd p ((l.drop j).all B6m) (6,i,3) e3))
 | 0,j,fuel+1,p,hj,_=>by
  rw[Dh];unfold F1
  rw[ltF (by omega),cf,I8 (by omega),List.all_nil,Aj9]
 | m+1,j,fuel+1,p,hj,hf=>by
  rw[Dh];unfold F1
  have h:j<l.length:=by omega
  rw[ltT h,ct,Ab h,ct,Int.toNat_natCast,Bn Nt _ _ h,F4 h,List.all_cons,El (by omega)]
  have b1:Nat.ble 3 (List.length (l[j].av++List.flatMap MoveD.av (List.drop (j+1) l)))=true:=by rw[Ef,List.length_append,Nt];simp
  have b2:List.take 3 (l[j].av++List.flatMap MoveD.av (List.drop (j+1) l))=l[j].av:=List.take_left' (Nt _)
  rw[b1,ct,b2,Nt]
  simp only[MoveD.av,setCells,Dk,List.nil_append,List.append_nil,List.drop_nil,List.drop_succ_cons,List.drop_zero,List.take_zero,List.length_cons,List.length_nil,Ax,Ef,Bts,Bb,Nat.reduceAdd,decide_true,Bool.and_true,Bool.or_true,Bool.not_false,cond_true,Nat.zero_add,Nat.le_refl,Bdn hN,Af (show(3:Int)≠0 by decide),We hN hs m (j+1) fuel _ (show j+1+m=_ by omega) (show m<fuel by omega)]
  rw[Bya];rfl
theorem Wf {N:Nat} {c:CaseD} {i:Int} {u:OutD} {o:Bool} {p:Err} {K:List AV→Option R} (hN:8≤N) (hu:c.units.l.length≤1000000) (hs:Pd u.moves.l.length N) (hb:u.moves.l.length<8796093022208):∀ (m j fuel:Nat),j+m=u.moves.l.length→m<fuel →
  Di N K i (u.moves.l.flatMap MoveD.av) u.moves.l.length o (Cq p) c.av u.av fuel j (u.moves.l.length:Int) (j:Int) (Az ((u.moves.l.take j).map (·.unit))) =
   K (Cq (nd (nd (nd p (u.moves.l.all (B9o c)) (6,i,3) e12) (asc (u.moves.l.map (·.unit))) (6,i,3) e11) (u.moves.l.all B6m) (6,i,3) e3))
 | 0,j,fuel+1,hj,_=>by
  rw[Di];unfold F2
  have hjl:j=u.moves.l.length:=by omega
  rw[ltF (by omega),cf,Nat.mul_one,List.take_of_length_le (by simp[Hx];omega),List.take_of_length_le (show u.moves.l.length≤j by omega)]
  rw[Abo,Gb (by simp;omega) (by simpa using hs),Af (by decide),Wx (by simp;omega) (by simpa using hs),Af (by decide),B3o]
  have:=We (R:=R) (N:=N) (i:=i) (l:=u.moves.l) (o:=o) (K:=K) hN hs.2 u.moves.l.length 0 N (nd (nd p (u.moves.l.all (B9o c)) (6,i,3) e12) (asc (u.moves.l.map (·.unit))) (6,i,3) e11) (by omega) hs.1
  have e:(u.moves.l.map (·.unit)).all (btw 0 (IntKind.wrap .i64 ((c.units.l.length:Int) - 1)))=u.moves.l.all (B9o c):=by
   rw[List.all_map];congr 1;funext m;exact B1y _ _ (by omega)
  rw[e]
  simpa using this
 | m+1,j,fuel+1,hj,hf=>by
  rw[Di];unfold F2
  have h:j<u.moves.l.length:=by omega
  have b1:Nat.ble 3 (List.length (u.moves.l[j].av++List.flatMap MoveD.av (List.drop (j+1) u.moves.l)))=true:=by rw[Ef,List.length_append,Nt];simp
  have b2:List.take 3 (u.moves.l[j].av++List.flatMap MoveD.av (List.drop (j+1) u.moves.l))=u.moves.l[j].av:=List.take_left' (Nt _)
  have b3:(decide (j≤140737488355327)&&decide ((j+1)*8≤140737488355328))=true:=by simp;omega
  have b4:List.take (j*1) (Az ((u.moves.l.take j).map (·.unit)))++[.int .i64 u.moves.l[j].unit]=Az ((u.moves.l.take (j+1)).map (·.unit)):=by
   rw[List.take_of_length_le (by simp[Hx];omega),List.take_succ_eq_append_getElem h,List.map_append,←Bbq];rfl
  rw[ltT h,ct,Ab h,ct,Int.toNat_natCast,Bn Nt _ _ h,El (by omega),b1,ct,b2,Nt]
  simp only[MoveD.av,setCells,Dk,List.nil_append,List.append_nil,List.drop_nil,List.drop_succ_cons,List.take_zero,List.length_cons,List.length_nil,Ax,Ef,Bts,Bb,Nat.reduceAdd,Nat.reduceLeDiff,decide_true,Bool.and_true,Bool.or_true,Bool.not_false,cond_true,Nat.zero_add,Nat.le_refl,b3,b4,Wf hN hu hs hb m (j+1) fuel (show j+1+m=_ by omega) (show m<fuel by omega)]
theorem Ar4 {N:Nat} {c:CaseD} {p:Err} {o:Bool} {j:Nat} {K:List AV→Option R} (hs:Small c N) (h:j<c.ties.l.length) :
  Hp N c.av o (j:Int) (Cq p) K=K (Cq (B9n c j c.ties.l[j] p)):=by
 have hN:=hs.n64
 have hN8:8≤N:=by omega
 have hfit:=hs.tie
 have htop:=hs.top
 have hm:c.ties.l[j] ∈ c.ties.l:=List.getElem_mem h
 have hd:=hs.tim _ hm;have hd2:=hs.tex _ hm;have hd3:=hs.tpr _ hm
 have hnm:=@Dj R N c (c.ties.l.map (·.name)) o (k:=5) (n:=j) (hN:=hN) (hL:=fun K=>Bls hs) (hn:=by simpa using h) (hs:=⟨by have:=hfit.1;omega,by have:=hfit.2;omega⟩)
 have hne:(c.ties.l.map (·.name))[j]'(by simpa using h)=c.ties.l[j].name:=by simp
 rw[hne] at hnm
 rw[X8];unfold Ty 
 rw[Ati,Ab h,ct,Int.toNat_natCast,Bn V5 _ _ h]
 generalize c.ties.l[j]=b at *
 have b1:Nat.ble 5 (List.length (b.av++List.flatMap TieD.av (List.drop (j+1) c.ties.l)))=true:=by rw[Ef,List.length_append,V5];simp
 have b2:List.take 5 (b.av++List.flatMap TieD.av (List.drop (j+1) c.ties.l))=b.av:=List.take_left' (V5 b)
 rw[b1,ct,b2,V5]
 simp only[E2,hnm,TieD.av,List.drop_succ_cons,List.drop_zero,Ax,I7,F9,Ef,Bts,decide_true,Bool.and_true,cond_true]
 simp only[H2 hN8 (show c.buses.l.length<4611686018427387904 by omega),Dx rfl hd,Dx rfl hd2,Dx rfl hd3]
 rfl
theorem Akr {N:Nat} {c:CaseD} {p:Err} {o:Bool} {j:Nat} {K:List AV→Option R} (hs:Small c N) (h:j<c.stores.l.length) :
  Fk N c.av o (j:Int) (Cq p) K=K (Cq (Blp c j c.stores.l[j] p)):=by
 have hN:=hs.n64
 have hN8:8≤N:=by omega
 have hfit:=hs.sto
 have htop:=hs.top
 have hm:c.stores.l[j] ∈ c.stores.l:=List.getElem_mem h
 skip
 have hnm:=@Dj R N c (c.stores.l.map (·.name)) o (k:=4) (n:=j) (hN:=hN) (hL:=fun K=>A4p hs) (hn:=by simpa using h) (hs:=⟨by have:=hfit.1;omega,by have:=hfit.2;omega⟩)
 have hne:(c.stores.l.map (·.name))[j]'(by simpa using h)=c.stores.l[j].name:=by simp
 rw[hne] at hnm
 rw[Sh];unfold Pf 
 rw[Zf,Ab h,ct,Int.toNat_natCast,Bn Ms _ _ h]
 generalize c.stores.l[j]=b at *
 have b1:Nat.ble 9 (List.length (b.av++List.flatMap StoreD.av (List.drop (j+1) c.stores.l)))=true:=by rw[Ef,List.length_append,Ms];simp
 have b2:List.take 9 (b.av++List.flatMap StoreD.av (List.drop (j+1) c.stores.l))=b.av:=List.take_left' (Ms b)
 rw[b1,ct,b2,Ms]
 simp only[E2,hnm,StoreD.av,List.drop_succ_cons,List.drop_zero,List.take_succ_cons,List.take_zero,List.length_cons,List.length_nil,Ax,Ef,Bts,Bb,Nat.reduceAdd,decide_true,Bool.and_true,Bool.or_true,cond_true,Nat.zero_add,Nat.le_refl]
 simp only[H2 hN8 (show c.buses.l.length<4611686018427387904 by omega),Dq hN8,Af (show(3:Int)≠0 by decide),Aej hN8]
 unfold Blp;cases Pe b.eff<;>cases decide (b.eff.num>0)<;>rfl
theorem Any {N:Nat} {c:CaseD} {p:Err} {o:Bool} {j:Nat} {K:List AV→Option R} (hs:Small c N) (h:j<c.lines.l.length) :
  Ge N c.av o (j:Int) (Cq p) K=K (Cq (Bra c j c.lines.l[j] p)):=by
 have hN:=hs.n64
 have hN8:8≤N:=by omega
 have hfit:=hs.lin
 have htop:=hs.top
 have hm:c.lines.l[j] ∈ c.lines.l:=List.getElem_mem h
 have hd:=hs.law _ hm
 have hnm:=@Dj R N c (c.lines.l.map (·.name)) o (k:=2) (n:=j) (hN:=hN) (hL:=fun K=>Bb7 hs) (hn:=by simpa using h) (hs:=⟨by have:=hfit.1;omega,by have:=hfit.2;omega⟩)
 have hne:(c.lines.l.map (·.name))[j]'(by simpa using h)=c.lines.l[j].name:=by simp
 rw[hne] at hnm
 rw[V6];unfold Lw Ir Mx N2 Mw N1
 rw[Ok,Ab h,ct,Int.toNat_natCast,Bn Gc _ _ h]
 generalize c.lines.l[j]=b at *
 have b1:Nat.ble 12 (List.length (b.av++List.flatMap LineD.av (List.drop (j+1) c.lines.l)))=true:=by rw[Ef,List.length_append,Gc];simp
 have b2:List.take 12 (b.av++List.flatMap LineD.av (List.drop (j+1) c.lines.l))=b.av:=List.take_left' (Gc b)
 rw[b1,ct,b2,Gc]
 simp only[E2,hnm,LineD.av,List.drop_succ_cons,List.drop_zero,List.take_succ_cons,List.take_zero,List.length_cons,List.length_nil,Ax,I7,F9,Ef,Bts,Bb,Nat.reduceAdd,Nat.reduceLeDiff,decide_true,Bool.and_true,Bool.or_true,cond_true,Nat.zero_add]
 simp only[H2 hN8 (show c.buses.l.length<4611686018427387904 by omega),Dq hN8,Af (show(1:Int)≠0 by decide),Af (show(3:Int)≠0 by decide),Aej hN8,Sf rfl hd]
 unfold Bra;rw[show(b.fr != b.to)=(b.to != b.fr) by simp[bne,BEq.comm (a:=b.fr)]];cases Pe b.re<;>cases Pe b.smin<;>cases Pe b.smax<;>rfl
end
end Gx.Cf

namespace Gx.Cf
open Go Go.Proofs
section
variable {R:Type}
def B3p (c:CaseD) (j:Nat) (u:UnitD) (p:Err):Err :=
 let p:=A4o ((c.units.l.map (·.name)).take j) 3 j u.name p
 let p:=nd p (Bb6 c u.bus) (3,j,1) e12
 let p:=nd p (btw 0 1048576 u.min) (3,j,2) e3
 let p:=nd p (btw u.min 1048576 u.max) (3,j,3) e3
 let p:=B8f u j p
 let p:=nd p (btw 0 1048576 u.noLoad) (3,j,5) e3
 let p:=nd p (btw 0 1048576 u.rampUp) (3,j,6) e3
 let p:=nd p (btw 0 1048576 u.rampDown) (3,j,7) e3
 let p:=nd p (btw u.min u.max u.startRamp) (3,j,8) e3
 let p:=nd p (btw u.min u.max u.stopRamp) (3,j,9) e3
 let p:=nd p (btw 0 24 u.upTime) (3,j,10) e3
 nd p (btw 0 24 u.downTime) (3,j,11) e3
def B8g (c:CaseD) (j:Nat) (u:UnitD) (p:Err):Err :=
 let p:=nd p (btw 0 24 u.startTime) (3,j,12) e3
 let p:=nd p (btw 0 1048576 u.hotCost) (3,j,13) e3
 let p:=nd p (btw 0 1048576 u.coldCost) (3,j,14) e3
 let p:=nd p (btw 0 24 u.hotHours) (3,j,15) e3
 let p:=nd p (btw 0 1048576 u.reserve) (3,j,16) e3
 let p:=nd p (btw 0 1048576 u.reservePrice) (3,j,17) e3
 let p:=Blo c.hours u.away.l (3,j,18) p
 let p:=nd p (btw 0 2 u.state) (3,j,19) e12
 let p:=nd p (u.state != 1||decide (u.startTime>0)) (3,j,19) e16
 let p:=nd p (btw 1 48 u.hours) (3,j,20) e3
 let p:=nd p (u.state != 1||decide (u.hours≤u.startTime)) (3,j,20) e3
 cond (u.state==2) (nd p (btw u.min u.max u.output) (3,j,21) e3) (nd p (u.output==0) (3,j,21) e3)
theorem Cbl (n:Int):btw 0 0 n=(n==0):=by
 unfold btw
 by_cases h:n=0
 ·simp[h]
 ·have:(n==0)=false:=by simpa using h
  rw[this];simp;omega
theorem B9q {c:CaseD} {j:Nat} {u:UnitD} {p:Err}:B8g c j u (B3p c j u p)=Byj c j u p:=by
 show _=(let p:=nd (B3p c j u p) (btw 0 24 u.startTime) (3,j,12) e3
  let p:=nd p (btw 0 1048576 u.hotCost) (3,j,13) e3
  let p:=nd p (btw 0 1048576 u.coldCost) (3,j,14) e3
  let p:=nd p (btw 0 24 u.hotHours) (3,j,15) e3
  let p:=nd p (btw 0 1048576 u.reserve) (3,j,16) e3
  let p:=nd p (btw 0 1048576 u.reservePrice) (3,j,17) e3
  let p:=Blo c.hours u.away.l (3,j,18) p
  let p:=nd p (btw 0 2 u.state) (3,j,19) e12
  let p:=nd p (u.state != 1||u.startTime != 0) (3,j,19) e16
  let p:=nd p (btw 1 48 u.hours) (3,j,20) e3
  let p:=nd p (u.state != 1||decide (u.hours≤u.startTime)) (3,j,20) e3
  cond (u.state==2) (nd p (btw u.min u.max u.output) (3,j,21) e3) (nd p (btw 0 0 u.output) (3,j,21) e3))
 unfold B8g
 rw[Cbl]
 cases hq:nd (B3p c j u p) (btw 0 24 u.startTime) (3,(j:Int),12) e3 with
 | some x=>simp only[B9l,Blo]
 | none =>
  have hst:btw 0 24 u.startTime=true:=by
   cases hb:btw 0 24 u.startTime with
   | true=>rfl
   | false =>
    rw[hb] at hq
    cases hp:B3p c j u p<;>rw[hp] at hq<;>simp[nd] at hq
  have:decide (u.startTime>0)=(u.startTime != 0):=by
   unfold btw at hst
   simp at hst
   by_cases h:u.startTime=0
   ·simp[h]
   ·have h1:(u.startTime != 0)=true:=by simpa using h
    rw[h1];simp;omega
  rw[this]
theorem Anz {N:Nat} {c:CaseD} {p:Err} {o:Bool} {j:Nat} {K:List AV→Option R} (hs:Small c N) (h:j<c.units.l.length) :
  Gf N c.av o (j:Int) (Cq p) K=K (Cq (Byj c j c.units.l[j] p)):=by
 have hN:=hs.n64
 have hN8:8≤N:=by omega
 have hfit:=hs.uni
 have htop:=hs.top
 have hm:c.units.l[j] ∈ c.units.l:=List.getElem_mem h
 have hd:=hs.seg _ hm;have hd2:=hs.uaw _ hm
 have hnm:=@Dj R N c (c.units.l.map (·.name)) o (k:=3) (n:=j) (hN:=hN) (hL:=fun K=>Bb8 hs) (hn:=by simpa using h) (hs:=⟨by have:=hfit.1;omega,by have:=hfit.2;omega⟩)
 have hne:(c.units.l.map (·.name))[j]'(by simpa using h)=c.units.l[j].name:=by simp
 rw[hne] at hnm
 rw[V8];unfold Lx Is M5 N4
 rw[Abo,Ab h,ct,Int.toNat_natCast,Bn Ns _ _ h]
 generalize c.units.l[j]=b at *
 have b1:Nat.ble 22 (List.length (b.av++List.flatMap UnitD.av (List.drop (j+1) c.units.l)))=true:=by rw[Ef,List.length_append,Ns];simp
 have b2:List.take 22 (b.av++List.flatMap UnitD.av (List.drop (j+1) c.units.l))=b.av:=List.take_left' (Ns b)
 rw[b1,ct,b2,Ns]
 have hsg:∀ (p:Err) (K:List AV→Option R),Cy N [.str b.name,.int .i64 b.bus,.int .i64 b.min,.int .i64 b.max,b.segs.av 2 SegD.av,.int .i64 b.noLoad,.int .i64 b.rampUp,.int .i64 b.rampDown,.int .i64 b.startRamp,.int .i64 b.stopRamp,.int .i64 b.upTime,.int .i64 b.downTime,.int .i64 b.startTime,.int .i64 b.hotCost,.int .i64 b.coldCost,.int .i64 b.hotHours,.int .i64 b.reserve,.int .i64 b.reservePrice,b.away.av 1 Ab2,.int .i64 b.state,.int .i64 b.hours,.int .i64 b.output] o j (Cq p) K=K (Cq (B8f b j p)):=fun p K=>Ab3 hN8 hd
 simp only[E2,hnm,UnitD.av,List.drop_succ_cons,List.drop_zero,List.take_succ_cons,List.take_zero,Ax,I7,F9,Ef,Bts,decide_true,Bool.and_true,cond_true,cond_false,Nat.le_refl]
 simp only[H2 hN8 (show c.buses.l.length<4611686018427387904 by omega),Dq hN8,Af (show(3:Int)≠0 by decide),Af (show(12:Int)≠0 by decide),Af (show(16:Int)≠0 by decide),hsg,Sf rfl hd2]
 rw[←B9q]
 unfold B8g
 by_cases s1:b.state=1
 ·simp[s1];rfl
 ·have a4:(b.state != 1)=true:=by simpa using s1
  rw[a4]
  cases b.state==2<;>rfl
theorem Ah9 {N:Nat} {c:CaseD} {p:Err} {o:Bool} {j:Nat} {K:List AV→Option R} (hs:Small c N) (h:j<c.outs.l.length) :
  Ev N c.av o (j:Int) (Cq p) K=K (Cq (B6n c j c.outs.l[j] p)):=by
 have hN:=hs.n64
 have hN8:8≤N:=by omega
 have hfit:=hs.out
 have htop:=hs.top
 have hm:c.outs.l[j] ∈ c.outs.l:=List.getElem_mem h
 have hd:=hs.oli _ hm;have hd2:=hs.omo _ hm;have hd3:=hs.omb _ hm
 have hnm:=@Dj R N c (c.outs.l.map (·.name)) o (k:=6) (n:=j) (hN:=hN) (hL:=fun K=>Blt hs) (hn:=by simpa using h) (hs:=⟨by have:=hfit.1;omega,by have:=hfit.2;omega⟩)
 have hne:(c.outs.l.map (·.name))[j]'(by simpa using h)=c.outs.l[j].name:=by simp
 rw[hne] at hnm
 rw[Rm];unfold Iq G3 Ke
 rw[Y0,Ab h,ct,Int.toNat_natCast,Bn Mt _ _ h]
 generalize c.outs.l[j]=b at *
 have b1:Nat.ble 4 (List.length (b.av++List.flatMap OutD.av (List.drop (j+1) c.outs.l)))=true:=by rw[Ef,List.length_append,Mt];simp
 have b2:List.take 4 (b.av++List.flatMap OutD.av (List.drop (j+1) c.outs.l))=b.av:=List.take_left' (Mt b)
 rw[b1,ct,b2,Mt]
 have l1:=fun p=>Wf (R:=R) (N:=N) (c:=c) (i:=j) (u:=b) (o:=o) (p:=p) (K:=K) hN8 htop.2.2.1 hd2 hd3 b.moves.l.length 0 N (by omega) hd2.1
 simp only[List.take_zero,List.map_nil,Int.natCast_zero,Az] at l1
 simp only[Bts,decide_true,Bool.and_true,cond_true,Mv,E2,hnm,B9p,B3o,Ca5,Dq hN8,Gb rfl hd,Wx rfl hd,Ok,Af (show(4:Int)≠0 by decide),Af (show(8:Int)≠0 by decide),Af (show(11:Int)≠0 by decide),Af (show(12:Int)≠0 by decide),Af (show(16:Int)≠0 by decide),l1]
 have a1:btw 1 2 (b.lines.l.length:Int)=((b.lines.l.length:Int)==1||(b.lines.l.length:Int)==2):=by
  unfold btw
  by_cases x1:b.lines.l.length=1
  ·simp[x1]
  ·by_cases x2:b.lines.l.length=2
   ·simp[x2]
   ·have y1:((b.lines.l.length:Int)==1)=false:=by simp;omega
    have y2:((b.lines.l.length:Int)==2)=false:=by simp;omega
    rw[y1,y2];simp;omega
 have a2:b.lines.l.all (btw 0 (IntKind.wrap .i64 ((c.lines.l.length:Int) - 1)))=b.lines.l.all fun n=>decide (0≤n)&&decide (n<(c.lines.l.length:Int)):=by
  congr 1;funext n;exact B1y _ _ (by omega)
 rw[a1,a2]
 unfold B6n B10
 cases b.corr
 ·simp
 ·simp
end
end Gx.Cf

namespace Gx.Cf
inductive Conn (es:List (Nat×Nat)):Nat→Nat→Prop
 | refl (a:Nat):Conn es a a
 | fwd {u v b:Nat}:(u,v) ∈ es→Conn es v b→Conn es u b
 | bwd {u v b:Nat}:(u,v) ∈ es→Conn es u b→Conn es v b
theorem Conn.trans {es:List (Nat×Nat)} {a b c:Nat} (h1:Conn es a b) (h2:Conn es b c):Conn es a c:=by
 induction h1 with
 | refl=>exact h2
 | fwd he _ ih=>exact .fwd he (ih h2)
 | bwd he _ ih=>exact .bwd he (ih h2)
theorem Conn.symm {es:List (Nat×Nat)} {a b:Nat} (h:Conn es a b):Conn es b a:=by
 induction h with
 | refl=>exact .refl _
 | fwd he _ ih=>exact ih.trans (.bwd he (.refl _))
 | bwd he _ ih=>exact ih.trans (.fwd he (.refl _))
theorem Conn.mono {es fs:List (Nat×Nat)} (hs:∀ e ∈ es,e ∈ fs) {a b:Nat} (h:Conn es a b):Conn fs a b:=by
 induction h with
 | refl=>exact .refl _
 | fwd he _ ih=>exact .fwd (hs _ he) ih
 | bwd he _ ih=>exact .bwd (hs _ he) ih
def Bb9 (es:List (Nat×Nat)) (b:Nat):Prop:=∀ a,a<b→¬ Conn es a b
open Classical in
noncomputable def Wg (n:Nat) (es:List (Nat×Nat)):Nat:=((List.range n).filter fun b=>decide (Bb9 es b)).length
theorem B11 {n:Nat} {es fs:List (Nat×Nat)} (h:∀ e ∈ es,e ∈ fs):Wg n fs≤Wg n es:=by
 unfold Wg
 have:∀ (l:List Nat),(l.filter fun b=>@decide (Bb9 fs b) (Classical.propDecidable _)).length≤(l.filter fun b=>@decide (Bb9 es b) (Classical.propDecidable _)).length:=by
  intro l
  induction l with
  | nil=>simp
  | cons a r ih =>
   rw[List.filter_cons,List.filter_cons]
   by_cases x:Bb9 fs a
   ·have:Bb9 es a:=fun b hb hc=>x b hb (hc.mono h)
    simp[x,this,ih]
   ·by_cases y:Bb9 es a<;>simp[x,y]<;>omega
 exact this _
def On (n:Nat):List Int:=(List.range n).map fun b:Nat=>(b:Int)
theorem Brc {n a:Nat} (h:a<n):(On n).getD a 0=(a:Int):=by
 rw[List.getD_eq_getElem?_getD,On,List.getElem?_map,List.getElem?_range h];rfl
structure LeastOk (n:Nat) (es:List (Nat×Nat)) (L:List Int):Prop where
 len:L.length=n
 low:∀ b,b<n→0≤L.getD b 0∧L.getD b 0≤b
 con:∀ b,b<n→Conn es (L.getD b 0).toNat b
def B3q (es:List (Nat×Nat)) (L:List Int):Prop:=∀ e ∈ es,L.getD e.1 0=L.getD e.2 0
def B9r (L:List Int):Nat:=((List.range L.length).filter fun b=>L.getD b 0==(b:Int)).length
theorem Bca {n:Nat} {es:List (Nat×Nat)} {L:List Int} (h:LeastOk n es L) (hf:B3q es L) (he:∀ e ∈ es,e.1<n∧e.2<n):B9r L=Wg n es:=by
 unfold B9r Wg
 rw[h.len]
 congr 1
 apply List.filter_congr
 intro b hb
 have hb:b<n:=by simpa using hb
 have conn_eq:∀ a b,Conn es a b→L.getD a 0=L.getD b 0:=by
  intro a b hc
  induction hc with
  | refl=>rfl
  | fwd hm _ ih=>exact(hf _ hm).trans ih
  | bwd hm _ ih=>exact(hf _ hm).symm.trans ih
 have hl:=h.low b hb
 by_cases x:L.getD b 0=(b:Int)
 ·have:Bb9 es b:=fun a ha hc=>by
   have e:=conn_eq a b hc
   have:=(h.low a (by omega)).2
   omega
  have x':(L.getD b 0==(b:Int))=true:=by simpa using x
  rw[x'];simp[this]
 ·have x':(L.getD b 0==(b:Int))=false:=by simpa using x
  have:¬ Bb9 es b:=fun hm=>hm (L.getD b 0).toNat (by omega) (h.con b hb)
  rw[x'];simp[this]
end Gx.Cf

namespace Gx.Cf
open Go Go.Proofs
section
variable {R:Type}
theorem Aks {l:List Int} {j:Nat} (h:j<l.length):l.getD j 0=l[j]:=by rw[List.getD_eq_getElem?_getD,List.getElem?_eq_getElem h];rfl
theorem Brd {x:Int} {n:Nat} (h0:0≤x) (h1:x.toNat<n):Aj x n=true:=by simp[Aj];omega
theorem B8h {l:List Int} {x:Int} (h:x.toNat<l.length) {f:Int→Option R}:rdI .i64 (List.drop (0+((Int.toNat x)*1)) (Az l)) f=f (l.getD x.toNat 0):=by
 rw[Nat.zero_add,Nat.mul_one,Aq9 h,Aks h]
theorem A4r (l:List Int) (j:Nat) (v:Int):List.set (Az l) j (.int .i64 v)=Az (l.set j v):=by simp[Az,List.map_set]
theorem Bui {l:List Int} {x:Nat} (h:x<l.length):((Nat.beq 1 1)&&((Nat.ble ((0+(x*1))+1) (List.length (Az l)))&&(!false)))=true:=by
 rw[Bts,Ef,Hx];simp;omega
def He (c:CaseD) (l:Int):Nat×Nat:=match c.lines.l[l.toNat]? with
 | some x=>(x.fr.toNat,x.to.toNat)
 | none=>(0,0)
structure LnV (c:CaseD) (l:Int) (x:LineD):Prop where
 l0:0≤l
 lt:l.toNat<c.lines.l.length
 at':c.lines.l[l.toNat]?=some x
 f0:0≤x.fr
 f1:x.fr.toNat<c.buses.l.length
 t0:0≤x.to
 t1:x.to.toNat<c.buses.l.length
theorem B3r {c:CaseD} {l:Int} {x:LineD} (h:LnV c l x):He c l=(x.fr.toNat,x.to.toNat):=by unfold He;rw[h.at']
theorem Cbm {c:CaseD} {l:Int} {x:LineD} (h:LnV c l x) {f:Int→Option R}:rdI .i64 (List.drop 1 (List.drop ((Int.toNat l)*12) (c.lines.l.flatMap LineD.av))) f=f x.fr:=by
 have e:c.lines.l[l.toNat]'h.lt=x:=by have:=h.at';rw[List.getElem?_eq_getElem h.lt] at this;simpa using this
 rw[Bn Gc _ _ h.lt,e];simp[LineD.av,Ax]
theorem Cbn {c:CaseD} {l:Int} {x:LineD} (h:LnV c l x) {f:Int→Option R}:rdI .i64 (List.drop 2 (List.drop ((Int.toNat l)*12) (c.lines.l.flatMap LineD.av))) f=f x.to:=by
 have e:c.lines.l[l.toNat]'h.lt=x:=by have:=h.at';rw[List.getElem?_eq_getElem h.lt] at this;simpa using this
 rw[Bn Gc _ _ h.lt,e];simp[LineD.av,Ax]
theorem B12 {L:List Int} {n j:Nat} (hl:L.length=n) (h:j<n):((On n).take j++L.drop j).set j (j:Int)=(On n).take (j+1)++L.drop (j+1):=by
 have hi:(On n).length=n:=by simp[On]
 have e:(On n)[j]'(by omega)=(j:Int):=by simp[On]
 have e0:j - ((On n).take j).length=0:=by simp[hi];omega
 rw[List.set_append_right _ _ (by simp;omega),e0,List.take_succ_eq_append_getElem (by omega),F4 (l:=L) (by omega),e,List.set_cons_zero,List.append_assoc];rfl
end
end Gx.Cf
