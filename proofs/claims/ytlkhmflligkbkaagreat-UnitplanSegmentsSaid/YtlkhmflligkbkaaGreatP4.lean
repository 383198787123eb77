/- A part of the proof: what it holds is said by each theorem. -/
import Derived.Test.YtlkhmflligkbkaaGreatP3
set_option linter.unusedVariables false
namespace Gx
open Go Go.Proofs
section
variable {R:Type}
theorem Ax6 (a b:Nat):Int.tdiv (a:Int) (b:Int)=((a/b:Nat):Int):=rfl
theorem Atq (a b:Nat):Int.tmod (a:Int) (b:Int)=((a%b:Nat):Int):=rfl
theorem Byt {l:Nat} (h:l<4294967296):(((Int.fdiv (l:Int) (2 ^ 32)) != (0:Int)))=false:=by rw [A83,Nat.div_eq_of_lt h];rfl
theorem Byu {l:Nat} (h:4294967296≤l):(((Int.fdiv (l:Int) (2 ^ 32)) != (0:Int)))=true:=by
  have h1:l/4294967296≠0:=by omega
  rw [A83];rw [bne_iff_ne];omega
theorem orw {a b:Nat} (ha:a<4294967296) (hb:b<4294967296):Pa .u64 (IntKind.wrap .u64 ((a:Int)*2 ^ 32)) (b:Int)=((a*4294967296+b:Nat):Int):=by
  rw [show (2:Int) ^ 32=((2 ^ 32:Nat):Int) by rfl,Bi2,w64 (by omega),Bs8 (by omega) (by omega),A84 (by omega)]
theorem By7 {B l v1 v2 m u2:Nat} (h:m*B+u2<l*v2):(l*v1+m)*B+u2<l*(v1*B+v2):=by rw [Nat.add_mul,Nat.mul_add,← Nat.mul_assoc l v1];omega
theorem By8 {B l v1 v2 m u2:Nat} (h:l*v2≤m*B+u2):l*(v1*B+v2)≤(l*v1+m)*B+u2:=by rw [Nat.add_mul,Nat.mul_add,← Nat.mul_assoc l v1];omega
theorem By9 {B u0 u1 u2 v1 v2:Nat} (h2:v2<B) (h:(u0*B+u1)*B+u2<(v1*B+v2+1)*B):u0*B+u1<v1*B+B:=by
  have:u0*B+u1<v1*B+v2+1:=Nat.lt_of_mul_lt_mul_right (Nat.lt_of_le_of_lt (Nat.le_add_right _ u2) h)
  omega
theorem pw1 (P x:Nat):P*4294967296*x=P*(x*4294967296):=by rw [Nat.mul_assoc,Nat.mul_comm 4294967296]
theorem Bwy {N:Nat} {P Q U v:List Nat} {n:Nat} {f g:Bool} {K:Int→LA→Option R} (hn:v.length=n+2) (hv:Af v) (hU:Af U) (hUl:U.length=n+3) (hs:n≤1000000000000) {v1 v2 u2 top:Nat}
    (e1:v[n+1]'(by omega)=v1) (e2:v[n]'(by omega)=v2) (e3:U[n]'(by omega)=u2) (hv1:2147483648≤v1) (htop:top<v1*4294967296+4294967296)
    (hV:(v1*4294967296+v2)*4294967296 ^ n≤val v) (hV':val v<(v1*4294967296+v2+1)*4294967296 ^ n) (hUU:(top*4294967296+u2)*4294967296 ^ n≤val U) (hUU':val U<(top*4294967296+u2+1)*4294967296 ^ n) (hq:val U/val v<4294967296) :
    ∀ (k fuel l m:Nat),k<fuel→4294967296≤m+k*2147483648→m<4294967296→l*v1+m=top→val U/val v≤l→∃ D,D<4294967296∧val U/val v≤D∧D≤val U/val v+1 ∧
      Dj N K P.length (n+3) (Ad v) (n+2) f g (Ad (P++(U++Q))) fuel ((n+2:Nat):Int) (l:Int) (m:Int)=Di N K P.length (n+3) (Ad v) (n+2) f g ((n+2:Nat):Int) (Ad (P++(U++Q))) (D:Int):=by
  have b1:=Az hv (show n+1<v.length by omega)
  have b2:=Az hv (show n<v.length by omega)
  have b3:=Az hU (show n<U.length by omega)
  rw [e1] at b1;rw [e2] at b2;rw [e3] at b3
  have hP:0<4294967296 ^ n:=Nat.pow_pos (by omega)
  have hv0:0<val v:=Nat.lt_of_lt_of_le (Nat.mul_pos (by omega) hP) hV
  intro k
  induction k with
  | zero=>intro fuel l m _ h1 h2;omega
  | succ k ih =>
    intro fuel l m hf hm hm2 htm hql
    obtain ⟨fuel,rfl⟩:∃ F,fuel=F+1:=⟨fuel - 1,by omega⟩
    generalize hqq:val U/val v=q at *
    have wi1:IntKind.wrap .i64 (((n+2:Nat):Int) - 1)=((n+1:Nat):Int):=by rw [i64 (by omega)];omega
    have wi2:IntKind.wrap .i64 (((n+2:Nat):Int) - 2)=((n:Nat):Int):=by rw [i64 (by omega)];omega
    have lower : q < l → l < 18446744073709551616 → ∃ D, D < 4294967296 ∧ q ≤ D ∧ D ≤ q + 1 ∧
        Jm N (Dj N K P.length (n+3) (Ad v) (n+2) f g (Ad (P++(U++Q))) fuel) K P.length (n+3) (Ad v) (n+2) f g ((n+2:Nat):Int) (l:Int) (m:Int) (Ad (P++(U++Q)))=Di N K P.length (n+3) (Ad v) (n+2) f g ((n+2:Nat):Int) (Ad (P++(U++Q))) (D:Int):=by
      intro hlt hl64
      have hsum:(l - 1)*v1+(m+v1)=top:=by
        have:l*v1=(l - 1)*v1+v1:=by
          obtain ⟨l',rfl⟩:∃ l',l=l'+1:=⟨l - 1,by omega⟩
          rw [Nat.add_mul];simp
        omega
      unfold Jm Tj
      rw [wi1,Ah (by omega),ct,rdl (show n+1<v.length by omega),e1,w64 (show v1<18446744073709551616 by omega),Aiq,w64 (show m+v1<18446744073709551616 by omega),Bug (by omega) hl64]
      by_cases hbig:4294967296≤m+v1
      · have hDB : l - 1 < 4294967296 := by
          apply Nat.lt_of_not_le;intro hge
          have:=Nat.mul_le_mul_right v1 hge
          rw [Nat.mul_comm 4294967296] at this
          omega
        have hest:(l - 1)*(v1*4294967296+v2)≤top*4294967296+u2:=by
          have x1:(l - 1)*v2≤4294967295*4294967295:=Nat.mul_le_mul (by omega) (by omega)
          rw [← hsum,Nat.add_mul,Nat.mul_add,← Nat.mul_assoc]
          omega
        have hlo:=Bmm hV' hUU hest (by omega) hv0
        rw [hqq] at hlo
        exact ⟨l - 1,hDB,by omega,hlo,by rw [Byu hbig,ct]⟩
      · obtain ⟨D,d1,d2,d3,d4⟩:=ih fuel (l - 1) (m+v1) (by omega) (by omega) (by omega) hsum (by omega)
        exact ⟨D,d1,d2,d3,by rw [Byt (by omega),cf,d4]⟩
    rw [Dj];unfold Tk
    by_cases hlB:l<4294967296
    · rw [Byt hlB,show ((false:Bool)==false)=true by rfl,ct,wi2,Ah (by omega),ct,rdl (show n<v.length by omega),Ah (by omega),ct,rdw (show n<U.length by omega),cfB,e2,e3,w64 (show v2<18446744073709551616 by omega),w64 (show u2<18446744073709551616 by omega),Bi2]
      have x1:l*v2≤4294967295*4294967295:=Nat.mul_le_mul (by omega) (by omega)
      rw [w64 (show l*v2<18446744073709551616 by omega),orw hm2 b3]
      by_cases hgt:m*4294967296+u2<l*v2
      · rw [show decide (((l*v2:Nat):Int)>((m*4294967296+u2:Nat):Int))=true by rw [decide_eq_true_eq];omega,ct]
        have hup:val U/val v<l:=Bml hV hUU' (by rw [← htm];exact By7 hgt) hv0
        rw [hqq] at hup
        exact lower hup (by omega)
      · rw [show decide (((l*v2:Nat):Int)>((m*4294967296+u2:Nat):Int))=false by rw [decide_eq_false_iff_not];omega,cf]
        have hest:l*(v1*4294967296+v2)≤top*4294967296+u2:=by
          rw [← htm];exact By8 (Nat.le_of_not_lt hgt)
        have hlo:=Bmm hV' hUU hest (by omega) hv0
        rw [hqq] at hlo
        exact ⟨l,hlB,hql,hlo,rfl⟩
    · rw [Byu (by omega),show ((true:Bool)==false)=false by rfl,cf]
      have hl64:l<18446744073709551616:=by
        have:l*2147483648≤l*v1:=Nat.mul_le_mul_left _ hv1
        omega
      exact lower (by omega) hl64
theorem Bjb {N:Nat} {P Q U v:List Nat} {n:Nat} {f g:Bool} (hn:v.length=n+2) (hv:Af v) (hU:Af U) (hUl:U.length=n+3) (hs:n≤1000000000) (hN:n+8<N) (hv1:2147483648≤v[n+1]'(by omega)) (hlt:val U<val v*4294967296) :
    ∃ U',Af U'∧U'.length=n+3∧val U'=val U%val v∧∀ K:Int→LA→Option R,Mc N P.length (n+3) (Ad v) (n+2) f g (Ad (P++(U++Q))) K=K ((val U/val v:Nat):Int) (Ad (P++(U'++Q))):=by
  have b1:=Az hv (show n+1<v.length by omega)
  have b2:=Az hv (show n<v.length by omega)
  have b3:=Az hU (show n<U.length by omega)
  have b4:=Az hU (show n+1<U.length by omega)
  have b5:=Az hU (show n+2<U.length by omega)
  have hP:0<4294967296 ^ n:=Nat.pow_pos (by omega)
  have vv:val v=val (v.take n)+4294967296 ^ n*(v[n+1]'(by omega)*4294967296+v[n]'(by omega)):=by
    have h1:=Au (l:=v) (c:=n+1) (by omega)
    have h2:=Au (l:=v) (c:=n) (by omega)
    rw [List.take_of_length_le (by omega)] at h1
    rw [h1,h2,Nat.pow_succ,Nat.mul_add,Nat.mul_assoc,Nat.mul_comm 4294967296 v[n+1]];omega
  have uu:val U=val (U.take n)+4294967296 ^ n*((U[n+2]'(by omega)*4294967296+U[n+1]'(by omega))*4294967296+U[n]'(by omega)):=by
    have h0:=Au (l:=U) (c:=n+2) (by omega)
    have h1:=Au (l:=U) (c:=n+1) (by omega)
    have h2:=Au (l:=U) (c:=n) (by omega)
    rw [List.take_of_length_le (by omega)] at h0
    have x1:4294967296 ^ (n+2)*U[n+2]=4294967296 ^ n*(U[n+2]*4294967296*4294967296):=by rw [Nat.pow_succ (n:=4294967296) (m:=n+1),Nat.pow_succ,pw1,pw1]
    have x2:4294967296 ^ (n+1)*U[n+1]=4294967296 ^ n*(U[n+1]*4294967296):=by rw [Nat.pow_succ,pw1]
    rw [h0,h1,h2,x1,x2,Nat.add_mul,Nat.mul_add,Nat.mul_add];omega
  have tv:=Bc (Bz hv n)
  have tu:=Bc (Bz hU n)
  rw [List.length_take,Nat.min_eq_left (by omega)] at tv tu
  generalize e1:v[n+1]'(by omega)=v1 at *
  generalize e2:v[n]'(by omega)=v2 at *
  generalize e3:U[n]'(by omega)=u2 at *
  generalize e4:U[n+1]'(by omega)=u1 at *
  generalize e5:U[n+2]'(by omega)=u0 at *
  have hv0:0<val v:=by
    have:0<4294967296 ^ n*(v1*4294967296+v2):=Nat.mul_pos hP (by omega)
    omega
  have hV:(v1*4294967296+v2)*4294967296 ^ n≤val v:=by rw [Nat.mul_comm];omega
  have hV':val v<(v1*4294967296+v2+1)*4294967296 ^ n:=by rw [Nat.mul_comm,Nat.mul_add];omega
  have hUU:((u0*4294967296+u1)*4294967296+u2)*4294967296 ^ n≤val U:=by rw [Nat.mul_comm];omega
  have hUU':val U<((u0*4294967296+u1)*4294967296+u2+1)*4294967296 ^ n:=by rw [Nat.mul_comm,Nat.mul_add];omega
  have hq:val U/val v<4294967296:=Nat.div_lt_of_lt_mul hlt
  have htop:u0*4294967296+u1<v1*4294967296+4294967296:=by
    have h1:((u0*4294967296+u1)*4294967296+u2)*4294967296 ^ n<(v1*4294967296+v2+1)*4294967296 ^ n*4294967296:=by
      have:=(Nat.mul_lt_mul_right (show 0<4294967296 by omega)).2 hV'
      omega
    rw [Nat.mul_right_comm] at h1
    exact By9 b2 (Nat.lt_of_mul_lt_mul_right h1)
  obtain ⟨top,htp⟩:∃ top,u0*4294967296+u1=top:=⟨_,rfl⟩
  rw [htp] at hUU hUU' htop
  have hdm:=Nat.div_add_mod top v1
  have hmod:=Nat.mod_lt top (show 0<v1 by omega)
  have hq0:val U/val v≤top/v1:=by
    have h1:val U/val v<top/v1+1:=by
      apply Bml hV hUU' _ hv0
      have h2:top<v1*(top/v1+1):=by rw [Nat.mul_add];omega
      have h3:(top+1)*4294967296≤v1*(top/v1+1)*4294967296:=Nat.mul_le_mul_right _ h2
      rw [Nat.mul_add,← Nat.mul_assoc,Nat.mul_comm _ v1]
      omega
    omega
  have key:∀ K:Int→LA→Option R,∃ D,D<4294967296∧val U/val v≤D∧D≤val U/val v+1∧Mc N P.length (n+3) (Ad v) (n+2) f g (Ad (P++(U++Q))) K=Di N K P.length (n+3) (Ad v) (n+2) f g ((n+2:Nat):Int) (Ad (P++(U++Q))) (D:Int):=by
    intro K
    obtain ⟨D,d1,d2,d3,d4⟩:=Bwy (R:=R) (N:=N) (P:=P) (Q:=Q) (f:=f) (g:=g) (K:=K) hn hv hU hUl (by omega) e1 e2 e3 hv1 htop hV hV' hUU hUU' hq 2 N (top/v1) (top%v1) (by omega) (by omega) (by omega) (by rw [Nat.mul_comm];exact hdm) hq0
    refine ⟨D,d1,d2,d3,?_⟩
    rw [← d4,Ah8];unfold Agm Agl
    have wi1:IntKind.wrap .i64 (((n+2:Nat):Int) - 1)=((n+1:Nat):Int):=by rw [i64 (by omega)];omega
    rw [Ah (by omega),ct,Bz2 (show n+2<U.length by omega),wi1,Ah (by omega),ct,rdw (show n+1<U.length by omega),Ah (by omega),ct,rdl (show n+1<v.length by omega),e1,e4,e5,w64 (show v1<18446744073709551616 by omega),i0F (by omega),cf,ct,rdl (show n+1<v.length by omega),e1,w64 (show v1<18446744073709551616 by omega),i0F (by omega),cf,w64 (show u0<18446744073709551616 by omega),w64 (show u1<18446744073709551616 by omega),orw b5 b4,htp,Ax6,Atq,w64 (show top/v1<18446744073709551616 from Nat.lt_of_le_of_lt (Nat.div_le_self _ _) (by omega))]
  have fin:∀ D,D<4294967296→val U/val v≤D→D≤val U/val v+1→∃ U',Af U'∧U'.length=n+3∧val U'=val U%val v∧∀ K:Int→LA→Option R,Di N K P.length (n+3) (Ad v) (n+2) f g ((n+2:Nat):Int) (Ad (P++(U++Q))) (D:Int)=K ((val U/val v:Nat):Int) (Ad (P++(U'++Q))):=by
    intro D d1 d2 d3
    obtain ⟨X',q1,q2,q3,q4⟩:=Bwx (R:=R) (N:=N) (P:=P) (Q:=Q) (U:=U) (v:=v) (n:=n+2) (D:=D) (f:=f) (g:=g) hv hn hU hUl (by omega) (by omega) d1 hv0 d2 d3 (n+2) 0 N U 0 (by omega) (by omega) hU hUl (fun _ _ _ _=>rfl) (by omega) (by simp [val])
    exact ⟨X',q1,q2,q3,fun K=>by unfold Di Ti;exact q4 K⟩
  by_cases hz:val U/val v+1<4294967296
  · obtain ⟨U1,a1,a2,a3,a4⟩:=fin (val U/val v) hq (Nat.le_refl _) (by omega)
    obtain ⟨U2,c1,c2,c3,c4⟩:=fin (val U/val v+1) hz (by omega) (Nat.le_refl _)
    have:U1=U2:=by
      have h1:=(Bh a1).1;have h2:=(Bh c1).1
      rw [a3] at h1;rw [c3] at h2;rw [h1,h2,a2,c2]
    subst this
    refine ⟨U1,a1,a2,a3,fun K=>?_⟩
    obtain ⟨D,d1,d2,d3,d4⟩:=key K
    have:D=val U/val v∨D=val U/val v+1:=by
      generalize val U/val v=q at *;omega
    rcases this with rfl | rfl
    · rw [d4,a4 K]
    · rw [d4,c4 K]
  · obtain ⟨U1,a1,a2,a3,a4⟩:=fin (val U/val v) hq (Nat.le_refl _) (by omega)
    refine ⟨U1,a1,a2,a3,fun K=>?_⟩
    obtain ⟨D,d1,d2,d3,d4⟩:=key K
    have:D=val U/val v:=by
      generalize val U/val v=q at *;omega
    subst this
    rw [d4,a4 K]
end
end Gx

namespace Gx
open Go Go.Proofs
section
variable {R:Type}
theorem Atr {l:List Nat} {d:Nat} (h:d<l.length):val (l.drop d)=l[d]+4294967296*val (l.drop (d+1)):=by
  rw [List.drop_eq_getElem_cons h,val]
theorem Brg {S:List Nat} {d v:Nat} (h:d<S.length):(S.set d v).drop d=v::S.drop (d+1):=by
  rw [List.drop_eq_getElem_cons (by simpa using h),List.getElem_set_self,List.drop_set_of_lt (by omega)]
theorem Bch {N:Nat} {a:List Nat} {t o:Bool} {b:Nat} (ha:Af a) (hb0:0<b) (hb:b<4294967296) (hf:fit a.length N):∀ (c fuel:Nat) (S:List Nat) (r:Nat),c<fuel→c≤a.length→Af S→S.length=a.length→r<b→val (S.drop c)*b+r=val (a.drop c) →
    ∃ S' S2,Af S'∧val S'=val a/b∧Af S2∧val S2=val a%b∧∀ K:Nat→Nat→LA→LA→Option R,Dx N K (Ad a) a.length t o (b:Int) fuel (r:Int) ((c:Int) - 1) (Ad S)=K (dig (val a/b)).length (dig (val a%b)).length (Ad S') (Ad S2)
  | 0,fuel+1,S,r,_,_,hS,hl,hr,hv=>by
    have h1:=hf.1
    rw [List.drop_zero,List.drop_zero] at hv
    have hq:val a/b=val S:=by
      rw [← hv,Nat.mul_comm,Nat.mul_add_div hb0,Nat.div_eq_of_lt hr,Nat.add_zero]
    have hm:val a%b=r:=by rw [← hv,Nat.mul_comm,Nat.mul_add_mod,Nat.mod_eq_of_lt hr]
    obtain ⟨S2,s1,s2,s3⟩:=Jb (R:=R) (N:=N) (v:=r) (by omega) (by omega)
    refine ⟨S,S2,hS,hq.symm,s1,by rw [hm,s2],fun K=>?_⟩
    rw [Dx];unfold Hb
    rw [show decide ((((0:Nat):Int) - 1)≥0)=false by simp,cf,Air hl.symm hS (by rw [hl];exact hf),s3,hq,hm]
  | c+1,fuel+1,S,r,hfu,hc,hS,hl,hr,hv=>by
    have h1:=hf.1;have h2:=hf.2
    have hca:c<a.length:=by omega
    have ac:=Az ha hca
    have hrB:r<4294967296:=by omega
    have hw:r*4294967296+a[c]<b*4294967296:=by
      have:(r+1)*4294967296≤b*4294967296:=Nat.mul_le_mul_right _ hr
      rw [Nat.add_mul] at this;omega
    have hw2:r*4294967296+a[c]<18446744073709551616:=by omega
    obtain ⟨w,hwd⟩:∃ w,r*4294967296+a[c]=w:=⟨_,rfl⟩
    rw [hwd] at hw hw2
    have hqB:w/b<4294967296:=Nat.div_lt_of_lt_mul hw
    have hdm:=Nat.div_add_mod w b
    obtain ⟨S',S2,q1,q2,q3,q4,q5⟩:=Bch (t:=t) (o:=o) ha hb0 hb hf c fuel (S.set c (w/b)) (w%b) (by omega) (by omega) (B7 hS hqB c) (by simpa using hl) (Nat.mod_lt _ hb0) (by
      rw [Brg (by omega),val,Atr hca,Nat.add_mul,Nat.mul_assoc,← hv,Nat.mul_add,Nat.mul_comm (w/b)]
      omega)
    refine ⟨S',S2,q1,q2,q3,q4,fun K=>?_⟩
    rw [Dx];unfold Hb
    rw [show (((c+1:Nat):Int) - 1)=(c:Int) by omega,show decide ((c:Int)≥0)=true by simp,ct,Ah hca,ct,rdl hca,w64 (show b<18446744073709551616 by omega),i0F (by omega),cf,ct,st1 (by omega),ct,cf,w64 (show a[c]<18446744073709551616 by omega),orw hrB ac,hwd,Ax6,Atq,w64 (show w/b<18446744073709551616 by omega),w32 hqB,Atm,i64 (by omega)]
    exact q5 K
theorem Brh {N:Nat} {a:List Nat} {n:Nat} {t o:Bool} {b:Nat} (hn:n=a.length) (ha:Af a) (hb0:0<b) (hb:b<4294967296) (hf:fit a.length N) :
    ∃ S' S2,Af S'∧val S'=val a/b∧Af S2∧val S2=val a%b∧∀ K:Nat→Nat→LA→LA→Option R,Gc N (Ad a) n t o (b:Int) K=K (dig (val a/b)).length (dig (val a%b)).length (Ad S') (Ad S2):=by
  subst hn
  have h1:=hf.1;have h2:=hf.2
  obtain ⟨S',S2,q1,q2,q3,q4,q5⟩:=Bch (R:=R) (t:=t) (o:=o) ha hb0 hb hf a.length N (List.replicate a.length 0) 0 (by omega) (Nat.le_refl _) (B4 _) (by simp) hb0 (by rw [List.drop_eq_nil_of_le (by simp),List.drop_eq_nil_of_le (by simp)];simp [val])
  refine ⟨S',S2,q1,q2,q3,q4,fun K=>?_⟩
  rw [Xo];unfold Tg Tf
  rw [mk4 (by omega),ct,i64 (by omega),Ci]
  exact q5 K
theorem Bwz {x V s:Nat} (hx:x<4294967296) (hs:s≤31):(x+4294967296*V)/2 ^ s=(x+4294967296*(V%4294967296))/2 ^ s%4294967296+4294967296*(V/2 ^ s):=by
  have hp:0<2 ^ s:=Nat.pow_pos (by omega)
  have hd:2 ^ s∣4294967296:=⟨2 ^ (32 - s),by rw [← Nat.pow_add,show s+(32 - s)=32 by omega]⟩
  have key:∀ W,(x+4294967296*W)/2 ^ s=(x+4294967296*(W%2 ^ s))/2 ^ s+4294967296*(W/2 ^ s):=by
    intro W
    have e:x+4294967296*W=x+4294967296*(W%2 ^ s)+2 ^ s*(4294967296*(W/2 ^ s)):=by
      have h:=Nat.div_add_mod W (2 ^ s)
      have:4294967296*W=4294967296*(2 ^ s*(W/2 ^ s)+W%2 ^ s):=by rw [h]
      rw [this,Nat.mul_add,Nat.mul_left_comm];omega
    rw [e,Nat.add_mul_div_left _ _ hp]
  have hlt:(x+4294967296*(V%2 ^ s))/2 ^ s<4294967296:=by
    rw [Nat.div_lt_iff_lt_mul hp]
    have:V%2 ^ s+1≤2 ^ s:=Nat.mod_lt _ hp
    have:=Nat.mul_le_mul_left 4294967296 this
    rw [Nat.mul_add] at this
    omega
  rw [key V,key (V%4294967296),Nat.mod_mod_of_dvd _ hd,Nat.add_mul_mod_self_left,Nat.mod_eq_of_lt hlt]
theorem Bx5:∀ {l:List Nat},Af l→val l%4294967296=l.getD 0 0
  | [],_=>rfl
  | x::r,h=>by
    have:=(Cq.1 h).1
    simp [val];omega
theorem Bri {N:Nat} {a:List Nat} {o:Bool} {s:Nat} (ha:Af a) (hs:s≤31) (hf:fit a.length N):∀ (m d fuel:Nat) (S:List Nat),d+m=a.length→m<fuel→Af S→S.length=a.length→zer S d→val S+4294967296 ^ d*(val (a.drop d)/2 ^ s)=val a/2 ^ s →
    ∃ S',Af S'∧val S'=val a/2 ^ s∧∀ K:Nat→Bool→LA→Option R,C3 N K o fuel (Ad a) a.length (s:Int) a.length (Ad a) a.length (a.length:Int) (d:Int) (Ad S)=K (dig (val a/2 ^ s)).length true (Ad S')
  | 0,d,fuel+1,S,hd,_,hS,hl,hz,hv=>by
    have hd':d=a.length:=by omega
    subst hd'
    rw [List.drop_length] at hv
    simp [val] at hv
    refine ⟨S,hS,hv,fun K=>?_⟩
    rw [C3];unfold Gp
    rw [ltF (Nat.le_refl _),cf,Air hl.symm hS (by rw [hl];exact hf),hv]
  | m+1,d,fuel+1,S,hd,hfu,hS,hl,hz,hv=>by
    have h1:=hf.1;have h2:=hf.2
    have hda:d<a.length:=by omega
    have ad:=Az ha hda
    have step:=Bwz (V:=val (a.drop (d+1))) ad hs
    rw [Bx5 (Ang ha _),← Atr hda] at step
    have hg:(a.drop (d+1)).getD 0 0=a.getD (d+1) 0:=by simp [List.getD_eq_getElem?_getD,List.getElem?_drop]
    rw [hg] at step
    have go:∀ w,(a[d]+4294967296*a.getD (d+1) 0)/2 ^ s=w→∃ S',Af S'∧val S'=val a/2 ^ s∧∀ K:Nat→Bool→LA→Option R,C3 N K o fuel (Ad a) a.length (s:Int) a.length (Ad a) a.length (a.length:Int) ((d+1:Nat):Int) (Ad (S.set d (w%4294967296)))=K (dig (val a/2 ^ s)).length true (Ad S'):=by
      intro w hw
      refine Bri (o:=o) ha hs hf m (d+1) fuel (S.set d (w%4294967296)) (by omega) (by omega) (B7 hS (by omega) d) (by simpa using hl) (Afn hz) ?_
      rw [Vx hz (by omega),← hv,step,hw,Nat.pow_succ,Nat.mul_add,Nat.mul_assoc];omega
    by_cases hn:d+1<a.length
    · have an:=Az ha hn
      have hg2:a.getD (d+1) 0=a[d+1]:=by rw [List.getD_eq_getElem?_getD,List.getElem?_eq_getElem hn];rfl
      rw [hg2] at go
      obtain ⟨S',q1,q2,q3⟩:=go _ rfl
      refine ⟨S',q1,q2,fun K=>?_⟩
      rw [C3];unfold Gp
      have e:Pa .u64 ((a[d]:Nat):Int) (IntKind.wrap .u64 (((a[d+1]:Nat):Int)*2 ^ 32))=((a[d]+4294967296*a[d+1]:Nat):Int):=by
        rw [show (2:Int) ^ 32=((2 ^ 32:Nat):Int) by rfl,Bi2,w64 (by omega),Bs8 (by omega) (by omega),Nat.or_comm,A84 (by omega)]
        congr 1;omega
      rw [ltT hda,ct,Ah hda,ct,rdl hda,wS (by omega),ltT hn,ct,Ah hn,ct,rdl hn,show decide (((s:Nat):Int)<0)=false by simp,cf,ct,st1 (by omega),ct,w64 (show a[d]<18446744073709551616 by omega),w64 (show a[d+1]<18446744073709551616 by omega),e,Int.toNat_natCast s,Nat.min_eq_left (by omega),Rw,A1z,Atm]
      exact q3 K
    · have hg2:a.getD (d+1) 0=0:=by rw [List.getD_eq_getElem?_getD,List.getElem?_eq_none (by omega)];rfl
      rw [hg2,Nat.mul_zero,Nat.add_zero] at go
      obtain ⟨S',q1,q2,q3⟩:=go _ rfl
      refine ⟨S',q1,q2,fun K=>?_⟩
      rw [C3];unfold Gp
      rw [ltT hda,ct,Ah hda,ct,rdl hda,wS (by omega),ltF (by omega),cf,show decide (((s:Nat):Int)<0)=false by simp,cf,ct,st1 (by omega),ct,w64 (show a[d]<18446744073709551616 by omega),Int.toNat_natCast s,Nat.min_eq_left (by omega),Rw,A1z,Atm]
      exact q3 K
theorem Bw0 {N:Nat} {a:List Nat} {n:Nat} {t o:Bool} {s:Nat} (hn:n=a.length) (ha:Af a) (hs:s≤31) (hf:fit a.length N) :
    ∃ S',Af S'∧val S'=val a/2 ^ s∧∀ K:Nat→Bool→LA→Option R,Nn N (Ad a) n t o (s:Int) K=K (dig (val a/2 ^ s)).length true (Ad S'):=by
  have h1:=hf.1;have h2:=hf.2
  have la:=(Bh ha).2
  have e0:IntKind.wrap .i64 (Int.tdiv ((s:Nat):Int) 32)=((0:Nat):Int):=by
    rw [show (32:Int)=((32:Nat):Int) by rfl,Ax6,Nat.div_eq_of_lt (by omega)];decide
  have e1:Int.tmod ((s:Nat):Int) 32=(s:Int):=by rw [show (32:Int)=((32:Nat):Int) by rfl,Atq,Nat.mod_eq_of_lt (by omega)]
  by_cases h0:val a=0
  · refine ⟨[],T2,by rw [h0];simp [val],fun K=>?_⟩
    rw [Qw];unfold Qv Qu
    rw [show decide (((s:Nat):Int)<0)=false by simp,cf,Bt hn ha hf,h0,e0,Nat.zero_div,C6];rfl
  · obtain ⟨S',q1,q2,q3⟩:=Bri (R:=R) (o:=o) (a:=dig (val a)) (Ab _) hs (hf.le la) (dig (val a)).length 0 N (List.replicate (dig (val a)).length 0) (by omega) (by omega) (B4 _) (by simp) (J8 _) (by rw [Db];simp)
    rw [Ag] at q2
    refine ⟨S',q1,q2,fun K=>?_⟩
    rw [Qw];unfold Qv Qu
    have hne:(dig (val a)).length≠0:=fun h=>h0 (Bj.1 h)
    rw [show decide (((s:Nat):Int)<0)=false by simp,cf,Bt hn ha hf,e0,e1,show decide (((0:Nat):Int)≥(((dig (val a)).length:Nat):Int))=false by rw [decide_eq_false_iff_not];omega,cf]
    have c1:((decide ((0:Int)≤((0:Nat):Int)))&&((decide (((0:Nat):Int)≤(((dig (val a)).length:Nat):Int)))&&((decide ((((dig (val a)).length:Nat):Int)≤(((dig (val a)).length:Nat):Int)))&&(decide ((((dig (val a)).length:Nat):Int)≤(((dig (val a)).length:Nat):Int))))))=true:=by simp
    rw [c1,ct,Int.toNat_natCast,Nat.sub_zero,mk4 (by omega),ct,Nat.zero_mul,List.drop_zero,Nat.mul_one,T3,List.take_length,Ci]
    have:=q3 K
    rw [Ag] at this
    exact this
end
end Gx

namespace Gx
open Go Go.Proofs
section
variable {R:Type}
theorem Anl {S:List Nat} {k:Nat} (h:val S<4294967296 ^ k):val (S.take k)=val S:=by
  by_cases hk:k≤S.length
  · have h1:=O4 (S.take k) (S.drop k)
    rw [List.take_append_drop,List.length_take,Nat.min_eq_left hk] at h1
    rcases Nat.eq_zero_or_pos (val (S.drop k)) with h0 | h0
    · rw [h0] at h1;simpa using h1.symm
    · have:=Nat.le_mul_of_pos_right (4294967296 ^ k) h0
      omega
  · rw [List.take_of_length_le (by omega)]
theorem Anm {S:List Nat} {n:Nat} (hS:Af S) (h:S.length=n+1):val S<(S[n]+1)*4294967296 ^ n:=by
  have h1:=Aiu h
  have h2:=Bc (Bz hS n)
  rw [List.length_take,Nat.min_eq_left (by omega)] at h2
  rw [Nat.add_mul,Nat.mul_comm S[n]];omega
theorem sl3 {a b c:Nat} (h1:a≤b) (h2:b≤c):((decide ((0:Int)≤(a:Int)))&&((decide ((a:Int)≤(b:Int)))&&((decide ((b:Int)≤(c:Int)))&&(decide ((c:Int)≤(c:Int))))))=true:=by simp;omega
theorem Bms {N:Nat} {v u0 Sv:List Nat} {n D s:Nat} (hn:v.length=n+2) (hv:Af v) (hv1:2147483648≤v[n+1]'(by omega)) (hSv:List.take ((n+2)*1) (Ad Sv)=Ad v) (hu:Af u0) (hul:u0.length=D+(n+2)) (hs:s≤31) (hf:fit (D+n+4) N) :
    ∀ (j fuel c:Nat) (W q:List Nat),j<fuel→c+j=D→Af W→W.length=u0.length→Af q→q.length=D→W.take j=u0.take j→val (W.drop j)<val v→val (q.drop j)*val v+val (W.drop j)=val (u0.drop j) →
    ∃ Sq Sr,Af Sq∧val Sq=val u0/val v∧Af Sr∧val Sr=val u0%val v/2 ^ s∧∀ K:Nat→Nat→LA→LA→Option R,Dz N K (s:Int) (n+2) u0.length (Ad Sv) fuel D ((n+2:Nat):Int) (D:Int) (D:Int) (c:Int) (Ad q) (Ad W)=K (dig (val u0/val v)).length (dig (val u0%val v/2 ^ s)).length (Ad Sq) (Ad Sr)
  | 0,fuel+1,c,W,q,_,hc,hW,hWl,hq,hql,htk,hr,hval=>by
    have h1:=hf.1;have h2:=hf.2
    simp only [List.drop_zero] at hval hr
    have hv0:0<val v:=by omega
    have vlt:=Bc hv
    rw [hn] at vlt
    have hq2:val u0/val v=val q:=by rw [← hval,Nat.mul_comm,Nat.mul_add_div hv0,Nat.div_eq_of_lt hr,Nat.add_zero]
    have hm:val u0%val v=val W:=by rw [← hval,Nat.mul_comm,Nat.mul_add_mod,Nat.mod_eq_of_lt hr]
    have ht:val (W.take (n+2))=val W:=Anl (by omega)
    have htl:(W.take (n+2)).length=n+2:=by rw [List.length_take];omega
    obtain ⟨S',q1,q3,q4⟩:=Bw0 (R:=R) (N:=N) (a:=W.take (n+2)) (n:=n+2) (t:=false) (o:=true) (s:=s) htl.symm (Bz hW _) hs (hf.le (by rw [htl];omega))
    rw [ht,← hm] at q3 q4
    refine ⟨q,S',hq,hq2.symm,q1,q3,fun K=>?_⟩
    have hcD:c=D:=by omega
    subst hcD
    rw [Dz];unfold Kl
    rw [ltF (Nat.le_refl _),cf,sl0 (by omega),ct,Int.toNat_natCast,Nat.mul_one,T3,q4,Air hql.symm hq (by rw [hql];exact hf.le (by omega)),← hq2]
  | j+1,fuel+1,c,W,q,hfu,hc,hW,hWl,hq,hql,htk,hr,hval=>by
    have h1:=hf.1;have h2:=hf.2
    have vlt:=Bc hv
    rw [hn] at vlt
    have hjW:j<W.length:=by omega
    have hju:j<u0.length:=by omega
    have hjq:j<q.length:=by omega
    have hWj:W[j]=u0[j]:=by
      have:=congrArg (fun l=>l[j]?) htk
      simp only [List.getElem?_take_of_lt (show j<j+1 by omega),List.getElem?_eq_getElem hjW,List.getElem?_eq_getElem hju] at this
      exact Option.some.inj this
    have wj:=Az hW hjW
    have eW:=Atr hjW
    have eu:=Atr hju
    have hUl:((W.drop j).take (n+3)).length=n+3:=by rw [List.length_take,List.length_drop];omega
    have hbound:val (W.drop j)<val v*4294967296:=by rw [eW];omega
    have hB:val (W.drop j)<4294967296 ^ (n+3):=by
      have:=(Nat.mul_lt_mul_right (show 0<4294967296 by omega)).2 vlt
      rw [← Nat.pow_succ] at this;exact Nat.lt_trans hbound this
    have hU:val ((W.drop j).take (n+3))=val (W.drop j):=Anl hB
    have hsplit:W=W.take j++((W.drop j).take (n+3)++(W.drop j).drop (n+3)):=by rw [List.take_append_drop,List.take_append_drop]
    have hPl:(W.take j).length=j:=by rw [List.length_take];omega
    obtain ⟨U',u1,u2,u3,u4⟩:=Bjb (R:=R) (N:=N) (P:=W.take j) (Q:=(W.drop j).drop (n+3)) (U:=(W.drop j).take (n+3)) (v:=v) (n:=n) (f:=false) (g:=true) hn hv (Bz (Ang hW _) _) hUl (by omega) (by omega) hv1 (by rw [hU];exact hbound)
    rw [hU] at u3 u4
    have hQ0:val ((W.drop j).drop (n+3))=0:=by
      have:=O4 ((W.drop j).take (n+3)) ((W.drop j).drop (n+3))
      rw [List.take_append_drop,hU,hUl] at this
      have hp:0<4294967296 ^ (n+3):=Nat.pow_pos (by omega)
      rcases Nat.eq_zero_or_pos (val ((W.drop j).drop (n+3))) with h | h
      · exact h
      · have:=Nat.le_mul_of_pos_right (4294967296 ^ (n+3)) h;omega
    have hv0:0<val v:=by omega
    have hqd:val (W.drop j)/val v<4294967296:=Nat.div_lt_of_lt_mul hbound
    have hdm:=Nat.div_add_mod (val (W.drop j)) (val v)
    have hmd:=Nat.mod_lt (val (W.drop j)) hv0
    have hW':Af (W.take j++(U'++(W.drop j).drop (n+3))):=A5g.2 ⟨Bz hW _,A5g.2 ⟨u1,Ang (Ang hW _) _⟩⟩
    have hWl':(W.take j++(U'++(W.drop j).drop (n+3))).length=u0.length:=by
      rw [List.length_append,List.length_append,hPl,u2,List.length_drop,List.length_drop];omega
    have hWd:(W.take j++(U'++(W.drop j).drop (n+3))).drop j=U'++(W.drop j).drop (n+3):=by
      rw [List.drop_append,hPl,Nat.sub_self,List.drop_zero,List.drop_eq_nil_of_le (by omega),List.nil_append]
    have hWt:(W.take j++(U'++(W.drop j).drop (n+3))).take j=u0.take j:=by
      rw [List.take_append,hPl,Nat.sub_self,List.take_zero,List.append_nil,List.take_take,Nat.min_self]
      have:=congrArg (List.take j) htk
      rwa [List.take_take,List.take_take,Nat.min_eq_left (by omega)] at this
    have hWv:val (U'++(W.drop j).drop (n+3))=val (W.drop j)%val v:=by rw [O4,hQ0,u3];simp
    obtain ⟨Sq,Sr,a1,a2,a3,a4,a5⟩:=Bms (N:=N) hn hv hv1 hSv hu hul hs hf j fuel (c+1) (W.take j++(U'++(W.drop j).drop (n+3))) (q.set j (val (W.drop j)/val v)) (by omega) (by omega) hW' hWl' (B7 hq hqd j) (by simpa using hql) hWt (by rw [hWd,hWv];exact hmd) (by
      rw [hWd,hWv,Brg hjq,val,eu,← hval,← hWj,Nat.add_mul,Nat.mul_assoc,Nat.mul_add,Nat.mul_comm (val (W.drop j)/val v)]
      omega)
    refine ⟨Sq,Sr,a1,a2,a3,a4,fun K=>?_⟩
    have w0:IntKind.wrap .i64 (IntKind.wrap .i64 (((D:Nat):Int) - 1) - (c:Int))=(j:Int):=by
      rw [i64 (a:=((D:Nat):Int) - 1) (by omega),i64 (by omega)];omega
    have w1:IntKind.wrap .i64 (IntKind.wrap .i64 ((j:Int)+((n+2:Nat):Int))+1)=((j+(n+3):Nat):Int):=by
      rw [i64 (a:=(j:Int)+((n+2:Nat):Int)) (by omega),i64 (by omega)];omega
    have:=u4 fun z aa=>cond (Am (j:Int) D) (cond ((Nat.beq 1 1)&&((Nat.ble ((0+((Int.toNat (j:Int))*1))+1) (List.length (Ad q)))&&(!false))) (Dz N K (s:Int) (n+2) u0.length (Ad Sv) fuel D ((n+2:Nat):Int) (D:Int) (D:Int) (IntKind.wrap .i64 ((c:Int)+1)) (List.set (Ad q) (0+((Int.toNat (j:Int))*1)) (.int .u32 z)) aa) none) none
    rw [← hsplit,hPl] at this
    rw [Dz];unfold Kl
    rw [ltT (by omega),ct,w0,w1,sl3 (by omega) (by omega),ct,hSv,Int.toNat_natCast,Int.toNat_natCast,Nat.mul_one,Nat.zero_add,show j+(n+3) - j=n+3 by omega]
    rw [Int.toNat_natCast,Nat.mul_one,Nat.zero_add] at this
    rw [this,Ah (by omega),ct,show ((Nat.beq 1 1)&&((Nat.ble (j+1) (List.length (Ad q)))&&(!false)))=true by (rw [Bk];simp;omega),ct,A5h,wS (by omega)]
    exact a5 K
theorem Bvk {N:Nat} {a b:List Nat} {n m:Nat} {t o t' o':Bool} (hn:n=a.length) (hm:m=b.length) (ha:Af a) (hb:Af b) (hb2:2≤b.length) (hlen:b.length≤a.length) (hbl:b.getLast (by intro h;rw [h] at hb2;simp at hb2)≠0) (hf:fit (a.length+b.length+4) N) :
    ∃ Sq Sr,Af Sq∧val Sq=val a/val b∧Af Sr∧val Sr=val a%val b∧∀ K:Nat→Nat→LA→LA→Option R,J3 N (Ad a) n t o (Ad b) m t' o' K=K (dig (val a/val b)).length (dig (val a%val b)).length (Ad Sq) (Ad Sr):=by
  subst hn hm
  have h1:=hf.1;have h2:=hf.2
  obtain ⟨k,hk⟩:∃ k,b.length=k+2:=⟨b.length - 2,by omega⟩
  have hbl2:b[k+1]'(by omega)≠0:=by
    rw [List.getLast_eq_getElem] at hbl
    simp only [hk] at hbl
    exact hbl
  have bk:=Az hb (show k+1<b.length by omega)
  obtain ⟨s,s1,s2,s3,s4⟩:=Buf (R:=R) (N:=N) (c:=b[k+1]'(by omega)) (by omega) bk
  obtain ⟨Sv,v1,v2,v3,v4⟩:=A5n (R:=R) (N:=N) (a:=b) (t:=false) (o:=o') (s:=s) rfl hb s1 (hf.le (by omega))
  obtain ⟨Su,p1,p2,p3,p4⟩:=A5n (R:=R) (N:=N) (a:=a) (t:=false) (o:=o) (s:=s) rfl ha s1 (hf.le (by omega))
  have hp:0<2 ^ s:=Nat.pow_pos (by omega)
  have hP:0<4294967296 ^ (k+1):=Nat.pow_pos (by omega)
  have bt:=Anm hb hk
  have bf:=Aiu hk
  have hVlt:val b*2 ^ s<4294967296 ^ (k+2):=by
    have x1:val b*2 ^ s<(b[k+1]+1)*4294967296 ^ (k+1)*2 ^ s:=(Nat.mul_lt_mul_right hp).2 bt
    have hd:2 ^ s∣4294967296:=⟨2 ^ (32 - s),by rw [← Nat.pow_add,show s+(32 - s)=32 by omega]⟩
    have x2:(b[k+1]+1)*2 ^ s≤4294967296:=by
      obtain ⟨r,hr⟩:=hd
      have x3:b[k+1]<r:=by
        rw [hr,Nat.mul_comm] at s3
        exact Nat.lt_of_mul_lt_mul_left s3
      have x4:(b[k+1]+1)*2 ^ s≤r*2 ^ s:=Nat.mul_le_mul_right _ x3
      have x5:r*2 ^ s=4294967296:=by rw [Nat.mul_comm];exact hr.symm
      omega
    have x6:=Nat.mul_le_mul_right (4294967296 ^ (k+1)) x2
    rw [Nat.mul_right_comm] at x1
    rw [Nat.pow_succ,Nat.mul_comm _ 4294967296]
    exact Nat.lt_of_lt_of_le x1 x6
  have hvl:(Sv.take (k+2)).length=k+2:=by rw [List.length_take];omega
  have hvv:val (Sv.take (k+2))=val b*2 ^ s:=by rw [Anl (by rw [v3];exact hVlt),v3]
  have hvlow:2147483648*4294967296 ^ (k+1)≤val b*2 ^ s:=by
    have x1:4294967296 ^ (k+1)*b[k+1]≤val b:=by omega
    have x2:=Nat.mul_le_mul_right (2 ^ s) x1
    rw [Nat.mul_assoc,Nat.mul_comm (4294967296 ^ (k+1))] at x2
    have x3:=Nat.mul_le_mul_right (4294967296 ^ (k+1)) s2
    omega
  have hvtop:2147483648≤(Sv.take (k+2))[k+1]'(by omega):=by
    have x1:=Anm (Bz v1 (k+2)) hvl
    rw [hvv] at x1
    have x2:=Nat.lt_of_mul_lt_mul_right (Nat.lt_of_le_of_lt hvlow x1)
    omega
  have hDl:Su.length=(a.length+1 - (k+2))+(k+2):=by omega
  have hinit:val (Su.drop (a.length+1 - (k+2)))<val (Sv.take (k+2)):=by
    have x1:=O4 (Su.take (a.length+1 - (k+2))) (Su.drop (a.length+1 - (k+2)))
    rw [List.take_append_drop,p3,List.length_take,Nat.min_eq_left (by omega)] at x1
    have x2:=Bc ha
    have x3:val a*2 ^ s<4294967296 ^ a.length*2 ^ s:=(Nat.mul_lt_mul_right hp).2 x2
    have x4:a.length=(a.length+1 - (k+2))+(k+1):=by omega
    generalize hE:a.length+1 - (k+2)=E at *
    have x5:4294967296 ^ a.length=4294967296 ^ E*4294967296 ^ (k+1):=by rw [← Nat.pow_add];congr 1
    rw [x5,Nat.mul_assoc] at x3
    have x6:4294967296 ^ E*val (Su.drop E)<4294967296 ^ E*(4294967296 ^ (k+1)*2 ^ s):=by omega
    have x7:=Nat.lt_of_mul_lt_mul_left x6
    have x8:4294967296 ^ (k+1)*2 ^ s≤2147483648*4294967296 ^ (k+1):=by rw [Nat.mul_comm];exact Nat.mul_le_mul_right _ (Bo7 s1)
    rw [hvv];omega
  obtain ⟨Sq,Sr,a1,a2,a3,a4,a5⟩:=Bms (R:=R) (N:=N) (v:=Sv.take (k+2)) (u0:=Su) (Sv:=Sv) (n:=k) (D:=a.length+1 - (k+2)) (s:=s) hvl (Bz v1 _) hvtop (by rw [Nat.mul_one,T3]) p1 hDl s1 (hf.le (by omega)) (a.length+1 - (k+2)) N 0 Su (List.replicate (a.length+1 - (k+2)) 0) (by omega) (by omega) p1 rfl (B4 _) (by simp) rfl hinit (by
    rw [List.drop_eq_nil_of_le (show (List.replicate (a.length+1 - (k+2)) 0).length≤a.length+1 - (k+2) by simp)];simp [val])
  have hq:val Su/val (Sv.take (k+2))=val a/val b:=by rw [p3,hvv,Nat.mul_div_mul_right _ _ hp]
  have hr:val Su%val (Sv.take (k+2))/2 ^ s=val a%val b:=by rw [p3,hvv,Nat.mul_mod_mul_right,Nat.mul_div_cancel _ hp]
  rw [hq] at a2;rw [hr] at a4
  refine ⟨Sq,Sr,a1,a2,a3,a4,fun K=>?_⟩
  rw [Ad9];unfold Ab1 Ab0
  have w1:IntKind.wrap .i64 (((b.length:Nat):Int) - 1)=((k+1:Nat):Int):=by rw [i64 (by omega)];omega
  have w2:IntKind.wrap .i64 (((a.length+1:Nat):Int) - ((b.length:Nat):Int))=((a.length+1 - (k+2):Nat):Int):=by rw [i64 (by omega)];omega
  rw [w1,Ah (by omega),ct,rdl (by omega),s4,v4,sl0 (by omega),ct,p4,w2,mk4 (by omega),ct,Int.toNat_natCast,Ci]
  have:=a5 K
  rw [hq,hr,p2] at this
  rw [hk]
  exact this
theorem Ats {N:Nat} {a b:List Nat} {n m:Nat} {t o t' o':Bool} (hn:n=a.length) (hm:m=b.length) (ha:Af a) (hb:Af b) (hb0:val b≠0) (hf:fit (a.length+b.length+4) N) :
    ∃ Sq Sr,Af Sq∧val Sq=val a/val b∧Af Sr∧val Sr=val a%val b∧∀ K:Nat→Nat→Bool→LA→LA→Option R,D0 N (Ad a) n t o (Ad b) m t' o' K=K (dig (val a/val b)).length (dig (val a%val b)).length true (Ad Sq) (Ad Sr):=by
  have h1:=hf.1;have h2:=hf.2
  have la:=(Bh ha).2
  have lb:=(Bh hb).2
  have hbl:(dig (val b)).length≠0:=fun h=>hb0 (Bj.1 h)
  have start:∀ K:Nat→Nat→Bool→LA→LA→Option R,D0 N (Ad a) n t o (Ad b) m t' o' K=cond (decide (F6 (val a) (val b)<0)) (Ys N (Ad (dig (val a))) (dig (val a)).length false o (fun s t=>(K 0 s true [] t))) (cond (decide ((((dig (val a)).length:Nat):Int)≤(2:Int))) (Qh N (Ad (dig (val a))) (dig (val a)).length false o (fun p=>(Qh N (Ad (dig (val b))) (dig (val b)).length false o' (fun o=>(cond (o==(0:Int)) none (Bo N (IntKind.wrap .u64 (Int.tdiv p o)) (fun u w=>(cond (o==(0:Int)) none (Bo N (Int.tmod p o) (fun x y=>(K u x true w y))))))))))) (cond ((((dig (val b)).length:Nat):Int)==(1:Int)) (cond (Am (0:Int) (dig (val b)).length) (rdI .u32 (Ad (dig (val b))) fun z=>(Gc N (Ad (dig (val a))) (dig (val a)).length false o z (fun aa ab ac ad=>(K aa ab true ac ad)))) none) (J3 N (Ad (dig (val a))) (dig (val a)).length false o (Ad (dig (val b))) (dig (val b)).length false o' (fun ae af ag ah=>(K ae af true ag ah))))):=by
    intro K
    rw [Axk];unfold A0e A0d
    rw [Bt hn ha (hf.le (by omega)),Bt hm hb (hf.le (by omega)),i0F hbl,cf,Pq rfl rfl (Ab _) (Ab _) (hf.le (by omega)),Ag,Ag]
  by_cases hlt:val a<val b
  · refine ⟨[],dig (val a),T2,by rw [Nat.div_eq_of_lt hlt];rfl,Ab _,by rw [Nat.mod_eq_of_lt hlt,Ag],fun K=>?_⟩
    rw [start,show decide (F6 (val a) (val b)<0)=true by (unfold F6;rw [if_pos hlt];rfl),ct,Av0 rfl (Ab _) (hf.le (by omega)),Ag,Nat.div_eq_of_lt hlt,Nat.mod_eq_of_lt hlt,C6];rfl
  · have hcmp:decide (F6 (val a) (val b)<0)=false:=by unfold F6;rw [if_neg hlt];split<;>rfl
    have hll:=Bp (Nat.le_of_not_lt hlt)
    by_cases ha2:(dig (val a)).length≤2
    · have av:=A5l ha2
      have bv:=A5l (Nat.le_trans hll ha2)
      have q64:val a/val b<18446744073709551616:=Nat.lt_of_le_of_lt (Nat.div_le_self _ _) av
      have r64:val a%val b<18446744073709551616:=Nat.lt_of_le_of_lt (Nat.mod_le _ _) av
      obtain ⟨Sq,a1,a2,a3⟩:=Jb (R:=R) (N:=N) q64 (by omega)
      obtain ⟨Sr,b1,b2,b3⟩:=Jb (R:=R) (N:=N) r64 (by omega)
      refine ⟨Sq,Sr,a1,a2,b1,b2,fun K=>?_⟩
      rw [start,hcmp,cf,show decide ((((dig (val a)).length:Nat):Int)≤2)=true by simp;omega,ct,Ait rfl (Ab _) ha2 (by omega),Ait rfl (Ab _) (by omega) (by omega),Ag,Ag,i0F hb0,cf,Ax6,w64 q64,a3,cf,Atq,b3]
    · have hd2:decide ((((dig (val a)).length:Nat):Int)≤2)=false:=by simp;omega
      by_cases hb1:(dig (val b)).length=1
      · obtain ⟨x, hx⟩ : ∃ x, dig (val b) = [x] := by
          match h:dig (val b),hb1 with
          | [x],_=>exact ⟨x,rfl⟩
        have hxv:x=val b:=by have:=Ag (val b);rw [hx] at this;simpa [val] using this
        have xl:x<4294967296:=by have:=Ab (val b);rw [hx] at this;exact (Cq.1 this).1
        obtain ⟨Sq,Sr,a1,a2,a3,a4,a5⟩:=Brh (R:=R) (N:=N) (a:=dig (val a)) (t:=false) (o:=o) (b:=x) rfl (Ab _) (by omega) xl (hf.le (by omega))
        rw [Ag,hxv] at a2 a4 a5
        refine ⟨Sq,Sr,a1,a2,a3,a4,fun K=>?_⟩
        rw [start,hcmp,cf,hd2,cf,hx]
        simp only [List.length_cons,List.length_nil,Z6,Bi]
        rw [show ((((0+1:Nat)):Int)==1)=true by rfl,ct,show Am 0 (0+1)=true by decide,ct,hxv,a5]
      · obtain ⟨Sq,Sr,a1,a2,a3,a4,a5⟩:=Bvk (R:=R) (N:=N) (a:=dig (val a)) (b:=dig (val b)) (t:=false) (o:=o) (t':=false) (o':=o') rfl rfl (Ab _) (Ab _) (by omega) hll (Bi1 _ _) (hf.le (by omega))
        rw [Ag,Ag] at a2 a4 a5
        refine ⟨Sq,Sr,a1,a2,a3,a4,fun K=>?_⟩
        rw [start,hcmp,cf,hd2,cf,show ((((dig (val b)).length:Nat):Int)==1)=false by rw [beq_eq_false_iff_ne];omega,cf,a5]
end
end Gx

namespace Gx
open Go Go.Proofs
section
variable {R:Type}
def Cof (A B u0 u1 v0 v1:Nat) (e:Bool):Prop:=v0=0∨(1≤u1∧1≤v1∧match e with
  | true=>v0*B≤u0*A∧u1*A≤v1*B∧(v0+v1)*B≤(u0+u1)*A∧u0*v1=v0*u1+1
  | false=>u0*A≤v0*B∧v1*B≤u1*A∧(u0+u1)*A≤(v0+v1)*B∧u1*v0=v1*u0+1)
structure Lead (X Y x y u1 u2 v1 v2:Nat) (e:Bool):Prop where
  le:y≤x
  idV:x*v2+y*v1=X
  idU:x*u2+y*u1=Y
  pos:1≤v2
  par:match e with
    | false=>x+v1*Y=u1*X∧y+u2*X=v2*Y∧u1*v2=v1*u2+1
    | true=>x+u1*X=v1*Y∧y+v2*Y=u2*X∧u2*v1=v2*u1+1
  small:(v1=0∧u1=1∧u2=0∧v2=1∧e=false)∨(1≤v1∧u1≤v1∧u2≤v2∧1≤u2)
theorem Lead.init {X Y:Nat} (h:Y≤X):Lead X Y X Y 1 0 0 1 false:=⟨h,by simp,by simp,by omega,by simp,.inl ⟨rfl,rfl,rfl,rfl,rfl⟩⟩
theorem Lead.step {X Y x y u1 u2 v1 v2:Nat} {e:Bool} (L:Lead X Y x y u1 u2 v1 v2 e) (hy:1≤y):Lead X Y y (x%y) u2 (u1+x/y*u2) v2 (v1+x/y*v2) (!e):=by
  have hdm:=Nat.div_add_mod x y
  have hmod:=Nat.mod_lt x (show 0<y by omega)
  have hq:1≤x/y:=by rw [Nat.le_div_iff_mul_le (by omega)];have:=L.le;omega
  generalize x/y=q at *
  generalize x%y=r at *
  have hv2:=L.pos
  refine ⟨by omega,?_,?_,?_,?_,?_⟩
  · rw [← L.idV,← hdm,Nat.mul_add,Nat.add_mul,Nat.mul_assoc];omega
  · rw [← L.idU,← hdm,Nat.mul_add,Nat.add_mul,Nat.mul_assoc];omega
  · have:=Nat.mul_le_mul hq hv2;omega
  · have p:=L.par
    cases e with
    | false =>
      obtain ⟨p1,p2,p3⟩:=p
      refine ⟨p2,?_,?_⟩
      · have e1:q*(y+u2*X)=q*(v2*Y):=by rw [p2]
        rw [Nat.mul_add,← Nat.mul_assoc,← Nat.mul_assoc] at e1
        rw [Nat.mul_comm y q] at hdm
        rw [Nat.add_mul,Nat.add_mul];omega
      · rw [Nat.add_mul,Nat.add_mul,Nat.mul_right_comm q u2,p3];omega
    | true =>
      obtain ⟨p1,p2,p3⟩:=p
      refine ⟨p2,?_,?_⟩
      · have e1:q*(y+v2*Y)=q*(u2*X):=by rw [p2]
        rw [Nat.mul_add,← Nat.mul_assoc,← Nat.mul_assoc] at e1
        rw [Nat.mul_comm y q] at hdm
        rw [Nat.add_mul,Nat.add_mul];omega
      · rw [Nat.mul_add,Nat.mul_add,p3,Nat.mul_left_comm u2 q,Nat.mul_left_comm v2 q,Nat.mul_comm u2 v2];omega
  · right
    rcases L.small with ⟨s1,s2,s3,s4,_⟩ | ⟨s1,s2,s3,s4⟩
    · subst s1 s2 s3 s4;exact ⟨by omega,by omega,by omega,by omega⟩
    · have h1:q*u2≤q*v2:=Nat.mul_le_mul_left _ s3
      exact ⟨hv2,s3,by omega,by have:=Nat.mul_le_mul hq s4;omega⟩
theorem Lead.cof {X Y x y u1 u2 v1 v2 A B P:Nat} {e:Bool} (L:Lead X Y x y u1 u2 v1 v2 e) (hA:X*P≤A) (hA':A<(X+1)*P) (hB:Y*P≤B) (hB':B<(Y+1)*P) (c1:v2≤y) (c2:v1+v2≤x - y):Cof A B u1 u2 v1 v2 (!e):=by
  have p:=L.par
  have hle:=L.le
  rcases L.small with ⟨s1,_⟩ | ⟨s1,s2,s3,s4⟩
  · exact .inl s1
  · refine .inr ⟨s4,L.pos,?_⟩
    cases e with
    | false =>
      obtain ⟨p1,p2,p3⟩:=p
      have n1:u2*A≤v2*B:=Afk hB hA' (w:=y) (by omega) (by omega)
      have n2:(v1+v2)*B≤(u1+u2)*A:=Afk hA hB' (w:=x - y) (by rw [Nat.add_mul,Nat.add_mul];omega) c2
      refine ⟨?_,n1,n2,p3⟩
      rw [Nat.add_mul,Nat.add_mul] at n2;omega
    | true =>
      obtain ⟨p1,p2,p3⟩:=p
      have n1:v2*B≤u2*A:=Afk hA hB' (w:=y) (by omega) (by omega)
      have n2:(u1+u2)*A≤(v1+v2)*B:=Afk hB hA' (w:=x - y) (by rw [Nat.add_mul,Nat.add_mul];omega) (by omega)
      refine ⟨?_,n1,n2,p3⟩
      rw [Nat.add_mul,Nat.add_mul] at n2;omega
theorem Att {x y:Nat} (hy:1≤y) (h:y≤x):2*(y*(x%y))≤x*y:=by
  have h1:=Nat.div_add_mod x y
  have h2:=Nat.mod_lt x (show 0<y by omega)
  have hq:1≤x/y:=by rw [Nat.le_div_iff_mul_le (by omega)];omega
  have h3:y*1≤y*(x/y):=Nat.mul_le_mul_left _ hq
  have h4:2*(x%y)≤x:=by omega
  have:=Nat.mul_le_mul_left y h4
  rw [Nat.mul_comm x y,Nat.mul_left_comm];exact this
def Bui (u0 u1 v0 v1:Nat) (e:Bool):List AV:=[.int .u64 (u0:Int),.int .u64 (u1:Int),.int .u64 (v0:Int),.int .u64 (v1:Int),.bool e]
theorem Bvl {N:Nat} {X Y A B P:Nat} (hX:X<18446744073709551616) (hYX:Y≤X) (hA:X*P≤A) (hA':A<(X+1)*P) (hB:Y*P≤B) (hB':B<(Y+1)*P):∀ (k fuel x y u0 u1 u2 v0 v1 v2:Nat) (e:Bool),k<fuel→x*y<2 ^ k→Lead X Y x y u1 u2 v1 v2 e→Cof A B u0 u1 v0 v1 e→u0<18446744073709551616→u1<18446744073709551616→v0<18446744073709551616→v1<18446744073709551616 →
    ∃ (a1 a2 b1 b2:Nat) (e':Bool),Cof A B a1 a2 b1 b2 e'∧a1<18446744073709551616∧a2<18446744073709551616∧b1<18446744073709551616∧b2<18446744073709551616∧∀ K:LA→Option R,Da N K fuel (x:Int) (y:Int) (u0:Int) (u1:Int) (u2:Int) (v0:Int) (v1:Int) (v2:Int) e=K (Bui a1 a2 b1 b2 e'):=by
  intro k
  induction k with
  | zero =>
    intro fuel x y u0 u1 u2 v0 v1 v2 e hf hxy L C b1 b2 b3 b4
    obtain ⟨fuel,rfl⟩:∃ F,fuel=F+1:=⟨fuel - 1,by omega⟩
    have hy:y=0:=by
      rcases Nat.eq_zero_or_pos y with h | h
      · exact h
      · have h3:=Nat.mul_le_mul_left x (show 1≤y by omega)
        have h4:=L.le
        rw [Nat.pow_zero] at hxy
        omega
    refine ⟨u0,u1,v0,v1,e,C,b1,b2,b3,b4,fun K=>?_⟩
    rw [Da];unfold Hw
    have:=L.pos
    rw [show decide ((y:Int)≥(v2:Int))=false by simp;omega];rfl
  | succ k ih =>
    intro fuel x y u0 u1 u2 v0 v1 v2 e hf hxy L C b1 b2 b3 b4
    obtain ⟨fuel,rfl⟩:∃ F,fuel=F+1:=⟨fuel - 1,by omega⟩
    have hv2:=L.pos
    have hle:=L.le
    by_cases c1:v2≤y
    · have hy:1≤y:=by omega
      have hxX:x≤X:=by
        have:=Nat.mul_le_mul_left x hv2
        have:=L.idV;omega
      have hsum:v1+v2≤X:=by
        have h1:=Nat.mul_le_mul_right v2 (show 1≤x by omega)
        have h2:=Nat.mul_le_mul_right v1 hy
        have:=L.idV;omega
      by_cases c2:v1+v2≤x - y
      · have L':=L.step hy
        have C':=L.cof hA hA' hB hB' c1 c2
        have i1:=L'.idV
        have i2:=L'.idU
        have w1:v1+x/y*v2≤X:=by
          have:=Nat.mul_le_mul_right (v1+x/y*v2) hy;omega
        have w2:u1+x/y*u2≤Y:=by
          have:=Nat.mul_le_mul_right (u1+x/y*u2) hy;omega
        have hu2:u2<18446744073709551616:=by
          have h1:=Nat.mul_le_mul_right u2 (show 1≤x by omega)
          have:=L.idU;omega
        have hv2':v2<18446744073709551616:=by omega
        have hlt:y*(x%y)<2 ^ k:=by
          have:=Att hy hle
          rw [Nat.pow_succ] at hxy;omega
        obtain ⟨a1,a2,d1,d2,e',r1,r2,r3,r4,r5,r6⟩:=ih fuel y (x%y) u1 u2 (u1+x/y*u2) v1 v2 (v1+x/y*v2) (!e) (by omega) hlt L' C' b2 hu2 b4 hv2'
        refine ⟨a1,a2,d1,d2,e',r1,r2,r3,r4,r5,fun K=>?_⟩
        rw [Da];unfold Hw
        have hxy64:x<18446744073709551616:=by omega
        have hdiv:x/y<18446744073709551616:=Nat.lt_of_le_of_lt (Nat.div_le_self _ _) hxy64
        rw [show decide ((y:Int)≥(v2:Int))=true by simp;omega,show ((true:Bool)==true)=true by rfl,ct,A82 hxy64 hle,Aiq,w64 (show v1+v2<18446744073709551616 by omega),show decide (((x - y:Nat):Int)≥((v1+v2:Nat):Int))=true by rw [decide_eq_true_eq];omega,ctB,ct]
        unfold U7 Abu
        dsimp only
        rw [i0F (by omega),cf,cf,Ax6,Atq,w64 hdiv,Bi2,Bi2,w64 (show x/y*u2<18446744073709551616 by omega),w64 (show x/y*v2<18446744073709551616 by omega),Aiq,Aiq,w64 (show u1+x/y*u2<18446744073709551616 by omega),w64 (show v1+x/y*v2<18446744073709551616 by omega)]
        exact r6 K
      · refine ⟨u0,u1,v0,v1,e,C,b1,b2,b3,b4,fun K=>?_⟩
        rw [Da];unfold Hw
        rw [show decide ((y:Int)≥(v2:Int))=true by simp;omega,show ((true:Bool)==true)=true by rfl,ct,A82 (by omega) hle,Aiq,w64 (show v1+v2<18446744073709551616 by omega),show decide (((x - y:Nat):Int)≥((v1+v2:Nat):Int))=false by rw [decide_eq_false_iff_not];omega,ctB,cf]
        rfl
    · refine ⟨u0,u1,v0,v1,e,C,b1,b2,b3,b4,fun K=>?_⟩
      rw [Da];unfold Hw
      rw [show decide ((y:Int)≥(v2:Int))=false by simp;omega];rfl
end
end Gx

namespace Gx
open Go Go.Proofs
section
variable {R:Type}
theorem A9a {N:Nat} {a:List Nat} {n:Nat} {t o:Bool} {i:Nat} {K:Int→Option R} (hn:n=a.length) (ha:Af a):I0 N (i:Int) (Ad a) n t o K=K ((a.getD i 0:Nat):Int):=by
  subst hn
  rw [Ah7];unfold Agi Agh
  by_cases h:i<a.length
  · have:=Az ha h
    rw [ltT h,ct,Ah h,ct,rdl h,w64 (by omega),List.getD_eq_getElem?_getD,List.getElem?_eq_getElem h];rfl
  · rw [ltF (by omega),cf,List.getD_eq_getElem?_getD,List.getElem?_eq_none (by omega)];rfl
theorem Z8 {a:List Nat} (ha:Af a) (i:Nat):a.getD i 0<4294967296:=by
  by_cases h:i<a.length
  · rw [List.getD_eq_getElem?_getD,List.getElem?_eq_getElem h];exact Az ha h
  · rw [List.getD_eq_getElem?_getD,List.getElem?_eq_none (by omega)];simp
theorem Bw1 {a:List Nat} {n:Nat} (hl:a.length≤n+3):val a=val (a.take n)+4294967296 ^ n*((a.getD (n+2) 0*4294967296+a.getD (n+1) 0)*4294967296+a.getD n 0):=by
  have h0:=Pr a (n+2)
  have h1:=Pr a (n+1)
  have h2:=Pr a n
  rw [List.take_of_length_le (by omega)] at h0
  have x1:4294967296 ^ (n+2)*a.getD (n+2) 0=4294967296 ^ n*(a.getD (n+2) 0*4294967296*4294967296):=by rw [Nat.pow_succ (n:=4294967296) (m:=n+1),Nat.pow_succ,pw1,pw1]
  have x2:4294967296 ^ (n+1)*a.getD (n+1) 0=4294967296 ^ n*(a.getD (n+1) 0*4294967296):=by rw [Nat.pow_succ,pw1]
  rw [h0,h1,h2,x1,x2,Nat.add_mul,Nat.mul_add,Nat.mul_add];omega
theorem Bci {N:Nat} {a:List Nat} {m n s:Nat} {t o:Bool} {K:Int→Option R} (hm:m=a.length) (ha:Af a) (hl:a.length≤n+3) (hs:s≤31) (htop:a.getD (n+2) 0*2 ^ s<4294967296) (hn:n≤1000000000000) :
    Zw N (Ad a) m t o ((n+3:Nat):Int) (s:Int) K=K ((val a/(4294967296 ^ n*2 ^ (32 - s)):Nat):Int)∧val a/(4294967296 ^ n*2 ^ (32 - s))<18446744073709551616:=by
  have hp:0<2 ^ s:=Nat.pow_pos (by omega)
  have hp2:0<2 ^ (32 - s):=Nat.pow_pos (by omega)
  have hP:0<4294967296 ^ n:=Nat.pow_pos (by omega)
  have hpp:2 ^ s*2 ^ (32 - s)=4294967296:=by rw [← Nat.pow_add,show s+(32 - s)=32 by omega]
  have b0:=Z8 ha (n+2)
  have b1:=Z8 ha (n+1)
  have b2:=Z8 ha n
  have tk:=Bc (Bz ha n)
  have tk2:val (a.take n)<4294967296 ^ n:=by
    refine Nat.lt_of_lt_of_le tk (Nat.pow_le_pow_right (by omega) ?_)
    rw [List.length_take];omega
  have hv:=Bw1 hl
  generalize ha0:a.getD (n+2) 0=a0 at *
  generalize ha1:a.getD (n+1) 0=a1 at *
  generalize ha2:a.getD n 0=a2 at *
  have hd0:a0<2 ^ (32 - s):=by
    rw [← hpp,Nat.mul_comm] at htop;exact Nat.lt_of_mul_lt_mul_left htop
  have hk:(a0*4294967296+a1)*2 ^ s<18446744073709551616:=by
    have x1:(a0+1)*4294967296≤2 ^ (32 - s)*4294967296:=Nat.mul_le_mul_right _ hd0
    have x2:a0*4294967296+a1<2 ^ (32 - s)*4294967296:=by rw [Nat.add_mul] at x1;omega
    have x3:=(Nat.mul_lt_mul_right hp).2 x2
    rw [Nat.mul_right_comm,Nat.mul_comm (2 ^ (32 - s)),hpp] at x3
    exact x3
  have hsh:a2/2 ^ (32 - s)<2 ^ s:=by
    rw [Nat.div_lt_iff_lt_mul hp2,hpp];exact b2
  have hq:val a/(4294967296 ^ n*2 ^ (32 - s))=(a0*4294967296+a1)*2 ^ s+a2/2 ^ (32 - s):=by
    rw [← Nat.div_div_eq_div_mul,hv,Nat.add_mul_div_left _ _ hP,Nat.div_eq_of_lt tk2,Nat.zero_add]
    have:(a0*4294967296+a1)*4294967296+a2=a2+2 ^ (32 - s)*((a0*4294967296+a1)*2 ^ s):=by
      rw [Nat.mul_left_comm,Nat.mul_comm (2 ^ (32 - s)),hpp];omega
    rw [this,Nat.add_mul_div_left _ _ hp2];omega
  have hb:(a0*4294967296+a1)*2 ^ s+a2/2 ^ (32 - s)<18446744073709551616:=by
    have hdv:2 ^ s*2 ^ (64 - s)=18446744073709551616:=by rw [← Nat.pow_add,show s+(64 - s)=64 by omega]
    obtain ⟨r,hr⟩:∃ r,18446744073709551616=2 ^ s*r:=⟨2 ^ (64 - s),hdv.symm⟩
    rw [hr,Nat.mul_comm] at hk
    have x1:=Nat.lt_of_mul_lt_mul_left hk
    have x2:(a0*4294967296+a1+1)*2 ^ s≤r*2 ^ s:=Nat.mul_le_mul_right _ x1
    rw [Nat.add_mul,Nat.mul_comm r,← hr] at x2
    omega
  rw [hq]
  refine ⟨?_,hb⟩
  rw [Axc];unfold Az7 Az6
  have w1:IntKind.wrap .i64 (((n+3:Nat):Int) - 1)=((n+2:Nat):Int):=by rw [i64 (by omega)];omega
  have w2:IntKind.wrap .i64 (((n+3:Nat):Int) - 2)=((n+1:Nat):Int):=by rw [i64 (by omega)];omega
  have w3:IntKind.wrap .i64 (((n+3:Nat):Int) - 3)=((n:Nat):Int):=by rw [i64 (by omega)];omega
  have w4:IntKind.wrap .i64 ((32:Int) - (s:Int))=((32 - s:Nat):Int):=by rw [i64 (by omega)];omega
  rw [w1,w2,w3,w4,A9a hm ha,A9a hm ha,show decide (((s:Nat):Int)<0)=false by simp,cf,A9a hm ha,show decide (((32 - s:Nat):Int)<0)=false by simp,cf]
  rw [ha0,ha1,ha2,orw b0 b1,Int.toNat_natCast,Int.toNat_natCast,Nat.min_eq_left (by omega),Nat.min_eq_left (by omega),Rw,show (2:Int) ^ s=((2 ^ s:Nat):Int) by simp,Bi2,w64 hk,Bs8 hk (by omega),A84 hsh]
theorem Bo8 {N:Nat} {a b:List Nat} {n m:Nat} {t o t' o':Bool} (hn:n=a.length) (hm:m=b.length) (ha:Af a) (hb:Af b) (ha3:3≤a.length) (hla:a.getLast (by intro h;rw [h] at ha3;simp at ha3)≠0) (hlb:b.length≤a.length) (hle:val b≤val a) (hf:fit a.length N) :
    ∃ (a1 a2 b1 b2:Nat) (e:Bool),Cof (val a) (val b) a1 a2 b1 b2 e∧a1<18446744073709551616∧a2<18446744073709551616∧b1<18446744073709551616∧b2<18446744073709551616∧∀ K:LA→Option R,Abv N (Ad a) n t o (Ad b) m t' o' K=K (Bui a1 a2 b1 b2 e):=by
  subst hn hm
  have h1:=hf.1;have h2:=hf.2
  obtain ⟨k,hk⟩:∃ k,a.length=k+3:=⟨a.length - 3,by omega⟩
  have hla2:a[k+2]'(by omega)≠0:=by
    rw [List.getLast_eq_getElem] at hla
    simp only [hk] at hla
    exact hla
  have ak:=Az ha (show k+2<a.length by omega)
  obtain ⟨s,s1,s2,s3,s4⟩:=Buf (R:=R) (N:=N) (c:=a[k+2]'(by omega)) (by omega) ak
  have hag:a.getD (k+2) 0=a[k+2]'(by omega):=by rw [List.getD_eq_getElem?_getD,List.getElem?_eq_getElem (by omega)];rfl
  have hbtop:b.getD (k+2) 0≤a[k+2]'(by omega):=by
    apply Nat.le_of_not_lt;intro hlt
    have hbl:k+2<b.length:=by
      apply Nat.lt_of_not_le;intro hge
      rw [List.getD_eq_getElem?_getD,List.getElem?_eq_none hge] at hlt;simp at hlt
    have hbg:b.getD (k+2) 0=b[k+2]:=by rw [List.getD_eq_getElem?_getD,List.getElem?_eq_getElem hbl];rfl
    rw [hbg] at hlt
    have x1:=Anm ha (n:=k+2) (by omega)
    have x2:=Btb hbl
    have x3:(a[k+2]+1)*4294967296 ^ (k+2)≤b[k+2]*4294967296 ^ (k+2):=Nat.mul_le_mul_right _ hlt
    rw [Nat.mul_comm] at x2
    omega
  have hbt:b.getD (k+2) 0*2 ^ s<4294967296:=Nat.lt_of_le_of_lt (Nat.mul_le_mul_right _ hbtop) s3
  have hPP:0<4294967296 ^ k*2 ^ (32 - s):=Nat.mul_pos (Nat.pow_pos (by omega)) (Nat.pow_pos (by omega))
  have wa:=fun K=>Bci (R:=R) (N:=N) (a:=a) (m:=a.length) (n:=k) (s:=s) (t:=false) (o:=o) (K:=K) rfl ha (by omega) s1 (by rw [hag];exact s3) (by omega)
  have wb:=fun K=>Bci (R:=R) (N:=N) (a:=b) (m:=b.length) (n:=k) (s:=s) (t:=false) (o:=o') (K:=K) rfl hb (by omega) s1 hbt (by omega)
  have hX:=(wa fun _=>none).2
  generalize hP:4294967296 ^ k*2 ^ (32 - s)=P at *
  have hYX:val b/P≤val a/P:=Nat.div_le_div_right hle
  have q1:∀ z,z/P*P≤z:=fun z=>Nat.div_mul_le_self z P
  have q2:∀ z,z<(z/P+1)*P:=fun z=>by
    have:=Nat.div_add_mod z P;have:=Nat.mod_lt z hPP
    rw [Nat.add_mul,Nat.mul_comm];omega
  obtain ⟨a1,a2,b1,b2,e,r1,r2,r3,r4,r5,r6⟩:=Bvl (R:=R) (N:=N) (X:=val a/P) (Y:=val b/P) (A:=val a) (B:=val b) (P:=P) hX hYX (q1 _) (q2 _) (q1 _) (q2 _) 128 N (val a/P) (val b/P) 0 1 0 0 0 1 false (by omega) (by
    have:=Nat.mul_lt_mul'' hX (Nat.lt_of_le_of_lt hYX hX)
    exact this) (Lead.init hYX) (.inl rfl) (by omega) (by omega) (by omega) (by omega)
  refine ⟨a1,a2,b1,b2,e,r1,r2,r3,r4,r5,fun K=>?_⟩
  rw [Ari];unfold Arh Arg
  have w1:IntKind.wrap .i64 (((a.length:Nat):Int) - 1)=((k+2:Nat):Int):=by rw [i64 (by omega)];omega
  rw [w1,Ah (by omega),ct,rdl (by omega),s4,show ((a.length:Nat):Int)=((k+3:Nat):Int) by rw [hk],(wa _).1,(wb _).1]
  exact r6 K
theorem Zh {N:Nat} {a b:List Nat} {n m:Nat} {x y:Nat} {t o t' o':Bool} (hn:n=a.length) (hm:m=b.length) (ha:Af a) (hb:Af b) (hx:x<18446744073709551616) (hy:y<18446744073709551616) (hle:val b*y≤val a*x) (hf:fit (a.length+b.length+4) N) :
    ∃ S,Af S∧val S=val a*x - val b*y∧∀ K:Nat→LA→Option R,El N (Ad a) n t o (x:Int) (Ad b) m t' o' (y:Int) K=K (dig (val a*x - val b*y)).length (Ad S):=by
  subst hn hm
  have h1:=hf.1;have h2:=hf.2
  obtain ⟨Sx,x1,x2,x3⟩:=Jb (R:=R) (N:=N) hx (by omega)
  obtain ⟨Sy,y1,y2,y3⟩:=Jb (R:=R) (N:=N) hy (by omega)
  have lx:=Zg hx
  have ly:=Zg hy
  obtain ⟨P1,p1,p2,p3⟩:=Atp (R:=R) (N:=N) (a:=a) (b:=dig x) (t:=false) (o:=o) (t':=false) (o':=true) rfl rfl ha (Ab _) (hf.le (by omega))
  obtain ⟨P2,q1,q2,q3⟩:=Atp (R:=R) (N:=N) (a:=b) (b:=dig y) (t:=false) (o:=o') (t':=false) (o':=true) rfl rfl hb (Ab _) (hf.le (by omega))
  rw [Ag] at p2 p3 q2 q3
  have l1:(dig (val a*x)).length≤a.length+2:=Ch (by
    have:=Nat.mul_lt_mul'' (Bc ha) hx
    rw [Nat.pow_add];exact this)
  have l2:(dig (val b*y)).length≤b.length+2:=Ch (by
    have:=Nat.mul_lt_mul'' (Bc hb) hy
    rw [Nat.pow_add];exact this)
  obtain ⟨S,s1,s2,s3⟩:=Bi9 (R:=R) (N:=N) (a:=dig (val a*x)) (b:=dig (val b*y)) (t:=false) (o:=true) (t':=false) (o':=true) rfl rfl (Ab _) (Ab _) (hf.le (by omega)) (by rw [Ag,Ag];exact hle)
  rw [Ag,Ag] at s2 s3
  refine ⟨S,s1,s2,fun K=>?_⟩
  rw [Arq];unfold Arp Aro
  have tx:List.take ((dig x).length*1) (Ad Sx)=Ad (dig x):=by rw [← x2,J7 x1]
  have ty:List.take ((dig y).length*1) (Ad Sy)=Ad (dig y):=by rw [← y2,J7 y1]
  have t1:List.take ((dig (val a*x)).length*1) (Ad P1)=Ad (dig (val a*x)):=by rw [← p2,J7 p1]
  have t2:List.take ((dig (val b*y)).length*1) (Ad P2)=Ad (dig (val b*y)):=by rw [← q2,J7 q1]
  rw [x3,tx,p3,y3,ty,q3,t1,t2,s3]
end
end Gx

namespace Gx
open Go Go.Proofs
section
variable {R:Type}
theorem Bvm {N:Nat} (hN:4≤N):∀ (k fuel x y:Nat),k<fuel→x*y<2 ^ k→y≤x→x<18446744073709551616→∃ S,Af S∧val S=Nat.gcd x y∧∀ (k1:LA→Nat→Bool→LA→Nat→Bool→Option R) (K:Nat→LA→Option R),Pj N k1 K fuel (x:Int) (y:Int)=K (dig (Nat.gcd x y)).length (Ad S):=by
  have base:∀ (fuel x:Nat),x<18446744073709551616→∃ S,Af S∧val S=Nat.gcd x 0∧∀ (k1:LA→Nat→Bool→LA→Nat→Bool→Option R) (K:Nat→LA→Option R),Pj N k1 K (fuel+1) (x:Int) ((0:Nat):Int)=K (dig (Nat.gcd x 0)).length (Ad S):=by
    intro fuel x hx
    obtain ⟨S,s1,s2,s3⟩:=Jb (R:=R) (N:=N) hx hN
    refine ⟨S,s1,by rw [s2,Nat.gcd_zero_right],fun k1 K=>?_⟩
    rw [Pj];unfold Ak9
    rw [show (((0:Nat):Int) != 0)=false by rfl,cf,s3,Nat.gcd_zero_right]
  intro k
  induction k with
  | zero =>
    intro fuel x y hf hxy hle hx
    obtain ⟨fuel,rfl⟩:∃ F,fuel=F+1:=⟨fuel - 1,by omega⟩
    have hy:y=0:=by
      rcases Nat.eq_zero_or_pos y with h | h
      · exact h
      · have h3:=Nat.mul_le_mul_left x (show 1≤y by omega)
        rw [Nat.pow_zero] at hxy;omega
    subst hy
    exact base fuel x hx
  | succ k ih =>
    intro fuel x y hf hxy hle hx
    obtain ⟨fuel,rfl⟩:∃ F,fuel=F+1:=⟨fuel - 1,by omega⟩
    rcases Nat.eq_zero_or_pos y with h | h
    · subst h;exact base fuel x hx
    · have hh:=Att (show 1≤y by omega) hle
      have hm:=Nat.mod_lt x h
      obtain ⟨S,s1,s2,s3⟩:=ih fuel y (x%y) (by omega) (by rw [Nat.pow_succ] at hxy;omega) (by omega) (by omega)
      have hg:Nat.gcd y (x%y)=Nat.gcd x y:=by rw [Nat.gcd_comm,← Nat.gcd_rec,Nat.gcd_comm]
      rw [hg] at s2 s3
      refine ⟨S,s1,s2,fun k1 K=>?_⟩
      rw [Pj];unfold Ak9
      rw [show ((y:Int) != 0)=true by rw [bne_iff_ne];omega,ct,i0F (by omega),cf,Atq]
      exact s3 k1 K
theorem Bmt {a b u v s t x y:Nat} (hx:x+v*b=u*a) (hy:y+s*a=t*b) (hdet:u*t=v*s+1):t*x+v*y=a∧s*x+u*y=b:=by
  constructor
  · have h1:t*x+t*v*b=t*u*a:=by rw [Nat.mul_assoc,Nat.mul_assoc,← Nat.mul_add,hx]
    have h2:v*y+v*s*a=v*t*b:=by rw [Nat.mul_assoc,Nat.mul_assoc,← Nat.mul_add,hy]
    have h3:t*u*a=v*s*a+a:=by rw [Nat.mul_comm t u,hdet,Nat.add_mul,Nat.one_mul]
    have h4:t*v*b=v*t*b:=by rw [Nat.mul_comm t v]
    omega
  · have h1:s*x+s*v*b=s*u*a:=by rw [Nat.mul_assoc,Nat.mul_assoc,← Nat.mul_add,hx]
    have h2:u*y+u*s*a=u*t*b:=by rw [Nat.mul_assoc,Nat.mul_assoc,← Nat.mul_add,hy]
    have h3:u*t*b=v*s*b+b:=by rw [hdet,Nat.add_mul,Nat.one_mul]
    have h4:s*u*a=u*s*a:=by rw [Nat.mul_comm s u]
    have h5:s*v*b=v*s*b:=by rw [Nat.mul_comm s v]
    omega
theorem Bmu {A B a b p q r s:Nat} (hA:p*a+q*b=A) (hB:r*a+s*b=B) (hp:1≤p) (hq:1≤q) (hr:1≤r) (hba:b≤a):2*(a*b)≤A*B∧a≤A:=by
  have h1:=Nat.mul_le_mul_right a hp
  have h2:=Nat.mul_le_mul_right b hq
  have h3:=Nat.mul_le_mul_right a hr
  have h4:2*b≤A:=by omega
  have h5:a≤B:=by omega
  have:=Nat.mul_le_mul h4 h5
  refine ⟨?_,by omega⟩
  rw [Nat.mul_comm a b,← Nat.mul_assoc];exact this
theorem Bza {u0 u1 v0 v1:Nat} {e:Bool}:setCells [(.int .u64 0),(.int .u64 0),(.int .u64 0),(.int .u64 0),(.bool false)] 0 (Bui u0 u1 v0 v1 e)=Bui u0 u1 v0 v1 e:=rfl
theorem Brj {N:Nat}:∀ (k fuel A B:Nat) (d f:Bool),k<fuel→A*B<2 ^ k→B≤A→fit (2*(dig A).length+4) N→∃ S,Af S∧val S=Nat.gcd A B∧∀ K:Nat→LA→Option R,Dh N K fuel (Ad (dig A)) (dig A).length d (Ad (dig B)) (dig B).length f=K (dig (Nat.gcd A B)).length (Ad S):=by
  have base:∀ (fuel A:Nat) (d f:Bool),fit (2*(dig A).length+4) N→∃ S,Af S∧val S=Nat.gcd A 0∧∀ K:Nat→LA→Option R,Dh N K (fuel+1) (Ad (dig A)) (dig A).length d (Ad (dig 0)) (dig 0).length f=K (dig (Nat.gcd A 0)).length (Ad S):=by
    intro fuel A d f hf
    refine ⟨dig A,Ab _,by rw [Ag,Nat.gcd_zero_right],fun K=>?_⟩
    rw [Dh];unfold Ab3
    rw [C6,show decide ((((([]:List Nat).length:Nat)):Int)>0)=false by decide,cf,Av0 rfl (Ab _) (hf.le (by omega)),Ag,Nat.gcd_zero_right]
  intro k
  induction k with
  | zero =>
    intro fuel A B d f hfu hxy hle hf
    obtain ⟨fuel,rfl⟩:∃ F,fuel=F+1:=⟨fuel - 1,by omega⟩
    have hy:B=0:=by
      rcases Nat.eq_zero_or_pos B with h | h
      · exact h
      · have h3:=Nat.mul_le_mul_left A (show 1≤B by omega)
        rw [Nat.pow_zero] at hxy;omega
    subst hy
    exact base fuel A d f hf
  | succ k ih =>
    intro fuel A B d f hfu hxy hle hf
    have h1:=hf.1;have h2:=hf.2
    obtain ⟨fuel,rfl⟩:∃ F,fuel=F+1:=⟨fuel - 1,by omega⟩
    rcases Nat.eq_zero_or_pos B with h | h
    · subst h;exact base fuel A d f hf
    have hll:=Bp hle
    have hbl:(dig B).length≠0:=fun h0=>by have:=Bj.1 h0;omega
    have hd0:decide ((((dig B).length:Nat):Int)>0)=true:=by rw [decide_eq_true_eq];omega
    by_cases ha2:(dig A).length≤2
    · have av:=A5l ha2
      obtain ⟨S,s1,s2,s3⟩:=Bvm (R:=R) (N:=N) (by omega) 128 N A B (by omega) (by have:=Nat.mul_lt_mul'' av (Nat.lt_of_le_of_lt hle av);exact this) hle av
      refine ⟨S,s1,s2,fun K=>?_⟩
      rw [Dh];unfold Ab3
      rw [hd0,ct,show decide ((((dig A).length:Nat):Int)≤2)=true by rw [decide_eq_true_eq];omega,ct,Ait rfl (Ab _) ha2 (by omega),Ait rfl (Ab _) (by omega) (by omega),Ag,Ag]
      exact s3 _ K
    · have hd2:decide ((((dig A).length:Nat):Int)≤2)=false:=by rw [decide_eq_false_iff_not];omega
      obtain ⟨a1,a2,b1,b2,e,r1,r2,r3,r4,r5,r6⟩:=Bo8 (R:=R) (N:=N) (a:=dig A) (b:=dig B) (t:=false) (o:=d) (t':=false) (o':=f) rfl rfl (Ab _) (Ab _) (by omega) (Bi1 _ _) hll (by rw [Ag,Ag];exact hle) (hf.le (by omega))
      rw [Ag,Ag] at r1
      have start:∀ K:Nat→LA→Option R,Dh N K (fuel+1) (Ad (dig A)) (dig A).length d (Ad (dig B)) (dig B).length f=cond ((b1:Int)==0) (D0 N (Ad (dig A)) (dig A).length false d (Ad (dig B)) (dig B).length false f (fun bm ag bn bo ar=>(Dh N K fuel (Ad (dig B)) (dig B).length f (List.take (ag*1) ar) ag false))) (cond e (El N (Ad (dig A)) (dig A).length false d (a1:Int) (Ad (dig B)) (dig B).length false f (b1:Int) (fun ah ax=>El N (Ad (dig B)) (dig B).length false f (b2:Int) (Ad (dig A)) (dig A).length false d (a2:Int) (fun ai ba=>(Dh N K fuel (List.take (ah*1) ax) ah false (List.take (ai*1) ba) ai false)))) (El N (Ad (dig B)) (dig B).length false f (b1:Int) (Ad (dig A)) (dig A).length false d (a1:Int) (fun aj bd=>El N (Ad (dig A)) (dig A).length false d (a2:Int) (Ad (dig B)) (dig B).length false f (b2:Int) (fun ak bg=>(Dh N K fuel (List.take (aj*1) bd) aj false (List.take (ak*1) bg) ak false))))):=by
        intro K
        rw [Dh];unfold Ab3
        rw [hd0,ct,hd2,cf,r6,Bza]
        rfl
      by_cases hb1:b1=0
      · obtain ⟨Sq,Sr,q1,q2,q3,q4,q5⟩:=Ats (R:=R) (N:=N) (a:=dig A) (b:=dig B) (t:=false) (o:=d) (t':=false) (o':=f) rfl rfl (Ab _) (Ab _) (by rw [Ag];omega) (hf.le (by omega))
        rw [Ag,Ag] at q2 q4 q5
        have hm:=Nat.mod_lt A h
        have hh:=Att (show 1≤B by omega) hle
        obtain ⟨S,s1,s2,s3⟩:=ih fuel B (A%B) f false (by omega) (by rw [Nat.pow_succ] at hxy;omega) (by omega) (hf.le (by omega))
        have hg:Nat.gcd B (A%B)=Nat.gcd A B:=by rw [Nat.gcd_comm,← Nat.gcd_rec,Nat.gcd_comm]
        rw [hg] at s2 s3
        refine ⟨S,s1,s2,fun K=>?_⟩
        have tk:List.take ((dig (A%B)).length*1) (Ad Sr)=Ad (dig (A%B)):=by rw [← q4,J7 q3]
        rw [start,i0T hb1,ct,q5,tk,s3]
      · rcases r1 with r1 | ⟨p1,p2,r1⟩
        · exact absurd r1 hb1
        cases e with
        | true =>
          obtain ⟨c1,c2,c3,c4⟩:=r1
          obtain ⟨S1,t1,t2,t3⟩:=Zh (R:=R) (N:=N) (a:=dig A) (b:=dig B) (x:=a1) (y:=b1) (t:=false) (o:=d) (t':=false) (o':=f) rfl rfl (Ab _) (Ab _) r2 r4 (by rw [Ag,Ag,Nat.mul_comm,Nat.mul_comm A];exact c1) (hf.le (by omega))
          obtain ⟨S2,w1,w2,w3⟩:=Zh (R:=R) (N:=N) (a:=dig B) (b:=dig A) (x:=b2) (y:=a2) (t:=false) (o:=f) (t':=false) (o':=d) rfl rfl (Ab _) (Ab _) r5 r3 (by rw [Ag,Ag,Nat.mul_comm,Nat.mul_comm B];exact c2) (hf.le (by omega))
          rw [Ag,Ag] at t2 t3 w2 w3
          have g1:(A*a1 - B*b1)+b1*B=a1*A:=by rw [Nat.mul_comm A,Nat.mul_comm B];omega
          have g2:(B*b2 - A*a2)+a2*A=b2*B:=by rw [Nat.mul_comm A,Nat.mul_comm B];omega
          have hba:B*b2 - A*a2≤A*a1 - B*b1:=by rw [Nat.add_mul,Nat.add_mul] at c3;omega
          obtain ⟨i1,i2⟩:=Bmt g1 g2 c4
          have hg:=Bq4 g1 g2 c4
          obtain ⟨i3,i4⟩:=Bmu i1 i2 p2 (by omega) p1 hba
          have hl:=Bp i4
          obtain ⟨S,s1,s2,s3⟩:=ih fuel (A*a1 - B*b1) (B*b2 - A*a2) false false (by omega) (by rw [Nat.pow_succ] at hxy;omega) hba (hf.le (by omega))
          rw [hg] at s2 s3
          refine ⟨S,s1,s2,fun K=>?_⟩
          have tk1:List.take ((dig (A*a1 - B*b1)).length*1) (Ad S1)=Ad (dig (A*a1 - B*b1)):=by rw [← t2,J7 t1]
          have tk2:List.take ((dig (B*b2 - A*a2)).length*1) (Ad S2)=Ad (dig (B*b2 - A*a2)):=by rw [← w2,J7 w1]
          rw [start,i0F hb1,cf,ct,t3,w3,tk1,tk2,s3]
        | false =>
          obtain ⟨c1,c2,c3,c4⟩:=r1
          obtain ⟨S1,t1,t2,t3⟩:=Zh (R:=R) (N:=N) (a:=dig B) (b:=dig A) (x:=b1) (y:=a1) (t:=false) (o:=f) (t':=false) (o':=d) rfl rfl (Ab _) (Ab _) r4 r2 (by rw [Ag,Ag,Nat.mul_comm,Nat.mul_comm B];exact c1) (hf.le (by omega))
          obtain ⟨S2,w1,w2,w3⟩:=Zh (R:=R) (N:=N) (a:=dig A) (b:=dig B) (x:=a2) (y:=b2) (t:=false) (o:=d) (t':=false) (o':=f) rfl rfl (Ab _) (Ab _) r3 r5 (by rw [Ag,Ag,Nat.mul_comm,Nat.mul_comm A];exact c2) (hf.le (by omega))
          rw [Ag,Ag] at t2 t3 w2 w3
          have g1:(B*b1 - A*a1)+a1*A=b1*B:=by rw [Nat.mul_comm A,Nat.mul_comm B];omega
          have g2:(A*a2 - B*b2)+b2*B=a2*A:=by rw [Nat.mul_comm A,Nat.mul_comm B];omega
          have hba:A*a2 - B*b2≤B*b1 - A*a1:=by rw [Nat.add_mul,Nat.add_mul] at c3;omega
          obtain ⟨i1,i2⟩:=Bmt g2 g1 c4
          have hg:=Bq4 g2 g1 c4
          rw [Nat.gcd_comm] at hg
          rw [Nat.add_comm] at i1 i2
          obtain ⟨i3,i4⟩:=Bmu i1 i2 p2 (by omega) p1 hba
          have hl:=Bp i4
          obtain ⟨S,s1,s2,s3⟩:=ih fuel (B*b1 - A*a1) (A*a2 - B*b2) false false (by omega) (by rw [Nat.pow_succ] at hxy;omega) hba (hf.le (by omega))
          rw [hg] at s2 s3
          refine ⟨S,s1,s2,fun K=>?_⟩
          have tk1:List.take ((dig (B*b1 - A*a1)).length*1) (Ad S1)=Ad (dig (B*b1 - A*a1)):=by rw [← t2,J7 t1]
          have tk2:List.take ((dig (A*a2 - B*b2)).length*1) (Ad S2)=Ad (dig (A*a2 - B*b2)):=by rw [← w2,J7 w1]
          rw [start,i0F hb1,cf,cf,t3,w3,tk1,tk2,s3]
theorem Brk (n m:Nat):4294967296 ^ n*4294967296 ^ m=2 ^ (32*(n+m)):=by
  rw [← Nat.pow_add,show (4294967296:Nat)=2 ^ 32 by rfl,← Nat.pow_mul]
theorem Bw2 {N:Nat} {a b:List Nat} {n m:Nat} {t o t' o':Bool} (hn:n=a.length) (hm:m=b.length) (ha:Af a) (hb:Af b) (hf:fit (2*(a.length+b.length)+4) N) :
    ∃ S,Af S∧val S=Nat.gcd (val a) (val b)∧∀ K:Nat→LA→Option R,A0h N (Ad a) n t o (Ad b) m t' o' K=K (dig (Nat.gcd (val a) (val b))).length (Ad S):=by
  have h1:=hf.1;have h2:=hf.2
  have la:=(Bh ha).2
  have lb:=(Bh hb).2
  have hprod:val a*val b<2 ^ (32*(a.length+b.length)):=by rw [← Brk];exact Nat.mul_lt_mul'' (Bc ha) (Bc hb)
  have start:∀ K:Nat→LA→Option R,A0h N (Ad a) n t o (Ad b) m t' o' K=cond (decide (F6 (val a) (val b)<0)) (Dh N K N (Ad (dig (val b))) (dig (val b)).length o' (Ad (dig (val a))) (dig (val a)).length o) (Dh N K N (Ad (dig (val a))) (dig (val a)).length o (Ad (dig (val b))) (dig (val b)).length o'):=by
    intro K
    rw [Bgq];unfold Bog Bof A7n A0g
    dsimp only
    rw [Bt hn ha (hf.le (by omega)),Bt hm hb (hf.le (by omega)),Pq rfl rfl (Ab _) (Ab _) (hf.le (by omega)),Ag,Ag]
  by_cases hlt:val a<val b
  · obtain ⟨S,s1,s2,s3⟩:=Brj (R:=R) (N:=N) (32*(a.length+b.length)) N (val b) (val a) o' o (by omega) (by rw [Nat.mul_comm];exact hprod) (by omega) (hf.le (by omega))
    rw [Nat.gcd_comm] at s2
    refine ⟨S,s1,s2,fun K=>?_⟩
    rw [start,show decide (F6 (val a) (val b)<0)=true by (unfold F6;rw [if_pos hlt];rfl),ct,s3,Nat.gcd_comm]
  · obtain ⟨S,s1,s2,s3⟩:=Brj (R:=R) (N:=N) (32*(a.length+b.length)) N (val a) (val b) o o' (by omega) hprod (by omega) (hf.le (by omega))
    refine ⟨S,s1,s2,fun K=>?_⟩
    rw [start,show decide (F6 (val a) (val b)<0)=false by (unfold F6;rw [if_neg hlt];split<;>rfl),cf,s3]
end
end Gx

namespace Gx
open Go Go.Proofs
section
variable {R:Type}
theorem Bzr {c:Nat} (h:c≤1000000000000):((Nat.ble (0+c) 140737488355328)&&(Nat.ble ((0+c)*4) 140737488355328))=true:=by simp;omega
theorem A12 {N:Nat} {l:List Nat} {t o:Bool} {K:Nat→LA→Option R} (hl:Af l) (hs:l.length≤1000000000000):∀ (c fuel:Nat),c≤l.length→c<fuel →
    Pb N K (Ad l) l.length t o fuel (c:Int)=K (dig (val (l.take c))).length (Ad (dig (val (l.take c))))
  | 0,fuel+1,hc,_=>by
    rw [Pb];unfold Xz
    rw [show decide (((0:Nat):Int)>0)=false by simp]
    rw [show ((false:Bool)==true)=false by rfl,cf,sl0 (by omega),ct,Int.toNat_natCast,Nat.mul_one,T3,Afl,Bool.or_true,ct,Bzr (by omega),ct];rfl
  | c+1,fuel+1,hc,hf=>by
    rw [Pb];unfold Xz
    rw [Bs9,ct,wP (by omega),Ah (by omega),ct,rdl (by omega),ctB,sl0 (by omega),ct,A12 hl hs c fuel (by omega) (by omega),Int.toNat_natCast,Nat.mul_one,T3,Afl,Bool.or_true,ct,Bzr (by omega),ct,Nat.zero_add]
    by_cases h0:l[c]=0
    · rw [Au (by omega),h0];simp
    · rw [Bo4 hl (by omega) h0,List.length_take,Nat.min_eq_left hc]
      rw [i0F h0,cf]
theorem Cr {N:Nat} {l:List Nat} {n:Nat} {t o:Bool} {K:Nat→LA→Option R} (hn:n=l.length) (hl:Af l) (hf:fit l.length N):C1 N (Ad l) n t o K=K (dig (val l)).length (Ad (dig (val l))):=by
  subst hn
  have h1:=hf.1;have h2:=hf.2
  rw [Aji];unfold Aul Auk
  dsimp only
  rw [A12 hl (by omega) l.length N (Nat.le_refl _) (by omega),List.take_length]
theorem Brl {N:Nat} {a b:List Nat} {t o t' o':Bool} {K:Bool→Option R} (hs:a.length≤1000000000000) (he:a.length=b.length):∀ (m j fuel:Nat),j+m=a.length→m<fuel →
    Lx N K (Ad a) a.length t o (Ad b) b.length t' o' fuel (j:Int)=K (decide (a.drop j=b.drop j))
  | 0,j,fuel+1,hj,_=>by
    rw [Lx];unfold Ug
    rw [ltF (by omega),cf,List.drop_eq_nil_of_le (by omega),List.drop_eq_nil_of_le (by omega)];simp
  | m+1,j,fuel+1,hj,hf=>by
    have h1:j<a.length:=by omega
    have h2:j<b.length:=by omega
    rw [Lx];unfold Ug
    rw [ltT h1,ct,Ah h1,ct,rdl h1,Ah h2,ct,rdl h2,wS (by omega),Brl hs he m (j+1) fuel (by omega) (by omega),List.drop_eq_getElem_cons h1,List.drop_eq_getElem_cons h2]
    by_cases h:a[j]=b[j]
    · rw [show ((((a[j]:Nat):Int) != ((b[j]:Nat):Int)))=false by simp [h],cf];congr 1;rw [decide_eq_decide,List.cons.injEq];exact ⟨fun hh=>⟨h,hh⟩,fun hh=>hh.2⟩
    · rw [show ((((a[j]:Nat):Int) != ((b[j]:Nat):Int)))=true by rw [bne_iff_ne];omega,ct];congr 1;symm;rw [decide_eq_false_iff_not,List.cons.injEq];exact fun hh=>h hh.1
theorem Bw3 {N:Nat} {a b:List Nat} {n m:Nat} {t o t' o':Bool} {K:Bool→Option R} (hn:n=a.length) (hm:m=b.length) (hf:fit a.length N):Ahx N (Ad a) n t o (Ad b) m t' o' K=K (decide (a=b)):=by
  subst hn hm
  have h1:=hf.1;have h2:=hf.2
  rw [Awk];unfold Ayw Ayv
  by_cases he:a.length=b.length
  · rw [show (((a.length:Nat):Int) != ((b.length:Nat):Int))=false by simp [he],cf]
    have:=Brl (R:=R) (N:=N) (t:=t) (o:=o) (t':=t') (o':=o') (K:=K) (by omega) he a.length 0 N (by omega) (by omega)
    simpa using this
  · rw [show (((a.length:Nat):Int) != ((b.length:Nat):Int))=true by rw [bne_iff_ne];omega,ct]
    congr 1;symm;rw [decide_eq_false_iff_not];intro h;exact he (by rw [h])
theorem Afo {N:Nat} {v:Nat} {K:Nat→LA→Option R} (hv:v<18446744073709551616) (hN:4≤N):D8 N (v:Int) K=K (dig v).length (Ad (dig v)):=by
  have hl:Af [v%4294967296,v/4294967296]:=Cq.2 ⟨by omega,Cq.2 ⟨by omega,T2⟩⟩
  have hval:val [v%4294967296,v/4294967296]=v:=by simp [val];omega
  rw [Aaq];unfold Wt Ws
  rw [A1z,A83,w32 (show v/4294967296<4294967296 by omega)]
  have:=A12 (R:=R) (N:=N) (l:=[v%4294967296,v/4294967296]) (t:=false) (o:=true) (K:=K) hl (by simp) 2 N (by simp) (by omega)
  rw [show [v%4294967296,v/4294967296].take 2=[v%4294967296,v/4294967296] by rfl,hval] at this
  rw [Aji];unfold Aul Auk
  exact this
theorem Ann {N:Nat} {l:List Nat} {n:Nat} {t o:Bool} {K:Int→Bool→Option R} (hn:n=l.length) (hl:Af l) (hf:fit l.length N):Sj N (Ad l) n t o K=if val l<18446744073709551616 then K (val l:Int) true else K 0 false:=by
  have h1:=hf.1
  rw [Ap9];unfold Ap8 Ap7
  rw [Cr hn hl hf]
  by_cases h:val l<18446744073709551616
  · have hd:=Zg h
    rw [if_pos h,show decide ((((dig (val l)).length:Nat):Int)>2)=false by simp;omega,cf]
    have hv:=Ag (val l)
    have hb:=Ab (val l)
    obtain ⟨M,hM⟩:∃ M,N=M+4:=⟨N - 4,by omega⟩
    rw [hM]
    generalize dig (val l)=d at *
    match d,hd,hv,hb with
    | [],_,hv,_ =>
      dsimp only
      rw [D2];unfold D9
      rw [← hv,i64 (by simp)];rfl
    | [x],_,hv,hb =>
      have hx:=(Cq.1 hb).1
      have hxv:val l=x:=by rw [← hv];simp [val]
      dsimp only
      rw [D2];unfold D9
      rw [i64 (by simp),show ((([x]:List Nat).length:Nat):Int) - 1=((0:Nat):Int) by rfl,show decide (((0:Nat):Int)≥0)=true by rfl,ct,Ah (by simp),ct,A5i (by simp)]
      rw [D2];unfold D9
      rw [i64 (by simp),show decide ((((0:Nat):Int) - 1)≥0)=false by rfl,cf]
      have:=orw (a:=0) (b:=x) (by omega) hx
      simp only [List.getElem_cons_zero]
      rw [w64 (show x<18446744073709551616 by omega),show (0:Int)=((0:Nat):Int) by rfl,this,hxv];simp
    | [x,y],_,hv,hb =>
      have hx:=(Cq.1 hb).1
      have hy:=(Cq.1 (Cq.1 hb).2).1
      have hxv:val l=y*4294967296+x:=by rw [← hv];simp [val];omega
      dsimp only
      rw [D2];unfold D9
      rw [i64 (by simp),show ((([x,y]:List Nat).length:Nat):Int) - 1=((1:Nat):Int) by rfl,show decide (((1:Nat):Int)≥0)=true by rfl,ct,Ah (by simp),ct,A5i (by simp)]
      rw [D2];unfold D9
      rw [i64 (by simp),show (((1:Nat):Int) - 1)=((0:Nat):Int) by rfl,show decide (((0:Nat):Int)≥0)=true by rfl,ct,Ah (by simp),ct,A5i (by simp)]
      rw [D2];unfold D9
      rw [i64 (by simp),show decide ((((0:Nat):Int) - 1)≥0)=false by rfl,cf]
      have o1:=orw (a:=0) (b:=y) (by omega) hy
      have o2:=orw (a:=y) (b:=x) hy hx
      simp only [List.getElem_cons_zero,List.getElem_cons_succ]
      rw [w64 (show y<18446744073709551616 by omega),w64 (show x<18446744073709551616 by omega),show (0:Int)=((0:Nat):Int) by rfl,o1,Nat.zero_mul,Nat.zero_add,o2,hxv]
  · have:¬ (dig (val l)).length≤2:=fun h2=>h (A5l h2)
    rw [if_neg h,show decide ((((dig (val l)).length:Nat):Int)>2)=true by simp;omega,ct]
theorem Bmv {N:Nat} {x y:List Nat} {K:Int→Option R} (hx:Af x) (hy:Af y) (hs:x.length≤1000000000000) (he:x.length=y.length):∀ (i fuel:Nat),i≤x.length→i<fuel →
    Ho N K x.length y.length (Ad x) (Ad y) fuel ((i:Int) - 1)=K (F6 (val (x.take i)) (val (y.take i)))
  | 0,fuel+1,_,_=>by
    rw [Ho];unfold Nu
    rw [show decide ((((0:Nat):Int) - 1)≥0)=false by simp,cf]
    simp [Z7]
  | i+1,fuel+1,hi,hf=>by
    rw [Ho];unfold Nu
    rw [show (((i+1:Nat):Int) - 1)=(i:Int) by omega,show decide ((i:Int)≥0)=true by simp,ct,Ah (by omega),ct,A5i (by omega),Ah (by omega),ct,A5i (by omega),ct,A5i (by omega),ct,A5i (by omega),i64 (by omega),
      Bmv hx hy hs he i fuel (by omega) (by omega),Au (by omega),Au (by omega)]
    have h1:=Bc (Bz hx i)
    have h2:=Bc (Bz hy i)
    rw [List.length_take,Nat.min_eq_left (by omega)] at h1 h2
    by_cases c1:x[i]<y[i]
    · have:=Bdq h1 h2 c1
      rw [show decide (((x[i]:Nat):Int)<((y[i]:Nat):Int))=true by simp;exact c1,ct]
      unfold F6;rw [if_pos this]
    · by_cases c2:y[i]<x[i]
      · have:=Bdq h2 h1 c2
        rw [show decide (((x[i]:Nat):Int)<((y[i]:Nat):Int))=false by simp;omega,cf,show decide (((x[i]:Nat):Int)>((y[i]:Nat):Int))=true by simp;exact c2,ct]
        unfold F6;rw [if_neg (by omega),if_pos this]
      · have:x[i]=y[i]:=by omega
        rw [show decide (((x[i]:Nat):Int)<((y[i]:Nat):Int))=false by simp;omega,cf,show decide (((x[i]:Nat):Int)>((y[i]:Nat):Int))=false by simp;omega,cf,this]
        unfold F6
        congr 1
        by_cases a1:val (x.take i)<val (y.take i)
        · rw [if_pos a1,if_pos (by omega)]
        · by_cases a2:val (y.take i)<val (x.take i)
          · rw [if_neg a1,if_pos a2,if_neg (by omega),if_pos (by omega)]
          · rw [if_neg a1,if_neg a2,if_neg (by omega),if_neg (by omega)]
theorem Bvn {N:Nat} {a b:List Nat} {n m:Nat} {t o t' o':Bool} {K:Int→Option R} (hn:n=a.length) (hm:m=b.length) (ha:Af a) (hb:Af b) (hf:fit (a.length+b.length) N) :
    V7 N (Ad a) n t o (Ad b) m t' o' K=K (F6 (val a) (val b)):=by
  subst hn hm
  have h1:=hf.1;have h2:=hf.2
  rw [An6];unfold Ajw Ajv
  dsimp only
  rw [Cr rfl ha (hf.le (by omega)),Cr rfl hb (hf.le (by omega))]
  have la:=(Bh ha).2
  have lb:=(Bh hb).2
  by_cases he:(dig (val a)).length=(dig (val b)).length
  · rw [show ((((dig (val a)).length:Nat):Int) != (((dig (val b)).length:Nat):Int))=false by simp;omega,cf,i64 (by omega),Bmv (Ab _) (Ab _) (by omega) he _ N (Nat.le_refl _) (by omega),List.take_length,he,List.take_length,Ag,Ag]
  · rw [show ((((dig (val a)).length:Nat):Int) != (((dig (val b)).length:Nat):Int))=true by simp;omega,ct]
    by_cases hl:(dig (val a)).length<(dig (val b)).length
    · have:=Ank hl
      rw [ltT hl,ct]
      unfold F6;rw [if_pos this]
    · have:=Ank (show (dig (val b)).length<(dig (val a)).length by omega)
      rw [ltF (by omega),cf]
      unfold F6;rw [if_neg (by omega),if_pos this]
end
end Gx

namespace Gx
open Go Go.Proofs
section
variable {R:Type}
theorem Bzs (a b:Nat):Aaf (a:Int) (b:Int)=((max a b:Nat):Int):=by
  unfold Aaf
  by_cases h:(b:Int)>(a:Int)
  · rw [decide_eq_true h];show (b:Int)=_;omega
  · rw [decide_eq_false h];show (a:Int)=_;omega
theorem Bmw {N:Nat} {a b:List Nat} {t o t' o':Bool} {n:Nat} (ha:Af a) (hb:Af b) (hla:a.length<n) (hlb:b.length<n) (hn:n≤max a.length b.length+1) (hf:fit n N):∀ (m d fuel:Nat) (S:List Nat) (c:Nat),d+m=n→m<fuel→Af S→S.length=n→zer S d→c≤1 →
    val S+4294967296 ^ d*c=val (a.take d)+val (b.take d) →
    ∀ K:Nat→LA→Option R,Gw N K (Ad a) a.length t o (Ad b) b.length t' o' fuel n (c:Int) (d:Int) (Ad S)=K (dig (val a+val b)).length (Ad (dig (val a+val b)))
  | 0,d,fuel+1,S,c,hd,_,hS,hl,hz,hc,hv=>by
    intro K
    have hd':d=n:=by omega
    subst hd'
    rw [List.take_of_length_le (by omega),List.take_of_length_le (by omega)] at hv
    have hc0:c=0:=by
      rcases Nat.eq_zero_or_pos c with h | h
      · exact h
      · exfalso
        have hc1:c=1:=by omega
        subst hc1
        obtain ⟨e,rfl⟩:∃ e,d=e+1:=⟨d - 1,by omega⟩
        have x1:=Bc ha
        have x2:=Bc hb
        have y1:4294967296 ^ a.length≤4294967296 ^ e:=Nat.pow_le_pow_right (by omega) (by omega)
        have y2:4294967296 ^ b.length≤4294967296 ^ e:=Nat.pow_le_pow_right (by omega) (by omega)
        rw [Nat.pow_succ] at hv
        omega
    subst hc0
    have hv2:val S=val a+val b:=by omega
    rw [Gw];unfold Adi
    rw [ltF (Nat.le_refl _),cf,Nat.mul_one,List.take_of_length_le (by rw [Bk];omega),Cr hl.symm hS (by rw [hl];exact hf),hv2]
  | m+1,d,fuel+1,S,c,hd,hfu,hS,hl,hz,hc,hv=>by
    intro K
    have h1:=hf.1;have h2:=hf.2
    have ga:=Z8 ha d
    have gb:=Z8 hb d
    have step:∀ s:Nat,s=c+a.getD d 0+b.getD d 0→val (S.set d (s%4294967296))+4294967296 ^ (d+1)*(s/4294967296)=val (a.take (d+1))+val (b.take (d+1)):=by
      intro s hs
      rw [Vx hz (by omega),Pr a d,Pr b d,Nat.pow_succ]
      have e:=Lh (4294967296 ^ d) s
      have e2:4294967296 ^ d*s=4294967296 ^ d*c+4294967296 ^ d*a.getD d 0+4294967296 ^ d*b.getD d 0:=by rw [hs,Nat.mul_add,Nat.mul_add]
      omega
    have next:∀ s:Nat,s=c+a.getD d 0+b.getD d 0→Gw N K (Ad a) a.length t o (Ad b) b.length t' o' fuel n ((s/4294967296:Nat):Int) ((d+1:Nat):Int) (Ad (S.set d (s%4294967296)))=K (dig (val a+val b)).length (Ad (dig (val a+val b))):=by
      intro s hs
      exact Bmw ha hb hla hlb hn hf m (d+1) fuel (S.set d (s%4294967296)) (s/4294967296) (by omega) (by omega) (B7 hS (by omega) d) (by simpa using hl) (Afn hz) (by omega) (step s hs) K
    have second:∀ w:Nat,w=c+a.getD d 0→Aaw N (Gw N K (Ad a) a.length t o (Ad b) b.length t' o' fuel) K (Ad a) a.length t o (Ad b) b.length t' o' n (Ad S) (w:Int) (d:Int)=K (dig (val a+val b)).length (Ad (dig (val a+val b))):=by
      intro w hw
      unfold Aaw Aqc
      by_cases hdb:d<b.length
      · have hg:b.getD d 0=b[d]:=by rw [List.getD_eq_getElem?_getD,List.getElem?_eq_getElem hdb];rfl
        rw [ltT hdb,ct,Ah hdb,ct,rdl hdb,Ah (by omega),ct,st1 (by omega),ct,w64 (show b[d]<18446744073709551616 by omega),Aiq,w64 (show w+b[d]<18446744073709551616 by omega),A83,A1z,Atm,wS (by omega)]
        exact next _ (by rw [hw,hg])
      · have hg:b.getD d 0=0:=by rw [List.getD_eq_getElem?_getD,List.getElem?_eq_none (by omega)];rfl
        rw [ltF (by omega),cf,Ah (by omega),ct,st1 (by omega),ct,A83,A1z,Atm,wS (by omega)]
        exact next _ (by rw [hw,hg];rfl)
    rw [Gw];unfold Adi
    rw [ltT (by omega),ct]
    by_cases hda:d<a.length
    · have hg:a.getD d 0=a[d]:=by rw [List.getD_eq_getElem?_getD,List.getElem?_eq_getElem hda];rfl
      rw [ltT hda,ct,Ah hda,ct,rdl hda,w64 (show a[d]<18446744073709551616 by omega),Aiq,w64 (show c+a[d]<18446744073709551616 by omega)]
      exact second _ (by rw [hg])
    · have hg:a.getD d 0=0:=by rw [List.getD_eq_getElem?_getD,List.getElem?_eq_none (by omega)];rfl
      rw [ltF (by omega),cf]
      exact second _ (by rw [hg];rfl)
theorem A9b {N:Nat} {a b:List Nat} {n m:Nat} {t o t' o':Bool} {K:Nat→LA→Option R} (hn:n=a.length) (hm:m=b.length) (ha:Af a) (hb:Af b) (hf:fit (a.length+b.length+1) N) :
    Ajr N (Ad a) n t o (Ad b) m t' o' K=K (dig (val a+val b)).length (Ad (dig (val a+val b))):=by
  subst hn hm
  have h1:=hf.1;have h2:=hf.2
  rw [Baj];unfold Be0 Bez
  rw [Bzs,wS (by omega),mk4 (by omega),ct,Int.toNat_natCast,Ci]
  exact Bmw ha hb (n:=max a.length b.length+1) (by omega) (by omega) (Nat.le_refl _) (hf.le (by omega)) (max a.length b.length+1) 0 N (List.replicate (max a.length b.length+1) 0) 0 (by omega) (by omega) (B4 _) (by simp) (J8 _) (by omega) (by rw [Db];simp [val]) K
theorem Bmx {N:Nat} {a b:List Nat} (ha:Af a) (hb:Af b) (hf:fit a.length N) (hab:b.length≤a.length) (hle:val b≤val a):∀ (m d fuel:Nat) (S:List Nat) (c:Nat),d+m=a.length→m<fuel→Af S→S.length=a.length→zer S d→c≤1 →
    val S+val (b.take d)=val (a.take d)+4294967296 ^ d*c →
    ∀ K:Nat→Bool→LA→Option R,Gy N K a.length b.length (Ad a) (Ad b) fuel (c:Int) (d:Int) (Ad S)=K (dig (val a - val b)).length true (Ad (dig (val a - val b)))
  | 0,d,fuel+1,S,c,hd,_,hS,hl,hz,hc,hv=>by
    intro K
    have hd':d=a.length:=by omega
    subst hd'
    rw [List.take_length,List.take_of_length_le hab] at hv
    have hlt:=Bc hS
    rw [hl] at hlt
    have hc0:c=0:=by
      rcases Nat.lt_or_ge 0 c with h | h
      · exfalso
        have:c=1:=by omega
        subst this
        omega
      · omega
    subst hc0
    have hv2:val S=val a - val b:=by omega
    rw [Gy];unfold Adl
    rw [ltF (Nat.le_refl _),cf,Nat.mul_one,List.take_of_length_le (by rw [Bk];omega),Cr hl.symm hS (by rw [hl];exact hf),hv2]
  | m+1,d,fuel+1,S,c,hd,hfu,hS,hl,hz,hc,hv=>by
    intro K
    have h1:=hf.1;have h2:=hf.2
    have hda:d<a.length:=by omega
    have ad:=Az ha hda
    have gb:=Z8 hb d
    have step:∀ y g c':Nat,y=c+b.getD d 0→a[d]+4294967296*c'=g+y→val (S.set d g)+val (b.take (d+1))=val (a.take (d+1))+4294967296 ^ (d+1)*c':=by
      intro y g c' hy hg
      rw [Vx hz (by omega),Au hda,Pr b d,Nat.pow_succ,Nat.mul_assoc]
      have e:4294967296 ^ d*(a[d]+4294967296*c')=4294967296 ^ d*(g+(c+b.getD d 0)):=by rw [hg,hy]
      rw [Nat.mul_add,Nat.mul_add,Nat.mul_add] at e
      omega
    have next:∀ y g c':Nat,g<4294967296→c'≤1→y=c+b.getD d 0→a[d]+4294967296*c'=g+y→Gy N K a.length b.length (Ad a) (Ad b) fuel (c':Int) ((d+1:Nat):Int) (Ad (S.set d g))=K (dig (val a - val b)).length true (Ad (dig (val a - val b))):=by
      intro y g c' hg hc' hy he
      exact Bmx ha hb hf hab hle m (d+1) fuel (S.set d g) c' (by omega) (by omega) (B7 hS hg d) (by simpa using hl) (Afn hz) hc' (step y g c' hy he) K
    have second:∀ y:Nat,y=c+b.getD d 0→Aay N (Gy N K a.length b.length (Ad a) (Ad b) fuel) K a.length b.length (Ad a) (Ad b) (Ad S) (d:Int) (y:Int)=K (dig (val a - val b)).length true (Ad (dig (val a - val b))):=by
      intro y hy
      unfold Aay Aqg
      rw [Ah hda,ct,A5i hda,w64 (show a[d]<18446744073709551616 by omega)]
      by_cases hlt:a[d]<y
      · rw [ltT hlt,ct,ct,st1 (by omega),ct,show ((a[d]:Nat):Int)+4294967296=((a[d]+4294967296:Nat):Int) by omega,w64 (show a[d]+4294967296<18446744073709551616 by omega),A82 (by omega) (by omega),w32 (by omega),Atm,wS (by omega)]
        exact next y (a[d]+4294967296 - y) 1 (by omega) (by omega) hy (by omega)
      · rw [ltF (by omega),cf,ct,st1 (by omega),ct,A82 (by omega) (by omega),w32 (by omega),Atm,wS (by omega)]
        exact next y (a[d] - y) 0 (by omega) (by omega) hy (by omega)
    rw [Gy];unfold Adl
    rw [ltT hda,ct]
    by_cases hdb:d<b.length
    · have hg:b.getD d 0=b[d]:=by rw [List.getD_eq_getElem?_getD,List.getElem?_eq_getElem hdb];rfl
      rw [ltT hdb,ct,Ah hdb,ct,A5i hdb,w64 (show b[d]<18446744073709551616 by omega),Aiq,w64 (show c+b[d]<18446744073709551616 by omega)]
      exact second _ (by rw [hg])
    · have hg:b.getD d 0=0:=by rw [List.getD_eq_getElem?_getD,List.getElem?_eq_none (by omega)];rfl
      rw [ltF (by omega),cf]
      exact second _ (by rw [hg];rfl)
theorem A9c {N:Nat} {a b:List Nat} {n m:Nat} {t o t' o':Bool} {K:Nat→Bool→LA→Option R} (hn:n=a.length) (hm:m=b.length) (ha:Af a) (hb:Af b) (hf:fit (a.length+b.length) N) :
    Ajx N (Ad a) n t o (Ad b) m t' o' K=if val b≤val a then K (dig (val a - val b)).length true (Ad (dig (val a - val b))) else K 0 false []:=by
  subst hn hm
  have h1:=hf.1;have h2:=hf.2
  have la:=(Bh ha).2
  have lb:=(Bh hb).2
  rw [Bal];unfold Bfb Bfa
  dsimp only
  rw [Bvn rfl rfl ha hb hf]
  by_cases hle:val b≤val a
  · have hll:=Bp hle
    rw [if_pos hle,show decide (F6 (val a) (val b)<0)=false by (unfold F6;rw [if_neg (by omega)];split<;>rfl),cf,Cr rfl ha (hf.le (by omega)),Cr rfl hb (hf.le (by omega)),mk4 (by omega),ct,Ci]
    have:=Bmx (R:=R) (N:=N) (a:=dig (val a)) (b:=dig (val b)) (Ab _) (Ab _) (hf.le (by omega)) hll (by rw [Ag,Ag];exact hle) (dig (val a)).length 0 N (List.replicate (dig (val a)).length 0) 0 (by omega) (by omega) (B4 _) (by simp) (J8 _) (by omega) (by rw [Db];simp [val]) K
    rw [Ag,Ag] at this
    exact this
  · rw [if_neg hle,show decide (F6 (val a) (val b)<0)=true by (unfold F6;rw [if_pos (by omega)];rfl),ct]
theorem Buj {N:Nat} {x y:List Nat} {c d c' d':Bool} {f:Nat} (hx:Af x) (hy:Af y) (hf:f<x.length) (hs:x.length+y.length≤1000000000000):∀ (m l fuel:Nat) (S:List Nat) (p:Nat) (v:Nat),l+m=y.length→m<fuel→Af S→S.length=x.length+y.length→zer S (f+y.length)→p<4294967296 →
    val S+4294967296 ^ (f+l)*p=v+4294967296 ^ f*(x[f]*val (y.take l)) →
    ∃ S',Af S'∧S'.length=x.length+y.length∧val S'=v+4294967296 ^ f*(x[f]*val y)∧∀ (k1:Nat→Int→LA→Option R) (K:Nat→LA→Option R),O2 N k1 K (Ad x) x.length c d (Ad y) y.length c' d' (x.length+y.length) fuel (f:Int) (p:Int) (l:Int) (Ad S)=k1 (x.length+y.length) ((f+1:Nat):Int) (Ad S')
  | 0,l,fuel+1,S,p,v,hl,_,hS,hlen,hz,hp,hv=>by
    have hl':l=y.length:=by omega
    subst hl'
    rw [List.take_length] at hv
    refine ⟨S.set (f+y.length) p,B7 hS hp _,by simpa using hlen,by rw [Vx hz (by omega),hv],fun k1 K=>?_⟩
    rw [O2];unfold Aee
    rw [ltF (Nat.le_refl _),cf,wA (by omega),Ah (by omega),ct,st1 (by omega),ct,w32 hp,Atm,wS (by omega)]
  | m+1,l,fuel+1,S,p,v,hl,hfu,hS,hlen,hz,hp,hv=>by
    have hly:l<y.length:=by omega
    have yl:=Az hy hly
    have hq:=Az hx hf
    have hi:f+l<S.length:=by omega
    have sl:=Az hS hi
    have hw:=Brf hp hq yl sl
    have hqy:x[f]*y[l]<18446744073709551616:=by omega
    generalize hsd:p+(x[f]*y[l]+S[f+l])=s at *
    have hset:=A5k (v:=s%4294967296) hi
    have key:val (S.set (f+l) (s%4294967296))+4294967296 ^ (f+(l+1))*(s/4294967296)=v+4294967296 ^ f*(x[f]*val (y.take (l+1))):=by
      rw [Au hly,← Nat.add_assoc f l 1,Nat.pow_succ]
      have e:=Lh (4294967296 ^ (f+l)) s
      have e2:4294967296 ^ (f+l)*s=4294967296 ^ (f+l)*p+(4294967296 ^ (f+l)*(x[f]*y[l])+4294967296 ^ (f+l)*S[f+l]):=by rw [← hsd,Nat.mul_add,Nat.mul_add]
      have e3:4294967296 ^ f*(x[f]*(val (y.take l)+4294967296 ^ l*y[l]))=4294967296 ^ f*(x[f]*val (y.take l))+4294967296 ^ (f+l)*(x[f]*y[l]):=by
        rw [Nat.mul_add,Nat.mul_add,Nat.pow_add]
        congr 1
        rw [Nat.mul_assoc];congr 1
        rw [← Nat.mul_assoc,← Nat.mul_assoc,Nat.mul_comm x[f]]
      omega
    obtain ⟨S',q1,q2,q3,q4⟩:=Buj (N:=N) (c:=c) (d:=d) (c':=c') (d':=d') hx hy hf hs m (l+1) fuel (S.set (f+l) (s%4294967296)) (s/4294967296) v (by omega) (by omega) (B7 hS (by omega) _) (by simpa using hlen) (fun j hj hk=>by
      rw [List.getElem_set,if_neg (by omega)];exact hz j (by simpa using hj) hk) (by omega) key
    refine ⟨S',q1,q2,q3,fun k1 K=>?_⟩
    rw [O2];unfold Aee
    rw [ltT hly,ct,wA (by omega),Ah (by omega),ct,A5i hi,Ah hf,ct,rdl hf,Ah hly,ct,rdl hly,ct,st1 hi,ct,w64 (show x[f]<18446744073709551616 by omega),w64 (show y[l]<18446744073709551616 by omega),w64 (show S[f+l]<18446744073709551616 by omega),Bi2,w64 hqy,Aiq,Nat.add_comm S[f+l],w64 (by omega),Aiq,hsd,w64 hw,A83,A1z,Atm,wS (by omega)]
    exact q4 k1 K
theorem Brm {N:Nat} {x y:List Nat} {c d c' d':Bool} (hx:Af x) (hy:Af y) (hfit:fit (x.length+y.length) N):∀ (m f fuel:Nat) (S:List Nat),f+m=x.length→m<fuel→Af S→S.length=x.length+y.length →
    val S=val (x.take f)*val y →
    ∀ K:Nat→LA→Option R,I5 N K (Ad x) x.length c d (Ad y) y.length c' d' fuel (x.length+y.length) (f:Int) (Ad S)=K (dig (val x*val y)).length (Ad (dig (val x*val y)))
  | 0,f,fuel+1,S,hf,_,hS,hlen,hv=>by
    intro K
    have hf':f=x.length:=by omega
    subst hf'
    rw [List.take_length] at hv
    rw [I5];unfold Aef
    rw [ltF (Nat.le_refl _),cf,Nat.mul_one,List.take_of_length_le (by rw [Bk];omega),Cr hlen.symm hS (by rw [hlen];exact hfit),hv]
  | m+1,f,fuel+1,S,hf,hfu,hS,hlen,hv=>by
    intro K
    have h1:=hfit.1;have h2:=hfit.2
    have hfx:f<x.length:=by omega
    have b1:=Bc (Bz hx f)
    rw [List.length_take,Nat.min_eq_left (by omega)] at b1
    have b2:=Bc hy
    have hbound:val S<4294967296 ^ (f+y.length):=by
      rw [hv,Nat.pow_add];exact Nat.mul_lt_mul'' b1 b2
    have hnext:val (x.take (f+1))*val y=val S+4294967296 ^ f*(x[f]*val y):=by
      rw [Au hfx,Nat.add_mul,hv,Nat.mul_assoc]
    obtain ⟨S1,p1,p2,p3,p4⟩:=Buj (R:=R) (N:=N) (x:=x) (y:=y) (c:=c) (d:=d) (c':=c') (d':=d') (f:=f) hx hy hfx (by omega) y.length 0 N S 0 (val S) (by omega) (by omega) hS hlen (Bwt hbound) (by omega) (by simp [val])
    rw [I5];unfold Aef
    rw [ltT hfx,ct]
    have:=p4 (I5 N K (Ad x) x.length c d (Ad y) y.length c' d' fuel) K
    simp only [Int.natCast_zero] at this
    dsimp only
    rw [this]
    exact Brm hx hy hfit m (f+1) fuel S1 (by omega) (by omega) p1 p2 (by rw [p3,hnext]) K
theorem Bvo {N:Nat} {a b:List Nat} {n m:Nat} {t o t' o':Bool} {K:Nat→LA→Option R} (hn:n=a.length) (hm:m=b.length) (ha:Af a) (hb:Af b) (hf:fit (a.length+b.length) N) :
    A4b N (Ad a) n t o (Ad b) m t' o' K=K (dig (val a*val b)).length (Ad (dig (val a*val b))):=by
  subst hn hm
  have h1:=hf.1;have h2:=hf.2
  rw [Ba5];unfold Bg6 Bg5
  rw [wA (by omega),mk4 (by omega),ct,Int.toNat_natCast,Ci]
  exact Brm ha hb hf a.length 0 N (List.replicate (a.length+b.length) 0) (by omega) (by omega) (B4 _) (by simp) (by rw [Db];simp [val]) K
end
end Gx

namespace Gx
open Go Go.Proofs
section
variable {R:Type}
theorem Bjc {N:Nat}:∀ (k fuel n v:Nat),v<2 ^ k→k<fuel→n+k≤1000000000000→∃ b:Nat,b≤k∧v<2 ^ b∧(v≠0→2 ^ b≤2*v)∧(v=0→b=0)∧∀ K:Int→Option R,Kt N K fuel (n:Int) (v:Int)=K ((n+b:Nat):Int)
  | 0,fuel+1,n,v,hv,_,_=>by
    have h0:v=0:=by simpa using hv
    subst h0
    refine ⟨0,by omega,by simp,fun h=>absurd rfl h,fun _=>rfl,fun K=>?_⟩
    rw [Kt];unfold P4
    rw [show decide (((0:Nat):Int)>0)=false by rfl,cf];rfl
  | k+1,fuel+1,n,v,hv,hf,hn=>by
    by_cases h0:v=0
    · subst h0
      refine ⟨0,by omega,by simp,fun h=>absurd rfl h,fun _=>rfl,fun K=>?_⟩
      rw [Kt];unfold P4
      rw [show decide (((0:Nat):Int)>0)=false by rfl,cf];rfl
    · obtain ⟨b,b1,b2,b3,b4,b5⟩:=Bjc (N:=N) k fuel (n+1) (v/2) (by rw [Nat.pow_succ] at hv;omega) (by omega) (by omega)
      refine ⟨b+1,by omega,by rw [Nat.pow_succ];omega,fun _=>?_,fun h=>absurd h h0,fun K=>?_⟩
      · by_cases h1:v/2=0
        · rw [b4 h1];simp;omega
        · have:=b3 h1;rw [Nat.pow_succ];omega
      · rw [Kt];unfold P4
        rw [show decide (((v:Nat):Int)>0)=true by rw [decide_eq_true_eq];omega,ct,wS (by omega),Rw v 1,show v/2 ^ 1=v/2 by rfl,b5]
        congr 2;omega
theorem Btd {N:Nat} {a:List Nat} {n:Nat} {t o:Bool} (hn:n=a.length) (ha:Af a) (hf:fit a.length N):∃ nb:Nat,nb≤32*a.length∧val a<2 ^ nb∧(val a≠0→2 ^ nb≤2*val a)∧(val a=0→nb=0)∧∀ K:Int→Option R,Aqa N (Ad a) n t o K=K (nb:Int):=by
  have h1:=hf.1;have h2:=hf.2
  have la:=(Bh ha).2
  by_cases h0:val a=0
  · refine ⟨0,by omega,by rw [h0];simp,fun h=>absurd h0 h,fun _=>rfl,fun K=>?_⟩
    rw [Ajo];unfold Aun Aum
    rw [Cr hn ha hf,h0,C6];rfl
  · have hl:(dig (val a)).length≠0:=fun h=>h0 (Bj.1 h)
    obtain ⟨k,hk⟩:∃ k,(dig (val a)).length=k+1:=⟨(dig (val a)).length - 1,by omega⟩
    have top:=Az (Ab (val a)) (show k<(dig (val a)).length by omega)
    have htop0:(dig (val a))[k]'(by omega)≠0:=by
      have:=Bi1 (val a) (A1y h0)
      rw [List.getLast_eq_getElem] at this
      simp only [hk,Nat.add_sub_cancel] at this
      exact this
    have tf:=Aiu hk
    have tl:=Anm (Ab (val a)) hk
    rw [Ag] at tf tl
    obtain ⟨b,b1,b2,b3,b4,b5⟩:=Bjc (R:=R) (N:=N) 32 N (32*k) ((dig (val a))[k]'(by omega)) (by exact top) (by omega) (by omega)
    have hp:(2:Nat) ^ (32*k+b)=4294967296 ^ k*2 ^ b:=by rw [Nat.pow_add,Nat.pow_mul]
    refine ⟨32*k+b,by omega,?_,fun _=>?_,fun h=>absurd h h0,fun K=>?_⟩
    · rw [hp]
      have:((dig (val a))[k]'(by omega)+1)*4294967296 ^ k≤2 ^ b*4294967296 ^ k:=Nat.mul_le_mul_right _ b2
      rw [Nat.mul_comm (2 ^ b)] at this;omega
    · rw [hp]
      have:=Nat.mul_le_mul_left (4294967296 ^ k) (b3 htop0)
      rw [Nat.mul_left_comm] at this
      omega
    · rw [Ajo];unfold Aun Aum
      have w1:IntKind.wrap .i64 ((((dig (val a)).length:Nat):Int) - 1)=((k:Nat):Int):=by rw [i64 (by omega)];omega
      have w2:IntKind.wrap .i64 ((32:Int)*((k:Nat):Int))=((32*k:Nat):Int):=by rw [i64 (by omega)];omega
      rw [Cr hn ha hf,i0F hl,cf,w1,Ah (by omega),ct,A5i (by omega),w2]
      exact b5 K
theorem Brn {a:List Nat} {j:Nat} (h:j<a.length):val a=val (a.take j)+4294967296 ^ j*(a[j]+4294967296*val (a.drop (j+1))):=by
  have:=O4 (a.take j) (a.drop j)
  rw [List.take_append_drop,List.length_take,Nat.min_eq_left (by omega),Atr h] at this
  exact this
theorem A9d (j k:Nat):(2:Nat) ^ (32*j+k)=4294967296 ^ j*2 ^ k:=by rw [Nat.pow_add,Nat.pow_mul]
theorem Bx6 {a:List Nat} {j k:Nat} (ha:Af a) (h:j<a.length) (hk:k<32):val a/2 ^ (32*j+k)%2=a[j]/2 ^ k%2:=by
  have tl:=Bc (Bz ha j)
  rw [List.length_take,Nat.min_eq_left (by omega)] at tl
  have hP:0<4294967296 ^ j:=Nat.pow_pos (by omega)
  have hp:0<2 ^ k:=Nat.pow_pos (by omega)
  rw [A9d,← Nat.div_div_eq_div_mul,Brn h,Nat.add_mul_div_left _ _ hP,Nat.div_eq_of_lt tl,Nat.zero_add]
  have e:4294967296=2 ^ k*(2*2 ^ (31 - k)):=by rw [← Nat.pow_succ',← Nat.pow_add,show k+(31 - k+1)=32 by omega]
  have e2:4294967296*val (a.drop (j+1))=2 ^ k*(2*(2 ^ (31 - k)*val (a.drop (j+1)))):=by
    rw [← Nat.mul_assoc 2,← Nat.mul_assoc,← e]
  rw [e2,Nat.add_mul_div_left _ _ hp,Nat.add_mul_mod_self_left]
theorem Bvp {N:Nat} {a:List Nat} {n:Nat} {t o:Bool} {i:Nat} {K:Int→Option R} (hn:n=a.length) (ha:Af a) (hi:i<32*a.length) (hs:a.length≤1000000000):A23 N (Ad a) n t o (i:Int) K=K ((val a/2 ^ i%2:Nat):Int):=by
  subst hn
  have hj:i/32<a.length:=by omega
  have aj:=Az ha hj
  rw [Bak];unfold Be6 Be5
  have w1:IntKind.wrap .i64 (Int.tdiv ((i:Nat):Int) 32)=((i/32:Nat):Int):=by rw [show (32:Int)=((32:Nat):Int) by rfl,Ax6,i64 (by omega)]
  have w2:IntKind.wrap .u64 (Int.tmod ((i:Nat):Int) 32)=((i%32:Nat):Int):=by rw [show (32:Int)=((32:Nat):Int) by rfl,Atq,w64 (by omega)]
  rw [w1,w2,show decide (((i/32:Nat):Int)≥((a.length:Nat):Int))=false by rw [decide_eq_false_iff_not];omega,cf,Ah hj,ct,rdl hj,show decide (((i%32:Nat):Int)<0)=false by rw [decide_eq_false_iff_not];omega,cf,Int.toNat_natCast,Nat.min_eq_left (by omega),Rw]
  have hle:a[i/32]/2 ^ (i%32)<4294967296:=Nat.lt_of_le_of_lt (Nat.div_le_self _ _) aj
  have e:=Bs6 (k:=.u32) rfl (a:=a[i/32]/2 ^ (i%32)) (b:=1) hle (by decide)
  rw [show (1:Int)=((1:Nat):Int) by rfl,e,Nat.and_one_is_mod]
  have:=Bx6 ha hj (k:=i%32) (by omega)
  rw [Nat.div_add_mod] at this
  rw [this]
theorem Bw4 {Q:List Nat} {j k:Nat} (hQ:Af Q) (h:j<Q.length) (hk:k<32) (hd:2 ^ (32*j+k+1)∣val Q):2 ^ (k+1)∣Q[j]:=by
  have tl:=Bc (Bz hQ j)
  rw [List.length_take,Nat.min_eq_left (by omega)] at tl
  have hP:0<4294967296 ^ j:=Nat.pow_pos (by omega)
  rw [Nat.add_assoc,A9d,Brn h] at hd
  have h0:val (Q.take j)=0:=by
    have x1:4294967296 ^ j∣val (Q.take j):=(Nat.dvd_add_left (Nat.dvd_mul_right _ _)).1 (Nat.dvd_trans (Nat.dvd_mul_right _ _) hd)
    exact Nat.eq_zero_of_dvd_of_lt x1 tl
  rw [h0,Nat.zero_add] at hd
  have x2:=Nat.dvd_of_mul_dvd_mul_left hP hd
  have x3:2 ^ (k+1)∣4294967296*val (Q.drop (j+1)):=Nat.dvd_trans ⟨2 ^ (31 - k),by rw [← Nat.pow_add,show k+1+(31 - k)=32 by omega]⟩ (Nat.dvd_mul_right _ _)
  exact (Nat.dvd_add_left x3).1 x2
theorem A9e {N:Nat} {a b:List Nat} {t o:Bool} {B:Nat} (ha:Af a) (hb:b=dig B) (hB:0<B) (hf:fit (a.length+2*b.length+4) N):∀ (i fuel:Nat) (Q:List Nat) (r:Nat),i<fuel→i≤32*a.length→Af Q→Q.length=a.length→r=val a/2 ^ i%B→val Q=val a/2 ^ i/B*2 ^ i →
    ∀ K:Nat→Nat→Bool→LA→LA→Option R,C8 N K (Ad a) a.length t o b.length (Ad b) fuel (dig r).length ((i:Int) - 1) (Ad Q) (Ad (dig r))=K (dig (val a/B)).length (dig (val a%B)).length true (Ad (dig (val a/B))) (Ad (dig (val a%B)))
  | 0,fuel+1,Q,r,_,_,hQ,hl,hr,hv=>by
    intro K
    rw [Nat.pow_zero,Nat.div_one] at hr hv
    rw [Nat.mul_one] at hv
    have lr:(dig r).length≤b.length:=by
      rw [hb];apply Bp;rw [hr];exact Nat.le_of_lt (Nat.mod_lt _ hB)
    rw [C8];unfold P7
    rw [show decide ((((0:Nat):Int) - 1)≥0)=false by rfl,cf,Nat.mul_one,List.take_of_length_le (by rw [Bk];omega),Cr hl.symm hQ (by rw [hl];exact hf.le (by omega)),Nat.mul_one,List.take_of_length_le (by rw [Bk];omega),Cr rfl (Ab _) (hf.le (by omega)),Ag,hv,hr]
  | i+1,fuel+1,Q,r,hfu,hi,hQ,hl,hr,hv=>by
    intro K
    have h1:=hf.1;have h2:=hf.2
    have hrB:r<B:=by rw [hr];exact Nat.mod_lt _ hB
    have lr:(dig r).length≤b.length:=by rw [hb];exact Bp (Nat.le_of_lt hrB)
    have hhalf:val a/2 ^ i=2*(val a/2 ^ (i+1))+val a/2 ^ i%2:=by
      have:=Nat.div_add_mod (val a/2 ^ i) 2
      rw [Nat.div_div_eq_div_mul,← Nat.pow_succ] at this
      exact this.symm
    have hdm:=Nat.div_add_mod (val a/2 ^ (i+1)) B
    have hb2:val a/2 ^ i%2<2:=Nat.mod_lt _ (by omega)
    generalize hH:val a/2 ^ (i+1)=H at *
    generalize hbit:val a/2 ^ i%2=bt at *
    have hsum:val a/2 ^ i=B*(2*(H/B))+(2*r+bt):=by
      rw [hhalf,hr,Nat.mul_left_comm];omega
    clear hr hdm hhalf
    have hj:i/32<Q.length:=by omega
    have qj:=Az hQ hj
    have hdvd:2 ^ (32*(i/32)+i%32+1)∣val Q:=by rw [Nat.div_add_mod,hv];exact Nat.dvd_mul_left _ _
    have hfree:=Bw4 hQ hj (Nat.mod_lt _ (by omega)) hdvd
    have hpw:2 ^ i=4294967296 ^ (i/32)*2 ^ (i%32):=by rw [← A9d,Nat.div_add_mod]
    have hpk:2 ^ (i%32+1)≤4294967296:=(Nat.pow_le_pow_right (by omega) (show i%32+1≤32 by omega):2 ^ (i%32+1)≤2 ^ 32)
    have hor:Pa .u32 ((Q[i/32]:Nat):Int) (IntKind.wrap .u32 ((1:Int)*2 ^ (min (Int.toNat ((i%32:Nat):Int)) 32)))=((Q[i/32]+2 ^ (i%32):Nat):Int)∧Q[i/32]+2 ^ (i%32)<4294967296:=by
      obtain ⟨c,hc⟩:=hfree
      have hpos:0<2 ^ (i%32):=Nat.pow_pos (by omega)
      have hlt:Q[i/32]+2 ^ (i%32)<4294967296:=by
        obtain ⟨w,hw⟩:∃ w,4294967296=2 ^ (i%32+1)*w:=⟨2 ^ (31 - i%32),by rw [← Nat.pow_add,show i%32+1+(31 - i%32)=32 by omega]⟩
        have x1:c<w:=by rw [hc,hw] at qj;exact Nat.lt_of_mul_lt_mul_left qj
        have x2:=Nat.mul_le_mul_left (2 ^ (i%32+1)) (show c+1≤w from x1)
        rw [Nat.mul_add,← hw,← hc,Nat.mul_one,Nat.pow_succ] at x2
        omega
      refine ⟨?_,hlt⟩
      rw [Int.toNat_natCast,Nat.min_eq_left (by omega),Int.one_mul,show (2:Int) ^ (i%32)=((2 ^ (i%32):Nat):Int) by simp,w32 (by rw [Nat.pow_succ] at hpk;omega),Bmk (k:=.u32) rfl qj (by show 2 ^ (i%32)<4294967296;rw [Nat.pow_succ] at hpk;omega)]
      congr 1
      have e:Q[i/32]=c*2 ^ (i%32+1):=by rw [hc,Nat.mul_comm]
      rw [e];exact A84 (by rw [Nat.pow_succ];omega)
    have w1:IntKind.wrap .i64 (Int.tdiv ((i:Nat):Int) 32)=((i/32:Nat):Int):=by rw [show (32:Int)=((32:Nat):Int) by rfl,Ax6,i64 (by omega)]
    have w2:IntKind.wrap .u64 (Int.tmod ((i:Nat):Int) 32)=((i%32:Nat):Int):=by rw [show (32:Int)=((32:Nat):Int) by rfl,Atq,w64 (by omega)]
    have l2:(dig (2*r+bt)).length≤b.length+1:=by
      apply Ch
      have x1:=Bc (Ab B)
      rw [Ag,← hb] at x1
      rw [Nat.pow_succ];omega
    have second:Jt N (C8 N K (Ad a) a.length t o b.length (Ad b) fuel) K (Ad a) a.length t o b.length ((i:Nat):Int) (Ad b) (Ad Q) (dig (2*r+bt)).length (Ad (dig (2*r+bt)))=K (dig (val a/B)).length (dig (val a%B)).length true (Ad (dig (val a/B))) (Ad (dig (val a%B))):=by
      unfold Jt Aaz
      have lb:Af b:=by rw [hb];exact Ab _
      have vb:val b=B:=by rw [hb,Ag]
      rw [Nat.mul_one,Nat.mul_one,List.take_of_length_le (by rw [Bk];omega),List.take_of_length_le (by rw [Bk];omega),A9c rfl rfl (Ab _) lb (hf.le (by omega)),Ag,vb]
      by_cases hge:B≤2*r+bt
      · have hq1 : val a / 2 ^ i / B = 2 * (H / B) + 1 := by
          rw [hsum,show B*(2*(H/B))+(2*r+bt)=B*(2*(H/B)+1)+(2*r+bt - B) by rw [Nat.mul_add];omega,Nat.mul_add_div hB,Nat.div_eq_of_lt (show 2*r+bt - B<B by omega),Nat.add_zero]
        have hm1:val a/2 ^ i%B=2*r+bt - B:=by
          rw [hsum,show B*(2*(H/B))+(2*r+bt)=B*(2*(H/B)+1)+(2*r+bt - B) by rw [Nat.mul_add];omega,Nat.mul_add_mod,Nat.mod_eq_of_lt (by omega)]
        rw [if_pos hge,ct,w1,w2,Ah (by omega),ct,A5i hj,show decide (((i%32:Nat):Int)<0)=false by rw [decide_eq_false_iff_not];omega,cf,ct,st1 hj,ct,hor.1,Atm,i64 (by omega)]
        refine A9e ha hb hB hf i fuel (Q.set (i/32) (Q[i/32]+2 ^ (i%32))) (2*r+bt - B) (by omega) (by omega) (B7 hQ hor.2 _) (by simpa using hl) hm1.symm ?_ K
        have x1:=A5k (v:=Q[i/32]+2 ^ (i%32)) hj
        rw [Nat.mul_add,← hpw] at x1
        rw [hq1,Nat.add_mul,Nat.one_mul,Nat.mul_comm 2,Nat.mul_assoc,Nat.mul_comm 2,← Nat.pow_succ,← hv]
        omega
      · have hq1:val a/2 ^ i/B=2*(H/B):=by rw [hsum,Nat.mul_add_div hB,Nat.div_eq_of_lt (show 2*r+bt<B by omega),Nat.add_zero]
        have hm1:val a/2 ^ i%B=2*r+bt:=by rw [hsum,Nat.mul_add_mod,Nat.mod_eq_of_lt (by omega)]
        rw [if_neg hge,cf,i64 (by omega)]
        refine A9e ha hb hB hf i fuel Q (2*r+bt) (by omega) (by omega) hQ hl hm1.symm ?_ K
        rw [hq1,Nat.mul_comm 2,Nat.mul_assoc,Nat.mul_comm 2,← Nat.pow_succ,← hv]
    rw [C8];unfold P7
    rw [show (((i+1:Nat):Int) - 1)=((i:Nat):Int) by omega,show decide (((i:Nat):Int)≥0)=true by rw [decide_eq_true_eq];omega,ct,Nat.mul_one,List.take_of_length_le (by rw [Bk];omega),A9b rfl rfl (Ab _) (Ab _) (hf.le (by omega)),Ag,Bvp rfl ha (by omega) (by omega),hbit]
    have l3:(dig (r+r)).length≤b.length+1:=by
      apply Ch
      have x1:=Bc (Ab B)
      rw [Ag,← hb] at x1
      rw [Nat.pow_succ];omega
    rcases (show bt=0∨bt=1 by omega) with rfl | rfl
    · rw [show (((0:Nat):Int)==1)=false by rfl,cf]
      rw [show 2*r+0=r+r by omega] at second
      exact second
    · rw [show (((1:Nat):Int)==1)=true by rfl,ct,Nat.mul_one,List.take_of_length_le (by rw [Bk];omega)]
      have:=A9b (R:=R) (N:=N) (a:=dig (r+r)) (b:=[1]) (n:=(dig (r+r)).length) (m:=1) (t:=false) (o:=true) (t':=false) (o':=true) (K:=fun af ag=>Jt N (C8 N K (Ad a) a.length t o b.length (Ad b) fuel) K (Ad a) a.length t o b.length ((i:Nat):Int) (Ad b) (Ad Q) af ag) rfl rfl (Ab _) (by intro x hx;simp at hx;omega) (hf.le (by simp;omega))
      rw [Ag,show val [1]=1 by rfl,show r+r+1=2*r+1 by omega] at this
      exact this.trans second
end
end Gx

namespace Gx
open Go Go.Proofs
section
variable {R:Type}
theorem Ano {N:Nat} {a b:List Nat} {n m:Nat} {t o t' o':Bool} {K:Nat→Nat→Bool→LA→LA→Option R} (hn:n=a.length) (hm:m=b.length) (ha:Af a) (hb:Af b) (hb0:val b≠0) (hf:fit (a.length+2*b.length+4) N) :
    Sk N (Ad a) n t o (Ad b) m t' o' K=K (dig (val a/val b)).length (dig (val a%val b)).length true (Ad (dig (val a/val b))) (Ad (dig (val a%val b))):=by
  have h1:=hf.1;have h2:=hf.2
  have lb:=(Bh hb).2
  have hbl:(dig (val b)).length≠0:=fun h=>hb0 (Bj.1 h)
  rw [Aqj];unfold Aqi Aqh
  dsimp only
  have long:Um N K (Ad a) n t o (dig (val b)).length (Ad (dig (val b)))=K (dig (val a/val b)).length (dig (val a%val b)).length true (Ad (dig (val a/val b))) (Ad (dig (val a%val b))):=by
    obtain ⟨nb,n1,n2,n3,n4,n5⟩:=Btd (R:=R) (N:=N) (a:=a) (n:=n) (t:=false) (o:=o) hn ha (hf.le (by omega))
    unfold Um Aa0
    dsimp only
    rw [n5,hn,mk4 (by omega),ct,Ci,i64 (by omega)]
    have hz:val a/2 ^ nb=0:=Nat.div_eq_of_lt n2
    have:=A9e (R:=R) (N:=N) (a:=a) (b:=dig (val b)) (t:=t) (o:=o) (B:=val b) ha rfl (by omega) (hf.le (by omega)) nb N (List.replicate a.length 0) 0 (by omega) n1 (B4 _) (by simp) (by rw [hz];simp) (by rw [hz,Db];simp) K
    exact this
  rw [Cr hm hb (hf.le (by omega)),i0F hbl,cf,Ann hn ha (hf.le (by omega)),Nat.mul_one,List.take_of_length_le (by rw [Bk];exact Nat.le_refl _)]
  by_cases ha2:val a<18446744073709551616
  · rw [if_pos ha2,Ann rfl (Ab _) (hf.le (by omega)),Ag]
    by_cases hb2:val b<18446744073709551616
    · have q64:val a/val b<18446744073709551616:=Nat.lt_of_le_of_lt (Nat.div_le_self _ _) ha2
      have r64:val a%val b<18446744073709551616:=Nat.lt_of_le_of_lt (Nat.mod_le _ _) ha2
      rw [if_pos hb2,show ((true:Bool)==true)=true by rfl,ct,ctB,ct,i0F hb0,cf,Ax6,w64 q64,Afo q64 (by omega),cf,Atq,Afo r64 (by omega)]
    · rw [if_neg hb2,show ((true:Bool)==true)=true by rfl,ct,ctB,cf,long]
  · rw [if_neg ha2,Ann rfl (Ab _) (hf.le (by omega)),Ag]
    by_cases hb2:val b<18446744073709551616
    · rw [if_pos hb2,show ((false:Bool)==true)=false by rfl,cf,long]
    · rw [if_neg hb2,show ((false:Bool)==true)=false by rfl,cf,long]
theorem Bvq {N:Nat}:∀ (k fuel A B:Nat),k<fuel→A*B<2 ^ k→B<A→fit (3*(dig A).length+4) N→∀ K:Nat→LA→Option R,Dv N K fuel (dig A).length (dig B).length (Ad (dig A)) (Ad (dig B))=K (dig (Nat.gcd A B)).length (Ad (dig (Nat.gcd A B))):=by
  have base:∀ (fuel A:Nat) (K:Nat→LA→Option R),Dv N K (fuel+1) (dig A).length (dig 0).length (Ad (dig A)) (Ad (dig 0))=K (dig (Nat.gcd A 0)).length (Ad (dig (Nat.gcd A 0))):=by
    intro fuel A K
    rw [Dv];unfold Pe
    rw [C6,show decide ((((([]:List Nat).length:Nat)):Int)>0)=false by decide,cf,Nat.gcd_zero_right]
  intro k
  induction k with
  | zero =>
    intro fuel A B hfu hxy hle hf K
    obtain ⟨fuel,rfl⟩:∃ F,fuel=F+1:=⟨fuel - 1,by omega⟩
    have hy:B=0:=by
      rcases Nat.eq_zero_or_pos B with h | h
      · exact h
      · have h3:=Nat.mul_le_mul_left A (show 1≤B by omega)
        rw [Nat.pow_zero] at hxy;omega
    subst hy
    exact base fuel A K
  | succ k ih =>
    intro fuel A B hfu hxy hle hf K
    have h1:=hf.1;have h2:=hf.2
    obtain ⟨fuel,rfl⟩:∃ F,fuel=F+1:=⟨fuel - 1,by omega⟩
    rcases Nat.eq_zero_or_pos B with h | h
    · subst h;exact base fuel A K
    have hll:=Bp (Nat.le_of_lt hle)
    have hbl:(dig B).length≠0:=fun h0=>by have:=Bj.1 h0;omega
    have hm:=Nat.mod_lt A h
    have hh:=Att (show 1≤B by omega) (Nat.le_of_lt hle)
    have:=ih fuel B (A%B) (by omega) (by rw [Nat.pow_succ] at hxy;omega) hm (hf.le (by omega)) K
    have hg:Nat.gcd B (A%B)=Nat.gcd A B:=by rw [Nat.gcd_comm,← Nat.gcd_rec,Nat.gcd_comm]
    rw [hg] at this
    rw [Dv];unfold Pe
    rw [show decide ((((dig B).length:Nat):Int)>0)=true by rw [decide_eq_true_eq];omega,ct,Nat.mul_one,Nat.mul_one,List.take_of_length_le (by rw [Bk];exact Nat.le_refl _),List.take_of_length_le (by rw [Bk];exact Nat.le_refl _),Ano rfl rfl (Ab _) (Ab _) (by rw [Ag];omega) (hf.le (by omega)),Ag,Ag]
    exact this
theorem Bvr {N:Nat} {a b:List Nat} {n m:Nat} {t o t' o':Bool} {K:Nat→LA→Option R} (hn:n=a.length) (hm:m=b.length) (ha:Af a) (hb:Af b) (hf:fit (3*(a.length+b.length)+4) N) :
    A25 N (Ad a) n t o (Ad b) m t' o' K=K (dig (Nat.gcd (val a) (val b))).length (Ad (dig (Nat.gcd (val a) (val b)))):=by
  have h1:=hf.1;have h2:=hf.2
  have la:=(Bh ha).2
  have lb:=(Bh hb).2
  have hprod:val a*val b<2 ^ (32*(a.length+b.length)):=by rw [← Brk];exact Nat.mul_lt_mul'' (Bc ha) (Bc hb)
  rw [Bam];unfold Bfi Bfh
  dsimp only
  rw [Cr hn ha (hf.le (by omega)),Cr hm hb (hf.le (by omega))]
  obtain ⟨F,hF⟩:∃ F,N=F+1:=⟨N - 1,by omega⟩
  rcases Nat.eq_zero_or_pos (val b) with h | h
  · rw [h,C6,Nat.gcd_zero_right,hF,Dv];unfold Pe
    rw [show decide ((((([]:List Nat).length:Nat)):Int)>0)=false by decide,cf]
  · have hm':=Nat.mod_lt (val a) h
    have hbl:(dig (val b)).length≠0:=fun h0=>by have:=Bj.1 h0;omega
    have hprod2:val b*(val a%val b)<2 ^ (32*(a.length+b.length)):=by
      have:val b*(val a%val b)≤val b*val a:=Nat.mul_le_mul_left _ (Nat.mod_le _ _)
      rw [Nat.mul_comm (val b) (val a)] at this;omega
    have:=Bvq (R:=R) (N:=N) (32*(a.length+b.length)) F (val b) (val a%val b) (by omega) hprod2 hm' (hf.le (by omega)) K
    have hg:Nat.gcd (val b) (val a%val b)=Nat.gcd (val a) (val b):=by rw [Nat.gcd_comm,← Nat.gcd_rec,Nat.gcd_comm]
    rw [hg] at this
    have e:Dv N K (F+1) (dig (val a)).length (dig (val b)).length (Ad (dig (val a))) (Ad (dig (val b)))=Dv N K F (dig (val b)).length (dig (val a%val b)).length (Ad (dig (val b))) (Ad (dig (val a%val b))):=by
      rw [Dv];unfold Pe
      rw [show decide ((((dig (val b)).length:Nat):Int)>0)=true by rw [decide_eq_true_eq];omega,ct,Nat.mul_one,Nat.mul_one,List.take_of_length_le (by rw [Bk];exact Nat.le_refl _),List.take_of_length_le (by rw [Bk];exact Nat.le_refl _),Ano rfl rfl (Ab _) (Ab _) (by rw [Ag];omega) (hf.le (by omega)),Ag,Ag]
    conv=>lhs;rw [show (Dv N K N)=Dv N K (F+1) by rw [← hF]]
    rw [e];exact this
end
end Gx

namespace Gx
open Go Go.Proofs
section
variable {R:Type}
inductive LS where
  | nil
  | of (l:List Nat) (t o:Bool)
def LS.l:LS→List Nat
  | .nil=>[]
  | .of l _ _=>l
def LS.av:LS→AV
  | .nil=>.nsl
  | .of l t o=>.imm (Ad l) l.length 1 t o
theorem Bjd {s:LS} {r:List AV} {f:List AV→Nat→Option R}:rdL 1 (s.av::r) f=f (Ad s.l) s.l.length:=by
  cases s<;>simp [rdL,LS.av,LS.l,Bv0,Ad]
theorem Byv {b:Bool} {r:List AV} {f:Bool→Option R}:rdB (.bool b::r) f=f b:=by simp [rdB,asBool]
def Id (neg:Bool) (s:LS):List AV:=[.bool neg,s.av]
def Ap (neg:Bool) (s:LS):Int:=if neg then -(val s.l:Int) else (val s.l:Int)
theorem Ca (neg:Bool) (s:LS):(Ap neg s).natAbs=val s.l:=by unfold Ap;cases neg<;>simp
theorem Rx {neg:Bool} {s:LS} {f:Bool→Option R}:rdB (Id neg s) f=f neg:=Byv
theorem Ne {neg:Bool} {s:LS} {f:List AV→Nat→Option R}:rdL 1 (List.drop 1 (Id neg s)) f=f (Ad s.l) s.l.length:=by rw [Id,List.drop_succ_cons,List.drop_zero,Bjd]
theorem Lj {N:Nat} {c:Bool} {a:Nat} {b:LA} {K:Bool→Option R}:Hr N c a b K=K (c&&decide (0<a)):=by
  rw [Aww];unfold Azi Azh
  cases c<;>simp
theorem Z9 {z:Int} {c:Bool} {m:Nat} (h:z=if c then -(m:Int) else (m:Int)):(c&&decide (0<(dig m).length))=decide (z<0)∧z.natAbs=m:=by
  have hz:z.natAbs=m:=by rw [h];cases c<;>simp
  refine ⟨?_,hz⟩
  by_cases h0:m=0
  · subst h0;rw [h,C6];cases c<;>simp
  · have : 0 < (dig m).length := by
      rcases Nat.eq_zero_or_pos (dig m).length with h1 | h1
      · exact absurd (Bj.1 h1) h0
      · exact h1
    rw [h];cases c<;>simp [this]<;>omega
theorem Bkq {N:Nat} {v:Int} (hv:-9223372036854775808≤v∧v≤9223372036854775807) (hN:4≤N):∃ S,Af S∧val S=v.natAbs∧∀ K:Bool→Nat→LA→Option R,Aa6 N v K=K (decide (v<0)) (dig v.natAbs).length (Ad S):=by
  have hb:v.natAbs<18446744073709551616:=by omega
  obtain ⟨S,s1,s2,s3⟩:=Jb (R:=R) (N:=N) hb hN
  refine ⟨S,s1,s2,fun K=>?_⟩
  rw [Aqu];unfold Aqt Aqs
  by_cases h:v<0
  · have e:IntKind.wrap .u64 ((0:Int) - IntKind.wrap .u64 v)=(v.natAbs:Int):=by rw [A10,A10];omega
    rw [decide_eq_true h,ct,e,s3,Lj]
    have h0:v.natAbs≠0:=by omega
    have:0<(dig v.natAbs).length:=by
      rcases Nat.eq_zero_or_pos (dig v.natAbs).length with h1 | h1
      · exact absurd (Bj.1 h1) h0
      · exact h1
    simp [this]
  · have e:IntKind.wrap .u64 v=(v.natAbs:Int):=by rw [A10];omega
    rw [decide_eq_false h,cf,e,s3,Lj];rfl
theorem A13 {N:Nat} {neg:Bool} {s:LS} {o:Bool} {K:Int→Option R} (hs:Af s.l) (hf:fit s.l.length N):Akj N (Id neg s) o K=K (Ap neg s).sign:=by
  rw [Bau];unfold Bf3 Bf2
  rw [Ne,Bi6 rfl hs hf]
  unfold Ap
  by_cases h:val s.l=0
  · rw [h,Z7,show ((0:Int)==0)=true by rfl,ct];cases neg<;>rfl
  · have:F6 (val s.l) 0=1:=by unfold F6;rw [if_neg (by omega),if_pos (by omega)]
    rw [this,show ((1:Int)==0)=false by rfl,cf,Rx]
    cases neg
    · rw [cf];simp only [Bool.false_eq_true,if_false]
      congr 1
      rw [Int.sign_eq_one_of_pos];omega
    · rw [ct];simp only [if_true]
      congr 1
      rw [Int.sign_eq_neg_one_of_neg];omega
theorem Aiv {N:Nat} {n1 n2:Bool} {s1 s2:LS} {o1 o2:Bool} (h1:Af s1.l) (h2:Af s2.l) (hf:fit (s1.l.length+s2.l.length) N):∃ S,Af S∧val S=(Ap n1 s1*Ap n2 s2).natAbs∧∀ K:Bool→Nat→LA→Option R,Akw N (Id n1 s1) o1 (Id n2 s2) o2 K=K (decide (Ap n1 s1*Ap n2 s2<0)) (dig (Ap n1 s1*Ap n2 s2).natAbs).length (Ad S):=by
  obtain ⟨S,a1,a2,a3⟩:=Atp (R:=R) (N:=N) (a:=s1.l) (b:=s2.l) (t:=false) (o:=o1) (t':=false) (o':=o2) rfl rfl h1 h2 hf
  have hz:Ap n1 s1*Ap n2 s2=if (!(n1==n2)) then -((val s1.l*val s2.l:Nat):Int) else ((val s1.l*val s2.l:Nat):Int):=by
    unfold Ap;cases n1<;>cases n2<;>simp [Int.mul_neg,Int.neg_mul]
  obtain ⟨c1,c2⟩:=Z9 hz
  refine ⟨S,a1,by rw [a2,c2],fun K=>?_⟩
  rw [Bge];unfold Boc Bob
  rw [Rx,Rx,Ne,Ne,a3,Lj,c1,c2]
theorem Bmy {N:Nat} {n1 n2:Bool} {s1 s2:LS} {o1 o2:Bool} (h1:Af s1.l) (h2:Af s2.l) (hf:fit (s1.l.length+s2.l.length+1) N):∃ S,Af S∧val S=(Ap n1 s1+Ap n2 s2).natAbs∧∀ K:Bool→Nat→LA→Option R,A7r N (Id n1 s1) o1 (Id n2 s2) o2 K=K (decide (Ap n1 s1+Ap n2 s2<0)) (dig (Ap n1 s1+Ap n2 s2).natAbs).length (Ad S):=by
  by_cases hn:n1=n2
  · subst hn
    obtain ⟨S,a1,a2,a3⟩:=Bwr (R:=R) (N:=N) (a:=s1.l) (b:=s2.l) (t:=false) (o:=o1) (t':=false) (o':=o2) rfl rfl h1 h2 hf
    have hz:Ap n1 s1+Ap n1 s2=if n1 then -((val s1.l+val s2.l:Nat):Int) else ((val s1.l+val s2.l:Nat):Int):=by
      unfold Ap;cases n1<;>simp;omega
    obtain ⟨c1,c2⟩:=Z9 hz
    refine ⟨S,a1,by rw [a2,c2],fun K=>?_⟩
    rw [Alf];unfold A31 A30
    rw [Rx,Rx,show (n1==n1)=true by simp,ct,Rx,Ne,Ne,a3,Lj,c1,c2]
  · have hne:(n1==n2)=false:=by simp [hn]
    by_cases hle:val s2.l≤val s1.l
    · obtain ⟨S,a1,a2,a3⟩:=Bi9 (R:=R) (N:=N) (a:=s1.l) (b:=s2.l) (t:=false) (o:=o1) (t':=false) (o':=o2) rfl rfl h1 h2 (hf.le (by omega)) hle
      have hz:Ap n1 s1+Ap n2 s2=if n1 then -((val s1.l - val s2.l:Nat):Int) else ((val s1.l - val s2.l:Nat):Int):=by
        unfold Ap;cases n1<;>cases n2<;>simp at hn ⊢<;>omega
      obtain ⟨c1,c2⟩:=Z9 hz
      refine ⟨S,a1,by rw [a2,c2],fun K=>?_⟩
      rw [Alf];unfold A31 A30
      rw [Rx,Rx,hne,cf,Ne,Ne,a3,ct,Rx,Lj,c1,c2]
    · obtain ⟨S,a1,a2,a3⟩:=Bi9 (R:=R) (N:=N) (a:=s2.l) (b:=s1.l) (t:=false) (o:=o2) (t':=false) (o':=o1) rfl rfl h2 h1 (hf.le (by omega)) (by omega)
      have hz:Ap n1 s1+Ap n2 s2=if n2 then -((val s2.l - val s1.l:Nat):Int) else ((val s2.l - val s1.l:Nat):Int):=by
        unfold Ap;cases n1<;>cases n2<;>simp at hn ⊢<;>omega
      obtain ⟨c1,c2⟩:=Z9 hz
      refine ⟨S,a1,by rw [a2,c2],fun K=>?_⟩
      rw [Alf];unfold A31 A30
      rw [Rx,Rx,hne,cf,Ne,Ne,Bws rfl rfl h1 h2 (hf.le (by omega)) (by omega),cf,Ne,Ne,a3,Rx,Lj,c1,c2]
theorem Bte {N:Nat} {n1:Bool} {s1:LS} {o1:Bool} {K:Bool→Nat→LA→Option R} (h1:Af s1.l) (hf:fit s1.l.length N):A3m N (Id n1 s1) o1 K=K (decide (Ap n1 s1<0)) (dig (Ap n1 s1).natAbs).length (Ad (dig (Ap n1 s1).natAbs)):=by
  obtain ⟨c1,c2⟩:=Z9 (z:=Ap n1 s1) (c:=n1) (m:=val s1.l) (by unfold Ap;cases n1<;>simp)
  rw [Ba1];unfold Bgl Bgk
  rw [Rx,Ne,Av0 rfl h1 hf,Lj,c1,c2]
def A5p (x y:Int):Int:=if x<y then -1 else if y<x then 1 else 0
theorem Bw5 (x y:Nat):A5p (x:Int) (y:Int)=F6 x y:=by unfold A5p F6;simp
theorem Bw6 (x y:Nat):A5p (-(x:Int)) (-(y:Int))=F6 y x:=by
  unfold A5p F6
  by_cases h:y<x
  · rw [if_pos (by omega),if_pos h]
  · rw [if_neg (by omega),if_neg h]
    by_cases h2:x<y
    · rw [if_pos (by omega),if_pos h2]
    · rw [if_neg (by omega),if_neg h2]
theorem Bkr {N:Nat} {n1 n2:Bool} {s1 s2:LS} {o1 o2:Bool} {K:Int→Option R} (h1:Af s1.l) (h2:Af s2.l) (hf:fit (s1.l.length+s2.l.length) N):Abj N (Id n1 s1) o1 (Id n2 s2) o2 K=K (A5p (Ap n1 s1) (Ap n2 s2)):=by
  rw [Aq8];unfold Aq7 Aq6
  have l2:∀ n s,List.take 2 (Id n s)=Id n s:=fun n s=>rfl
  have l3:∀ n s,Nat.ble 2 (List.length (Id n s))=true:=fun n s=>rfl
  rw [l2,l2,l3,l3,ct,A13 h1 (hf.le (by omega)),ct,A13 h2 (hf.le (by omega))]
  have sg:∀ z:Int,z.sign=if z<0 then -1 else if 0<z then 1 else 0:=by
    intro z
    rcases Int.lt_trichotomy z 0 with h | h | h
    · rw [Int.sign_eq_neg_one_of_neg h,if_pos h]
    · subst h;rfl
    · rw [Int.sign_eq_one_of_pos h,if_neg (by omega),if_pos h]
  by_cases c1:(Ap n1 s1).sign<(Ap n2 s2).sign
  · rw [decide_eq_true c1,ct]
    rw [sg,sg] at c1
    unfold A5p;rw [if_pos]
    split at c1<;>split at c1<;>(try split at c1)<;>(try split at c1)<;>omega
  · rw [decide_eq_false c1,cf]
    by_cases c2:(Ap n1 s1).sign>(Ap n2 s2).sign
    · rw [decide_eq_true c2,ct]
      rw [sg,sg] at c2
      unfold A5p;rw [if_neg,if_pos]
      · split at c2<;>split at c2<;>(try split at c2)<;>(try split at c2)<;>omega
      · split at c2<;>split at c2<;>(try split at c2)<;>(try split at c2)<;>omega
    · rw [decide_eq_false c2,cf]
      have he:(Ap n1 s1).sign=(Ap n2 s2).sign:=by omega
      by_cases c3:(Ap n1 s1).sign<0
      · rw [decide_eq_true c3,ct,Ne,Ne,Pq rfl rfl h2 h1 (hf.le (by omega))]
        have p1:Ap n1 s1<0:=by rw [sg] at c3;split at c3;assumption;split at c3<;>omega
        have p2:Ap n2 s2<0:=by rw [he,sg] at c3;split at c3;assumption;split at c3<;>omega
        have e1:Ap n1 s1=-(val s1.l:Int):=by unfold Ap at p1 ⊢;cases n1<;>simp at p1 ⊢;omega
        have e2:Ap n2 s2=-(val s2.l:Int):=by unfold Ap at p2 ⊢;cases n2<;>simp at p2 ⊢;omega
        rw [e1,e2,Bw6]
      · rw [decide_eq_false c3,cf,Ne,Ne,Pq rfl rfl h1 h2 (hf.le (by omega))]
        have p1:0≤Ap n1 s1:=by
          apply Int.not_lt.1;intro h;rw [Int.sign_eq_neg_one_of_neg h] at c3;omega
        have p2:0≤Ap n2 s2:=by
          apply Int.not_lt.1;intro h;rw [he,Int.sign_eq_neg_one_of_neg h] at c3;omega
        have e1:Ap n1 s1=(val s1.l:Int):=by have:=Ca n1 s1;omega
        have e2:Ap n2 s2=(val s2.l:Int):=by have:=Ca n2 s2;omega
        rw [e1,e2,Bw5]
end
end Gx

namespace Gx
open Go Go.Proofs
section
variable {R:Type}
theorem Bje (z:Int) (d:Nat) (hd:d≠0):(mkRat z d).num.natAbs=z.natAbs/Nat.gcd z.natAbs d∧((mkRat z d).num<0↔z<0)∧(mkRat z d).den=d/Nat.gcd z.natAbs d:=by
  have hg:0<Nat.gcd z.natAbs d:=Nat.gcd_pos_of_pos_right _ (by omega)
  rw [Rat.num_mkRat,Rat.den_mkRat,if_neg hd,if_neg hd,Nat.gcd_comm d]
  have hdv:((Nat.gcd z.natAbs d:Nat):Int)∣z:=Int.dvd_natAbs.1 (Int.natCast_dvd_natCast.2 (Nat.gcd_dvd_left _ _))
  obtain ⟨c,hc⟩:=hdv
  have hgz:z.natAbs.gcd d=Nat.gcd z.natAbs d:=rfl
  generalize Nat.gcd z.natAbs d=g at *
  refine ⟨?_,?_,rfl⟩
  · rw [hc,Int.mul_ediv_cancel_left _ (by omega),Int.natAbs_mul,Int.natAbs_natCast,Nat.mul_div_cancel_left _ hg]
  · rw [hc,Int.mul_ediv_cancel_left _ (by omega)]
    constructor
    · intro h;exact Int.mul_neg_of_pos_of_neg (by omega) h
    · intro h;rcases Int.lt_or_le c 0 with h1 | h1
      · exact h1
      · have:=Int.mul_nonneg (show (0:Int)≤g by omega) h1;omega
structure RatD where
  neg:Bool
  ns:LS
  ds:LS
def RatD.av (x:RatD):List AV:=[.bool x.neg,x.ns.av,x.ds.av]
def RatD.ok (x:RatD):Prop:=Af x.ns.l∧Af x.ds.l
def RatD.m (x:RatD):Nat:=max x.ns.l.length x.ds.l.length
def RatD.q (x:RatD):Rat:=mkRat (Ap x.neg x.ns) (val x.ds.l)
def RatD.can (x:RatD) (q:Rat):Prop:=x.neg=decide (q.num<0)∧x.ns.l=dig q.num.natAbs∧x.ds.l=dig q.den
def qm (q:Rat):Nat:=max (dig q.num.natAbs).length (dig q.den).length
theorem RatD.can.ok {x:RatD} {q:Rat} (h:x.can q):x.ok:=⟨by rw [h.2.1];exact Ab _,by rw [h.2.2];exact Ab _⟩
theorem RatD.can.m {x:RatD} {q:Rat} (h:x.can q):x.m=qm q:=by unfold RatD.m qm;rw [h.2.1,h.2.2]
theorem RatD.can.q {x:RatD} {q:Rat} (h:x.can q):x.q=q:=by
  unfold RatD.q Ap
  rw [h.1,h.2.1,h.2.2,Ag,Ag]
  have:(if decide (q.num<0)=true then -(q.num.natAbs:Int) else (q.num.natAbs:Int))=q.num:=by
    by_cases h0:q.num<0
    · rw [if_pos (by simpa using h0)];omega
    · rw [if_neg (by simpa using h0)];omega
  rw [this,Rat.mkRat_self]
theorem Bzb {x:RatD} {f:Bool→Option R}:rdB x.av f=f x.neg:=Byv
theorem Bw7 {x:RatD} {f:List AV→Nat→Option R}:rdL 1 (List.drop 1 x.av) f=f (Ad x.ns.l) x.ns.l.length:=by rw [RatD.av,List.drop_succ_cons,List.drop_zero,Bjd]
theorem Bjf {x:RatD} {f:List AV→Nat→Option R}:rdL 1 (List.drop 2 x.av) f=f (Ad x.ds.l) x.ds.l.length:=by rw [RatD.av,List.drop_succ_cons,List.drop_succ_cons,List.drop_zero,Bjd]
theorem Gu (x:RatD):Nat.ble 3 (List.length x.av)=true:=rfl
theorem Cs (x:RatD):List.take 3 x.av=x.av:=rfl
theorem Byw (x:RatD):List.take 2 x.av=Id x.neg x.ns:=rfl
theorem Bzt (x:RatD):Nat.beq (List.length x.av) 3=true:=rfl
theorem Ax7 (n:Bool) (s:LS):((Nat.beq 0 0)&&((Nat.beq (List.length (Id n s)) 2)&&(Nat.beq 2 2)))=true:=rfl
theorem A14 (n:Bool) (s:LS):Nat.ble 2 (List.length (Id n s))=true:=rfl
theorem tk2 (n:Bool) (s:LS):List.take 2 (Id n s)=Id n s:=rfl
theorem Bw8:([.int .u32 1]:List AV)=Ad [1]:=rfl
theorem Bvs:Af [1]:=by intro x hx;simp at hx;omega
theorem Zi:dig 1=[1]:=by rw [Anf (by omega)];simp [C6]
theorem Df {v:Nat} {S:List Nat} (h1:Af S) (h2:val S=v):List.take ((dig v).length*1) (Ad S)=Ad (dig v):=by rw [← h2,J7 h1]
theorem ofA (neg:Bool) (l:List Nat) (t o:Bool):([.bool neg,.imm (Ad l) l.length 1 t o]:List AV)=Id neg (.of l t o):=rfl
theorem Hh {z:Int} {t o:Bool}:Ap (decide (z<0)) (.of (dig z.natAbs) t o)=z:=by
  unfold Ap LS.l;rw [Ag]
  by_cases h:z<0
  · rw [if_pos (by simpa using h)];omega
  · rw [if_neg (by simpa using h)];omega
theorem Bks {N:Nat} {v:Int} (hv:-9223372036854775808≤v∧v≤9223372036854775807) (hN:4≤N):∃ d:RatD,d.can (v:Rat)∧∀ K:LA→Option R,C0 N v K=K d.av:=by
  obtain ⟨S,s1,s2,s3⟩:=Bkq (R:=R) (N:=N) hv hN
  refine ⟨⟨decide (v<0),.of (dig v.natAbs) false false,.of (dig 1) false false⟩,⟨rfl,rfl,rfl⟩,fun K=>?_⟩
  rw [Aqx];unfold Aqw Aqv
  rw [s3,Df s1 s2,Zi];rfl
theorem Lk {N:Nat} {x:RatD} {o:Bool} (hx:x.ok) (hf:fit x.m N):∃ (neg:Bool) (s:LS) (l:List Nat) (o1 o2:Bool),Af s.l∧Af l∧val l≠0∧s.l.length≤x.m∧l.length≤max x.m 1∧mkRat (Ap neg s) (val l)=x.q∧∀ K:LA→Bool→LA→Nat→Bool→Option R,Jg N x.av o K=K (Id neg s) o1 (Ad l) l.length o2:=by
  have hm1:x.ns.l.length≤x.m:=Nat.le_max_left _ _
  have hm2:x.ds.l.length≤x.m:=Nat.le_max_right _ _
  by_cases h0:val x.ds.l=0
  · refine ⟨false,.nil,[1],false,false,T2,Bvs,by decide,by simp [LS.l],by simp;omega,?_,fun K=>?_⟩
    · unfold RatD.q;rw [h0];simp [Ap,LS.l,val]
    · rw [Aki];unfold Auw Auv
      rw [Bjf,Bi6 rfl hx.2 (hf.le hm2),h0,Z7];rfl
  · refine ⟨x.neg,x.ns,x.ds.l,o,o,hx.1,hx.2,h0,hm1,by omega,rfl,fun K=>?_⟩
    have:F6 (val x.ds.l) 0=1:=by unfold F6;rw [if_neg (by omega),if_pos (by omega)]
    rw [Aki];unfold Auw Auv
    rw [Bjf,Bi6 rfl hx.2 (hf.le hm2),this,show ((1:Int)==0)=false by rfl,cf,show Nat.ble 2 (List.length x.av)=true by rfl,ct,Bjf,Byw,Ax7,ct,A14,ct,tk2]
theorem Bzu (z:Int) (d:Nat) (hd:d≠0):(mkRat z d).num.sign=z.sign:=by
  obtain ⟨h1,h2,_⟩:=Bje z d hd
  rcases Int.lt_trichotomy z 0 with h | h | h
  · rw [Int.sign_eq_neg_one_of_neg h,Int.sign_eq_neg_one_of_neg (h2.2 h)]
  · subst h;simp
  · have hn:¬ (mkRat z d).num<0:=fun hh=>by have:=h2.1 hh;omega
    have h0:(mkRat z d).num≠0:=fun hh=>by
      have:mkRat z d=0:=Rat.num_eq_zero.1 hh
      rw [Rat.mkRat_eq_zero hd] at this;omega
    rw [Int.sign_eq_one_of_pos h,Int.sign_eq_one_of_pos (by omega)]
theorem Ll {N:Nat} {x:RatD} {o:Bool} {K:Int→Option R} (hx:x.ok) (hf:fit x.m N):Yn N x.av o K=K x.q.num.sign:=by
  obtain ⟨neg,s,l,o1,o2,p1,p2,p3,p4,p5,p6,p7⟩:=Lk (R:=R) (o:=o) hx hf
  rw [Bav];unfold Bf7 Bf6
  rw [Gu,ct,Cs,p7,Ax7,ct,A14,ct,tk2,A13 p1 (hf.le p4),← p6,Bzu _ _ p3]
theorem G4 {N:Nat} {x:RatD} {o:Bool} (hx:x.ok) (hf:fit x.m N):(∃ (n:Int) (d:Nat),-2147483648<n∧n<2147483648∧0<d∧d<2147483648∧mkRat n d=x.q∧∀ K:Int→Int→Bool→Option R,Fq N x.av o K=K n (d:Int) true)∨(∀ K:Int→Int→Bool→Option R,Fq N x.av o K=K 0 0 false):=by
  have hm1:x.ns.l.length≤x.m:=Nat.le_max_left _ _
  have hm2:x.ds.l.length≤x.m:=Nat.le_max_right _ _
  by_cases h1:val x.ns.l<2147483648
  · by_cases h2:val x.ds.l<2147483648
    · left
      have e:∀ K:Int→Int→Bool→Option R,Fq N x.av o K=E5 N K (val x.ns.l:Int) (val x.ds.l:Int) o x.av false:=by
        intro K
        rw [Yo];unfold Ah3 Ah2
        rw [Bw7,Li rfl hx.1 (hf.le hm1),if_pos (by omega),Bjf,Li rfl hx.2 (hf.le hm2),if_pos (by omega)]
        rw [show ((!true)==false)=true by rfl,ct,show ((cond false true (!true))==false)=true by rfl,ct,show decide (((val x.ns.l:Nat):Int)≥2147483648)=false by rw [decide_eq_false_iff_not];omega,show ((cond false true false)==false)=true by rfl,ct,show decide (((val x.ds.l:Nat):Int)≥2147483648)=false by rw [decide_eq_false_iff_not];omega]
        rfl
      by_cases h0:val x.ds.l=0
      · refine ⟨0,1,by omega,by omega,by omega,by omega,by unfold RatD.q;rw [h0];simp,fun K=>?_⟩
        rw [e];unfold E5 Ev
        rw [cf,i0T h0,ct];rfl
      · have hn:=Ca x.neg x.ns
        refine ⟨Ap x.neg x.ns,val x.ds.l,by omega,by omega,by omega,h2,rfl,fun K=>?_⟩
        rw [e];unfold E5 Ev
        rw [cf,i0F h0,cf,Bzb,i64 (a:=((val x.ns.l:Nat):Int)) (by omega),i64 (a:=((val x.ds.l:Nat):Int)) (by omega)]
        unfold Ap
        cases x.neg
        · rfl
        · rw [ct,i64 (by omega),Int.zero_sub];rfl
    · right
      intro K
      rw [Yo];unfold Ah3 Ah2
      rw [Bw7,Li rfl hx.1 (hf.le hm1),if_pos (by omega),Bjf,Li rfl hx.2 (hf.le hm2),show ((!true)==false)=true by rfl]
      by_cases h3:val x.ds.l<18446744073709551616
      · rw [if_pos h3,ct,show ((cond false true (!true))==false)=true by rfl,ct,show decide (((val x.ns.l:Nat):Int)≥2147483648)=false by rw [decide_eq_false_iff_not];omega,show ((cond false true false)==false)=true by rfl,ct,show decide (((val x.ds.l:Nat):Int)≥2147483648)=true by rw [decide_eq_true_eq];omega]
        unfold E5 Ev;rfl
      · rw [if_neg h3,ct,show ((cond false true (!false))==false)=false by rfl,cf]
        unfold E5 Ev;rfl
  · right
    intro K
    rw [Yo];unfold Ah3 Ah2
    rw [Bw7,Li rfl hx.1 (hf.le hm1)]
    by_cases h3:val x.ns.l<18446744073709551616
    · rw [if_pos h3,Bjf,Li rfl hx.2 (hf.le hm2),show ((!true)==false)=true by rfl,show decide (((val x.ns.l:Nat):Int)≥2147483648)=true by rw [decide_eq_true_eq];omega]
      by_cases h4:val x.ds.l<18446744073709551616
      · rw [if_pos h4,ct,show ((cond false true (!true))==false)=true by rfl,ct]
        unfold E5 Ev;rfl
      · rw [if_neg h4,ct,show ((cond false true (!false))==false)=false by rfl,cf]
        unfold E5 Ev;rfl
    · rw [if_neg h3,Bjf,Li rfl hx.2 (hf.le hm2),show ((!false)==false)=false by rfl]
      split<;>(rw [cf];unfold E5 Ev;rfl)
theorem Bmz {N:Nat} {a b c:Nat} {s:Int} (hN:4≤N) (ha:a<18446744073709551616) (hb:b<9223372036854775808) (hg0:0<c) (hga:c∣a):∀ (k fuel x y:Nat),k<fuel→x*y<2 ^ k→y≤x→Nat.gcd x y=c→∃ d:RatD,d.neg=decide (s<0)∧d.ns.l=dig (a/c)∧d.ds.l=dig (b/c)∧∀ K:LA→Option R,Cf N K s (b:Int) (a:Int) fuel (x:Int) (y:Int)=K d.av:=by
  have base:∀ (fuel:Nat),∃ d:RatD,d.neg=decide (s<0)∧d.ns.l=dig (a/c)∧d.ds.l=dig (b/c)∧∀ K:LA→Option R,Cf N K s (b:Int) (a:Int) (fuel+1) (c:Int) ((0:Nat):Int)=K d.av:=by
    intro fuel
    have q1:a/c<18446744073709551616:=Nat.lt_of_le_of_lt (Nat.div_le_self _ _) ha
    have q2:b/c<18446744073709551616:=Nat.lt_of_le_of_lt (Nat.div_le_self _ _) (by omega)
    obtain ⟨S1,s1,s2,s3⟩:=Jb (R:=R) (N:=N) q1 hN
    obtain ⟨S2,t1,t2,t3⟩:=Jb (R:=R) (N:=N) q2 hN
    refine ⟨⟨decide (s<0),.of (dig (a/c)) false false,.of (dig (b/c)) false false⟩,rfl,rfl,rfl,fun K=>?_⟩
    rw [Cf];unfold Jj
    rw [show (((0:Nat):Int) != 0)=false by rfl,cf,i0F (by omega),cf,Ax6,w64 q1,s3,cf,w64 (show b<18446744073709551616 by omega),Ax6,w64 q2,t3,Df s1 s2,Df t1 t2];rfl
  intro k
  induction k with
  | zero =>
    intro fuel x y hf hxy hle hg
    obtain ⟨fuel,rfl⟩:∃ F,fuel=F+1:=⟨fuel - 1,by omega⟩
    have hy:y=0:=by
      rcases Nat.eq_zero_or_pos y with h | h
      · exact h
      · have h3:=Nat.mul_le_mul_left x (show 1≤y by omega)
        rw [Nat.pow_zero] at hxy;omega
    subst hy
    rw [Nat.gcd_zero_right] at hg;subst hg
    exact base fuel
  | succ k ih =>
    intro fuel x y hf hxy hle hg
    obtain ⟨fuel,rfl⟩:∃ F,fuel=F+1:=⟨fuel - 1,by omega⟩
    rcases Nat.eq_zero_or_pos y with h | h
    · subst h;rw [Nat.gcd_zero_right] at hg;subst hg;exact base fuel
    · have hh:=Att (show 1≤y by omega) hle
      have hm:=Nat.mod_lt x h
      have hg2:Nat.gcd y (x%y)=Nat.gcd x y:=by rw [Nat.gcd_comm,← Nat.gcd_rec,Nat.gcd_comm]
      obtain ⟨d,d1,d2,d3,d4⟩:=ih fuel y (x%y) (by omega) (by rw [Nat.pow_succ] at hxy;omega) (by omega) (by rw [hg2,hg])
      refine ⟨d,d1,d2,d3,fun K=>?_⟩
      rw [Cf];unfold Jj
      rw [show ((y:Int) != 0)=true by rw [bne_iff_ne];omega,ct,i0F (by omega),cf,Atq]
      exact d4 K
theorem Aha {N:Nat} {s:Int} {b:Nat} (hs:-9223372036854775808≤s∧s≤9223372036854775807) (hb0:0<b) (hb:b<9223372036854775808) (hN:1000≤N):∃ d:RatD,d.can (mkRat s b)∧∀ K:LA→Option R,Ih N s (b:Int) K=K d.av:=by
  obtain ⟨m1,m2,m3⟩:=Bje s b (by omega)
  have hcan:∀ d:RatD,d.neg=decide (s<0)→d.ns.l=dig (s.natAbs/Nat.gcd s.natAbs b)→d.ds.l=dig (b/Nat.gcd s.natAbs b)→d.can (mkRat s b):=by
    intro d h1 h2 h3
    exact ⟨by rw [h1];congr 1;exact propext m2.symm,by rw [h2,m1],by rw [h3,m3]⟩
  have ha:s.natAbs<18446744073709551616:=by omega
  have start:∀ K:LA→Option R,Ih N s (b:Int) K=Cf N K s (b:Int) (s.natAbs:Int) N (b:Int) (s.natAbs:Int):=by
    intro K
    rw [An8];unfold Ak0 Akz Abl Wx
    dsimp only
    by_cases h:s<0
    · have e:IntKind.wrap .u64 ((0:Int) - IntKind.wrap .u64 s)=(s.natAbs:Int):=by rw [A10,A10];omega
      rw [decide_eq_true h,ct,e,w64 (by omega)]
    · have e:IntKind.wrap .u64 s=(s.natAbs:Int):=by rw [A10];omega
      rw [decide_eq_false h,cf,e,w64 (by omega)]
  have hg0:0<Nat.gcd s.natAbs b:=Nat.gcd_pos_of_pos_right _ hb0
  by_cases hle:s.natAbs≤b
  · obtain ⟨d, d1, d2, d3, d4⟩ := Bmz (R := R) (N := N) (a := s.natAbs) (b := b) (c := Nat.gcd s.natAbs b) (s := s) (by omega) ha hb hg0 (Nat.gcd_dvd_left _ _) 128 N b s.natAbs (by omega) (by
      have:=Nat.mul_lt_mul'' (show b<18446744073709551616 by omega) ha;exact this) hle (Nat.gcd_comm _ _)
    exact ⟨d,hcan d d1 d2 d3,fun K=>by rw [start,d4]⟩
  · obtain ⟨F,hF⟩:∃ F,N=F+1:=⟨N - 1,by omega⟩
    obtain ⟨d,d1,d2,d3,d4⟩:=Bmz (R:=R) (N:=N) (a:=s.natAbs) (b:=b) (c:=Nat.gcd s.natAbs b) (s:=s) (by omega) ha hb hg0 (Nat.gcd_dvd_left _ _) 128 F s.natAbs (b%s.natAbs) (by omega) (by
      rw [Nat.mod_eq_of_lt (by omega)]
      have:=Nat.mul_lt_mul'' ha (show b<18446744073709551616 by omega);exact this) (by rw [Nat.mod_eq_of_lt (by omega)];omega) (by rw [Nat.mod_eq_of_lt (by omega)])
    refine ⟨d,hcan d d1 d2 d3,fun K=>?_⟩
    rw [start,← d4 K]
    conv=>lhs;rw [show (Cf N K s (b:Int) (s.natAbs:Int) N)=Cf N K s (b:Int) (s.natAbs:Int) (F+1) by rw [← hF]]
    rw [Cf];unfold Jj
    rw [show (((s.natAbs:Nat):Int) != 0)=true by rw [bne_iff_ne];omega,ct,i0F (by omega),cf,Atq]
end
end Gx

namespace Gx
open Go Go.Proofs
section
variable {R:Type}
theorem Bx7 {S:List Nat} {g:Nat} (h1:Af S) (h2:val S=g) (hl:(dig g).length=1) {f:Int→Option R}:rdI .u32 (Ad S) f=f (g:Int):=by
  have h3:=(Bh h1).2
  rw [h2,hl] at h3
  have h4:=Bq6 h1
  rw [h2,hl] at h4
  obtain ⟨a,hd⟩:∃ a,dig g=[a]:=by
    match h:dig g,hl with
    | [a],_=>exact ⟨a,rfl⟩
  have ha:a=g:=by have:=Ag g;rw [hd] at this;simpa [val] using this
  rw [hd,ha] at h4
  match S,h3,h4 with
  | x::r,_,h4 =>
    simp at h4;subst h4
    rw [Z6,Bi]
theorem Afp {N:Nat} {neg:Bool} {s:LS} {l:List Nat} {n:Nat} {o t o':Bool} (hn:n=l.length) (hs:Af s.l) (hl:Af l) (hl0:val l≠0) (hf:fit (2*(s.l.length+l.length)+8) N) :
    ∃ d:RatD,d.can (mkRat (Ap neg s) (val l))∧∀ K:LA→Option R,Mi N (Id neg s) o (Ad l) n t o' K=K d.av:=by
  obtain ⟨m1,m2,m3⟩:=Bje (Ap neg s) (val l) hl0
  have hna:=Ca neg s
  have ls:=(Bh hs).2
  have ll:=(Bh hl).2
  generalize hz:Ap neg s=z at *
  have start:∀ K:LA→Option R,Mi N (Id neg s) o (Ad l) n t o' K=cond ((((dig z.natAbs).length:Nat):Int)==(0:Int)) (K [(.bool false),.nsl,(.imm [(.int .u32 1)] 1 1 false false)]) (A0h N (Ad (dig z.natAbs)) (dig z.natAbs).length false true (Ad (dig (val l))) (dig (val l)).length false true (fun f g=>(cond ((((f:Nat):Int) != (1:Int))==false) (cond (Am (0:Int) f) (rdI .u32 g fun y=>(cond (cond false true (y != (1:Int))) (D0 N (Ad (dig z.natAbs)) (dig z.natAbs).length false true (List.take (f*1) g) f false true (fun p ae af z2 ag=>(D0 N (Ad (dig (val l))) (dig (val l)).length false true (List.take (f*1) g) f false true (fun q ah ai aa aj=>(K [(.bool (decide (z<0))),(.imm (List.take (p*1) z2) p 1 false false),(.imm (List.take (q*1) aa) q 1 false false)]))))) (K [(.bool (decide (z<0))),(.imm (Ad (dig z.natAbs)) (dig z.natAbs).length 1 false false),(.imm (Ad (dig (val l))) (dig (val l)).length 1 false false)]))) none) (D0 N (Ad (dig z.natAbs)) (dig z.natAbs).length false true (List.take (f*1) g) f false true (fun r ak al ab am=>(D0 N (Ad (dig (val l))) (dig (val l)).length false true (List.take (f*1) g) f false true (fun s an ao ac ap=>(K [(.bool (decide (z<0))),(.imm (List.take (r*1) ab) r 1 false false),(.imm (List.take (s*1) ac) s 1 false false)])))))))):=by
    intro K
    rw [Axn];unfold A0j A0i
    have tk:∀ v:Nat,List.take ((dig v).length*1) (Ad (dig v))=Ad (dig v):=fun v=>Df (Ab _) (Ag v)
    rw [Rx,Ne,show Nat.beq (List.length (Id neg s)) 2=true by rfl,ct,ofA,Bte (s1:=.of s.l false o) hs (hf.le (by simp [LS.l];omega)),show Ap neg (.of s.l false o)=z by rw [← hz];rfl,Av0 hn hl (hf.le (by omega)),tk,tk]
  by_cases h0:z=0
  · refine ⟨⟨false,.nil,.of [1] false false⟩,?_,fun K=>?_⟩
    · rw [h0];simp only [Rat.zero_mkRat]
      exact ⟨rfl,rfl,Zi.symm⟩
    · rw [start,h0];rfl
  · have hz0:z.natAbs≠0:=by omega
    have hlen:(dig z.natAbs).length≠0:=fun h=>hz0 (Bj.1 h)
    have hg0:0<Nat.gcd z.natAbs (val l):=Nat.gcd_pos_of_pos_right _ (by omega)
    have lz:(dig z.natAbs).length≤s.l.length:=by rw [hna];exact ls
    obtain ⟨G,g1,g2,g3⟩:=Bw2 (R:=R) (N:=N) (a:=dig z.natAbs) (b:=dig (val l)) (t:=false) (o:=true) (t':=false) (o':=true) rfl rfl (Ab _) (Ab _) (hf.le (by omega))
    rw [Ag,Ag] at g2 g3
    have lg:(dig (Nat.gcd z.natAbs (val l))).length≤l.length:=Nat.le_trans (Bp (Nat.gcd_le_right _ (by omega))) ll
    obtain ⟨Q1,R1,a1,a2,a3,a4,a5⟩:=Ats (R:=R) (N:=N) (a:=dig z.natAbs) (b:=dig (Nat.gcd z.natAbs (val l))) (t:=false) (o:=true) (t':=false) (o':=true) rfl rfl (Ab _) (Ab _) (by rw [Ag];omega) (hf.le (by omega))
    obtain ⟨Q2,R2,b1,b2,b3,b4,b5⟩:=Ats (R:=R) (N:=N) (a:=dig (val l)) (b:=dig (Nat.gcd z.natAbs (val l))) (t:=false) (o:=true) (t':=false) (o':=true) rfl rfl (Ab _) (Ab _) (by rw [Ag];omega) (hf.le (by omega))
    rw [Ag,Ag] at a2 a5 b2 b5
    have hn2:decide (z<0)=decide ((mkRat z (val l)).num<0):=by congr 1;exact propext m2.symm
    refine ⟨⟨decide (z<0),.of (dig (z.natAbs/Nat.gcd z.natAbs (val l))) false false,.of (dig (val l/Nat.gcd z.natAbs (val l))) false false⟩,⟨hn2,by rw [m1];rfl,by rw [m3];rfl⟩,fun K=>?_⟩
    rw [start,i0F hlen,cf,g3,Df g1 g2]
    by_cases hl1:(dig (Nat.gcd z.natAbs (val l))).length=1
    · rw [show ((((((dig (Nat.gcd z.natAbs (val l))).length:Nat):Int) != (1:Int))==false))=true by rw [hl1];rfl,ct,show Am 0 (dig (Nat.gcd z.natAbs (val l))).length=true by rw [hl1];rfl,ct,Bx7 g1 g2 hl1]
      by_cases he:Nat.gcd z.natAbs (val l)=1
      · rw [he,show (cond false true (((1:Nat):Int) != 1))=false by rfl,cf,Nat.div_one,Nat.div_one];rfl
      · rw [show (cond false true (((Nat.gcd z.natAbs (val l):Nat):Int) != 1))=true by (show (((Nat.gcd z.natAbs (val l):Nat):Int) != 1)=true;rw [bne_iff_ne];omega),ct,a5,b5,Df a1 a2,Df b1 b2];rfl
    · rw [show ((((((dig (Nat.gcd z.natAbs (val l))).length:Nat):Int) != (1:Int))==false))=false by (rw [show ((((dig (Nat.gcd z.natAbs (val l))).length:Nat):Int) != (1:Int))=true by rw [bne_iff_ne];omega];rfl),cf,a5,b5,Df a1 a2,Df b1 b2];rfl
theorem Anp {N:Nat} {x:RatD} {o:Bool} (hx:x.ok) (hf:fit (4*x.m+10) N):∃ d:RatD,d.can x.q∧∀ K:LA→Option R,Aea N x.av o K=K d.av:=by
  have h1:=hf.1
  rcases G4 (R:=R) (N:=N) (o:=o) hx (hf.le (by omega)) with ⟨n,d,n1,n2,d1,d2,e,hK⟩ | hK
  · obtain ⟨c,c1,c2⟩:=Aha (R:=R) (N:=N) (s:=n) (b:=d) (by omega) d1 (by omega) (by omega)
    rw [e] at c1
    refine ⟨c,c1,fun K=>?_⟩
    rw [Ars];unfold A3y A3x
    rw [Gu,ct,Cs,hK,ct,c2];rfl
  · obtain ⟨neg,s,l,o1,o2,p1,p2,p3,p4,p5,p6,p7⟩:=Lk (R:=R) (N:=N) (o:=o) hx (hf.le (by omega))
    obtain ⟨c,c1,c2⟩:=Afp (R:=R) (N:=N) (neg:=neg) (s:=s) (l:=l) (n:=l.length) (o:=o1) (t:=false) (o':=o2) rfl p1 p2 p3 (hf.le (by omega))
    rw [p6] at c1
    refine ⟨c,c1,fun K=>?_⟩
    rw [Ars];unfold A3y A3x
    rw [Gu,ct,Cs,hK,cf,ct,p7,c2];rfl
def Xc (x y:Rat):Int:=if x<y then -1 else if y<x then 1 else 0
theorem Buk {d:Nat} (h:0<d):(0:Rat)<(d:Rat):=Rat.natCast_pos.2 h
theorem Bul {a c:Int} {b d:Nat} (hb:0<b) (hd:0<d):mkRat a b<mkRat c d↔a*d<c*b:=by
  rw [Rat.mkRat_eq_div,Rat.mkRat_eq_div,Rat.div_lt_iff (Buk hb)]
  have e:(c:Rat)/(d:Rat)*(b:Rat)=(c*b:Rat)/(d:Rat):=by rw [Rat.div_def,Rat.div_def,Rat.mul_assoc,Rat.mul_assoc,Rat.mul_comm (d:Rat)⁻¹]
  rw [e,Rat.lt_div_iff (Buk hd)]
  have e1:(a:Rat)*(d:Rat)=((a*d:Int):Rat):=by rw [Rat.intCast_mul];rfl
  have e2:(c:Rat)*(b:Rat)=((c*b:Int):Rat):=by rw [Rat.intCast_mul];rfl
  rw [e1,e2,Rat.intCast_lt_intCast]
theorem Bum {a c:Int} {b d:Nat} (hb:0<b) (hd:0<d):Xc (mkRat a b) (mkRat c d)=A5p (a*d) (c*b):=by
  unfold Xc A5p
  by_cases h:a*d<c*b
  · rw [if_pos h,if_pos ((Bul hb hd).2 h)]
  · rw [if_neg h,if_neg (fun hh=>h ((Bul hb hd).1 hh))]
    by_cases h2:c*b<a*d
    · rw [if_pos h2,if_pos ((Bul hd hb).2 h2)]
    · rw [if_neg h2,if_neg (fun hh=>h2 ((Bul hd hb).1 hh))]
theorem Bro {N:Nat} {a b:Int} {K:Int→Option R}:Jh N a b K=K (A5p a b):=by
  rw [Xl];unfold S6 S5
  rw [Ad1];unfold Aba Aa9
  rw [show (a != a)=false by simp,show (b != b)=false by simp]
  dsimp only
  rw [cf,cf]
  unfold A5p
  by_cases h:a<b
  · rw [decide_eq_true h,ct,if_pos h]
  · rw [decide_eq_false h,cf,if_neg h]
    by_cases h2:b<a
    · rw [decide_eq_true (show a>b from h2),ct,if_pos h2]
    · rw [decide_eq_false (show ¬ a>b from h2),cf,if_neg h2]
theorem Bkt {N:Nat} {a b:Int} {K:Int→Option R}:Gn N a b K=K (A5p a b):=by
  rw [R8];unfold Oz Oy
  rw [Xm];unfold S9 S8
  rw [show (a != a)=false by simp,show (b != b)=false by simp]
  dsimp only
  rw [cf,cf]
  unfold A5p
  by_cases h:a<b
  · rw [decide_eq_true h,ct,if_pos h]
  · rw [decide_eq_false h,cf,if_neg h]
    by_cases h2:b<a
    · rw [decide_eq_true (show a>b from h2),ct,if_pos h2]
    · rw [decide_eq_false (show ¬ a>b from h2),cf,if_neg h2]
theorem Bw9 {p q:Rat} (h:p.num.sign<q.num.sign):p<q:=by
  rw [Rat.lt_iff]
  have hp:=p.den_pos;have hq:=q.den_pos
  rcases Int.lt_trichotomy p.num 0 with h1 | h1 | h1
  · rcases Int.lt_or_le q.num 0 with h2 | h2
    · rw [Int.sign_eq_neg_one_of_neg h1,Int.sign_eq_neg_one_of_neg h2] at h;omega
    · have x1:p.num*q.den<0:=Int.mul_neg_of_neg_of_pos h1 (by omega)
      have x2:0≤q.num*p.den:=Int.mul_nonneg h2 (by omega)
      omega
  · rw [h1] at h ⊢
    have:0<q.num:=by simpa using h
    have x2:0<q.num*p.den:=Int.mul_pos this (by omega)
    rw [Int.zero_mul];exact x2
  · rw [Int.sign_eq_one_of_pos h1] at h
    have:=Int.sign_trichotomy q.num
    omega
theorem Anq {a b:Int} (h1:-2147483648<a∧a<2147483648) (h2:-2147483648<b∧b<2147483648):-4611686018427387904<a*b∧a*b<4611686018427387904:=by
  have h3:a.natAbs*b.natAbs≤2147483647*2147483647:=Nat.mul_le_mul (by omega) (by omega)
  rw [← Int.natAbs_mul] at h3
  omega
theorem Ahb {N:Nat} {x y:RatD} {o o':Bool} {K:Int→Option R} (hx:x.ok) (hy:y.ok) (hf:fit (4*(x.m+y.m)+10) N):G0 N x.av o y.av o' K=K (Xc x.q y.q):=by
  have h1:=hf.1
  rw [Arb];unfold Ara Aq9
  rw [Gu,ct,Cs,Ll hx (hf.le (by omega)),Gu,ct,Cs,Ll hy (hf.le (by omega))]
  by_cases hs:x.q.num.sign=y.q.num.sign
  · rw [show (x.q.num.sign != y.q.num.sign)=false by simp [hs],cf,ct]
    have gen:Uy N K o x.av o' y.av=K (Xc x.q y.q):=by
      obtain ⟨n1,s1,l1,a1,b1,p1,p2,p3,p4,p5,p6,p7⟩:=Lk (R:=R) (N:=N) (o:=o) hx (hf.le (by omega))
      obtain ⟨n2,s2,l2,a2,b2,q1,q2,q3,q4,q5,q6,q7⟩:=Lk (R:=R) (N:=N) (o:=o') hy (hf.le (by omega))
      obtain ⟨S1,t1,t2,t3⟩:=Aiv (R:=R) (N:=N) (n1:=n1) (n2:=false) (s1:=s1) (s2:=.of l2 false b2) (o1:=a1) (o2:=(b2||false)) p1 q2 (hf.le (show s1.l.length+l2.length≤_ by omega))
      obtain ⟨S2,u1,u2,u3⟩:=Aiv (R:=R) (N:=N) (n1:=n2) (n2:=false) (s1:=s2) (s2:=.of l1 false b1) (o1:=a2) (o2:=(b1||false)) q1 p2 (hf.le (show s2.l.length+l1.length≤_ by omega))
      have v1:Ap false (.of l2 false b2)=(val l2:Int):=rfl
      have v2:Ap false (.of l1 false b1)=(val l1:Int):=rfl
      rw [v1] at t2 t3;rw [v2] at u2 u3
      have l1':(dig (Ap n1 s1*(val l2:Int)).natAbs).length≤x.m+max y.m 1:=Nat.le_trans (Ch (by
        rw [Int.natAbs_mul,Ca,Int.natAbs_natCast,Nat.pow_add]
        exact Nat.mul_lt_mul'' (Nat.lt_of_lt_of_le (Bc p1) (Nat.pow_le_pow_right (by omega) p4)) (Nat.lt_of_lt_of_le (Bc q2) (Nat.pow_le_pow_right (by omega) q5)))) (Nat.le_refl _)
      have l2':(dig (Ap n2 s2*(val l1:Int)).natAbs).length≤y.m+max x.m 1:=Nat.le_trans (Ch (by
        rw [Int.natAbs_mul,Ca,Int.natAbs_natCast,Nat.pow_add]
        exact Nat.mul_lt_mul'' (Nat.lt_of_lt_of_le (Bc q1) (Nat.pow_le_pow_right (by omega) q4)) (Nat.lt_of_lt_of_le (Bc p2) (Nat.pow_le_pow_right (by omega) p5)))) (Nat.le_refl _)
      unfold Uy Abk
      rw [Gu,ct,Cs,p7,Ax7,ct,Gu,ct,Cs,q7,Ax7,ct,A14,ct,tk2,ofA,t3,A14,ct,tk2,ofA,u3,Df t1 t2,Df u1 u2,ofA,ofA,Bkr (s1:=.of (dig (Ap n1 s1*(val l2:Int)).natAbs) false true) (s2:=.of (dig (Ap n2 s2*(val l1:Int)).natAbs) false true) (Ab _) (Ab _) (hf.le (show (dig (Ap n1 s1*(val l2:Int)).natAbs).length+(dig (Ap n2 s2*(val l1:Int)).natAbs).length≤_ by omega)),Hh,Hh,← p6,← q6,Bum (by omega) (by omega)]
    rcases G4 (R:=R) (N:=N) (o:=o) hx (hf.le (by omega)) with ⟨n,d,n1,n2,d1,d2,e,hK⟩ | hK
    · rcases G4 (R:=R) (N:=N) (o:=o') hy (hf.le (by omega)) with ⟨n',d',n1',n2',d1',d2',e',hK'⟩ | hK'
      · have b1:=Anq (a:=n) (b:=(d':Int)) ⟨n1,n2⟩ (by omega)
        have b2:=Anq (a:=n') (b:=(d:Int)) ⟨n1',n2'⟩ (by omega)
        rw [hK,ct,hK',show ((true:Bool)==true)=true by rfl,ct,ctB,ct,Bkt,i64 (by omega),i64 (by omega),← e,← e',Bum d1 d1']
      · rw [hK,ct,hK',show ((true:Bool)==true)=true by rfl,ct,ctB,cf,gen]
    · rcases G4 (R:=R) (N:=N) (o:=o') hy (hf.le (by omega)) with ⟨n',d',n1',n2',d1',d2',e',hK'⟩ | hK'
      · rw [hK,ct,hK',show ((false:Bool)==true)=false by rfl,cf,gen]
      · rw [hK,ct,hK',show ((false:Bool)==true)=false by rfl,cf,gen]
  · rw [show (x.q.num.sign != y.q.num.sign)=true by simp [hs],ct,Bro]
    congr 1
    unfold A5p Xc
    by_cases h:x.q.num.sign<y.q.num.sign
    · rw [if_pos h,if_pos (Bw9 h)]
    · have h2:y.q.num.sign<x.q.num.sign:=by omega
      have:=Bw9 h2
      rw [if_neg h,if_pos h2,if_neg (fun hh=>absurd (Rat.le_of_lt this) (Rat.not_le.2 hh)),if_pos this]
end
end Gx

namespace Gx
open Go Go.Proofs
section
variable {R:Type}
theorem Brp {q:Rat} (h:q.num.sign=0):q=0:=Rat.num_eq_zero.1 (Int.sign_eq_zero_iff_zero.1 h)
theorem H8 {a b:Int} {k l:Nat} (ha:a.natAbs<4294967296 ^ k) (hb:b.natAbs<4294967296 ^ l):(a*b).natAbs<4294967296 ^ (k+l):=by
  rw [Int.natAbs_mul,Nat.pow_add];exact Nat.mul_lt_mul'' ha hb
theorem A5q {a b:Int} {k:Nat} (ha:a.natAbs<4294967296 ^ k) (hb:b.natAbs<4294967296 ^ k):(a+b).natAbs<4294967296 ^ (k+1):=by
  rw [Nat.pow_succ];omega
theorem Fy {k l:Nat} (h:k≤l):4294967296 ^ k≤4294967296 ^ l:=Nat.pow_le_pow_right (by omega) h
theorem Bxa {v k:Nat} (h:(dig v).length≤k):v<4294967296 ^ k:=by
  have:=Bc (Ab v);rw [Ag] at this
  exact Nat.lt_of_lt_of_le this (Fy h)
theorem Brq (p r:Int) (d:Nat) (hd:d≠0):mkRat (p+r) d=mkRat p d+mkRat r d:=by
  rw [Rat.mkRat_add_mkRat _ _ hd hd,← Int.add_mul]
  exact (Rat.mkRat_mul_right hd).symm
theorem Bx8 {N:Nat} {x y:RatD} {o o':Bool} (hx:x.ok) (hy:y.ok) (hf:fit (8*(x.m+y.m)+40) N):∃ d:RatD,d.can (x.q+y.q)∧∀ K:LA→Option R,Aih N K o x.av o' y.av=K d.av:=by
  obtain ⟨n1,s1,l1,a1,b1,p1,p2,p3,p4,p5,p6,p7⟩:=Lk (R:=R) (N:=N) (o:=o) hx (hf.le (by omega))
  obtain ⟨n2,s2,l2,a2,b2,q1,q2,q3,q4,q5,q6,q7⟩:=Lk (R:=R) (N:=N) (o:=o') hy (hf.le (by omega))
  have zl1:(Ap n1 s1).natAbs<4294967296 ^ x.m:=by rw [Ca];exact Nat.lt_of_lt_of_le (Bc p1) (Fy p4)
  have zl2:(Ap n2 s2).natAbs<4294967296 ^ y.m:=by rw [Ca];exact Nat.lt_of_lt_of_le (Bc q1) (Fy q4)
  have dl1:((val l1:Nat):Int).natAbs<4294967296 ^ (x.m+1):=by rw [Int.natAbs_natCast];exact Nat.lt_of_lt_of_le (Bc p2) (Fy (by omega))
  have dl2:((val l2:Nat):Int).natAbs<4294967296 ^ (y.m+1):=by rw [Int.natAbs_natCast];exact Nat.lt_of_lt_of_le (Bc q2) (Fy (by omega))
  by_cases he:val l1=val l2
  · obtain ⟨S,t1,t2,t3⟩:=Bmy (R:=R) (N:=N) (n1:=n1) (n2:=n2) (s1:=s1) (s2:=s2) (o1:=a1) (o2:=a2) p1 q1 (hf.le (by omega))
    have lz:(dig (Ap n1 s1+Ap n2 s2).natAbs).length≤x.m+y.m+1:=Ch (A5q (k:=x.m+y.m) (Nat.lt_of_lt_of_le zl1 (Fy (by omega))) (Nat.lt_of_lt_of_le zl2 (Fy (by omega))))
    obtain ⟨c,c1,c2⟩:=Afp (R:=R) (N:=N) (neg:=decide (Ap n1 s1+Ap n2 s2<0)) (s:=.of (dig (Ap n1 s1+Ap n2 s2).natAbs) false true) (l:=l1) (n:=l1.length) (o:=true) (t:=false) (o':=b1) rfl (Ab _) p2 p3 (hf.le (show 2*((dig (Ap n1 s1+Ap n2 s2).natAbs).length+l1.length)+8≤_ by omega))
    rw [Hh,Brq _ _ _ p3,p6] at c1
    rw [show mkRat (Ap n2 s2) (val l1)=y.q by rw [he,q6]] at c1
    refine ⟨c,c1,fun K=>?_⟩
    unfold Aih Alh
    rw [Gu,ct,Cs,p7,Ax7,ct,Gu,ct,Cs,q7,Ax7,ct,Pq rfl rfl p2 q2 (hf.le (by omega)),he,Z7,show ((0:Int)==0)=true by rfl,ct,A14,ct,A14,ct,tk2,tk2,t3,Df t1 t2,ofA,c2];rfl
  · obtain ⟨S1,t1,t2,t3⟩:=Aiv (R:=R) (N:=N) (n1:=n1) (n2:=false) (s1:=s1) (s2:=.of l2 false b2) (o1:=a1) (o2:=(b2||false)) p1 q2 (hf.le (show s1.l.length+l2.length≤_ by omega))
    obtain ⟨S2,u1,u2,u3⟩:=Aiv (R:=R) (N:=N) (n1:=n2) (n2:=false) (s1:=s2) (s2:=.of l1 false b1) (o1:=a2) (o2:=(b1||false)) q1 p2 (hf.le (show s2.l.length+l1.length≤_ by omega))
    rw [show Ap false (.of l2 false b2)=(val l2:Int) by rfl] at t2 t3
    rw [show Ap false (.of l1 false b1)=(val l1:Int) by rfl] at u2 u3
    have z1:=H8 zl1 dl2
    have z2:=H8 zl2 dl1
    have L1:=Ch z1
    have L2:=Ch z2
    obtain ⟨S3,w1,w2,w3⟩:=Bmy (R:=R) (N:=N) (n1:=decide (Ap n1 s1*(val l2:Int)<0)) (n2:=decide (Ap n2 s2*(val l1:Int)<0)) (s1:=.of (dig (Ap n1 s1*(val l2:Int)).natAbs) false true) (s2:=.of (dig (Ap n2 s2*(val l1:Int)).natAbs) false true) (o1:=true) (o2:=true) (Ab _) (Ab _) (hf.le (show (dig (Ap n1 s1*(val l2:Int)).natAbs).length+(dig (Ap n2 s2*(val l1:Int)).natAbs).length+1≤_ by omega))
    rw [Hh,Hh] at w2 w3
    obtain ⟨S4,v1,v2,v3⟩:=Atp (R:=R) (N:=N) (a:=l1) (b:=l2) (t:=false) (o:=b1) (t':=false) (o':=b2) rfl rfl p2 q2 (hf.le (by omega))
    have z3:=A5q (k:=x.m+y.m+1) (Nat.lt_of_lt_of_le z1 (Fy (by omega))) (Nat.lt_of_lt_of_le z2 (Fy (by omega)))
    have L3:=Ch z3
    have z4:val l1*val l2<4294967296 ^ (x.m+1+(y.m+1)):=by
      have:=H8 dl1 dl2;rw [Int.natAbs_mul,Int.natAbs_natCast,Int.natAbs_natCast] at this;exact this
    have L4:=Ch z4
    obtain ⟨c,c1,c2⟩:=Afp (R:=R) (N:=N) (neg:=decide (Ap n1 s1*(val l2:Int)+Ap n2 s2*(val l1:Int)<0)) (s:=.of (dig (Ap n1 s1*(val l2:Int)+Ap n2 s2*(val l1:Int)).natAbs) false true) (l:=dig (val l1*val l2)) (n:=(dig (val l1*val l2)).length) (o:=true) (t:=false) (o':=true) rfl (Ab _) (Ab _) (by rw [Ag];exact Nat.mul_ne_zero p3 q3) (hf.le (show 2*((dig (Ap n1 s1*(val l2:Int)+Ap n2 s2*(val l1:Int)).natAbs).length+(dig (val l1*val l2)).length)+8≤_ by omega))
    rw [Hh,Ag,← Rat.mkRat_add_mkRat _ _ p3 q3,p6,q6] at c1
    refine ⟨c,c1,fun K=>?_⟩
    unfold Aih Alh
    have hc:(F6 (val l1) (val l2)==0)=false:=by
      rw [beq_eq_false_iff_ne];unfold F6;split
      · omega
      · rw [if_pos (by omega)];omega
    rw [Gu,ct,Cs,p7,Ax7,ct,Gu,ct,Cs,q7,Ax7,ct,Pq rfl rfl p2 q2 (hf.le (by omega)),hc,cf,A14,ct,tk2,ofA,t3,A14,ct,tk2,ofA,u3,Df t1 t2,Df u1 u2,ofA,ofA,w3,v3,Df w1 w2,Df v1 v2,ofA,c2];rfl
theorem Bm0 {N:Nat} {x y:RatD} {o o':Bool} (hx:x.ok) (hy:y.ok) (hf:fit (8*(x.m+y.m)+40) N):∃ d:RatD,d.can (x.q+y.q)∧∀ K:LA→Option R,Art N x.av o y.av o' K=K d.av:=by
  have h1:=hf.1
  by_cases hz:x.q.num.sign=0
  · obtain ⟨c,c1,c2⟩:=Anp (R:=R) (N:=N) (o:=o') hy (hf.le (by omega))
    refine ⟨c,by rw [Brp hz,Rat.zero_add];exact c1,fun K=>?_⟩
    rw [Alj];unfold A33 A32
    rw [Gu,ct,Cs,Ll hx (hf.le (by omega)),hz,show ((0:Int)==0)=true by rfl,ct,Gu,ct,Cs,c2];rfl
  · have hzb:(x.q.num.sign==0)=false:=by rw [beq_eq_false_iff_ne];exact hz
    by_cases hw:y.q.num.sign=0
    · obtain ⟨c,c1,c2⟩:=Anp (R:=R) (N:=N) (o:=o) hx (hf.le (by omega))
      refine ⟨c,by rw [Brp hw,Rat.add_zero];exact c1,fun K=>?_⟩
      rw [Alj];unfold A33 A32
      rw [Gu,ct,Cs,Ll hx (hf.le (by omega)),hzb,cf,Gu,ct,Cs,Ll hy (hf.le (by omega)),hw,show ((0:Int)==0)=true by rfl,ct,ct,c2];rfl
    · have hwb:(y.q.num.sign==0)=false:=by rw [beq_eq_false_iff_ne];exact hw
      have start:∀ K:LA→Option R,Art N x.av o y.av o' K=Fq N x.av o (fun g e aw=>Fq N y.av o' (fun i f ax=>(cond (aw==true) (Tr N K g e i f o x.av o' y.av (cond true ax false)) (Tr N K g e i f o x.av o' y.av false)))):=by
        intro K
        rw [Alj];unfold A33 A32
        rw [Gu,ct,Cs,Ll hx (hf.le (by omega)),hzb,cf,Gu,ct,Cs,Ll hy (hf.le (by omega)),hwb,cf,ct];rfl
      have gen:∃ d:RatD,d.can (x.q+y.q)∧∀ (K:LA→Option R) (g e i f:Int),Tr N K g e i f o x.av o' y.av false=K d.av:=by
        obtain ⟨c,c1,c2⟩:=Bx8 (R:=R) (N:=N) (o:=o) (o':=o') hx hy hf
        exact ⟨c,c1,fun K g e i f=>by unfold Tr Ali;rw [cf,c2]⟩
      rcases G4 (R:=R) (N:=N) (o:=o) hx (hf.le (by omega)) with ⟨n,d,n1,n2,d1,d2,e,hK⟩ | hK
      · rcases G4 (R:=R) (N:=N) (o:=o') hy (hf.le (by omega)) with ⟨n',d',n1',n2',d1',d2',e',hK'⟩ | hK'
        · have b1:=Anq (a:=n) (b:=(d':Int)) ⟨n1,n2⟩ (by omega)
          have b2:=Anq (a:=n') (b:=(d:Int)) ⟨n1',n2'⟩ (by omega)
          have b3:=Anq (a:=(d:Int)) (b:=(d':Int)) (by omega) (by omega)
          have b4:((d*d':Nat):Int)=(d:Int)*(d':Int):=by simp
          obtain ⟨c,c1,c2⟩:=Aha (R:=R) (N:=N) (s:=n*d'+n'*d) (b:=d*d') (by omega) (Nat.mul_pos d1 d1') (by omega) (by omega)
          rw [← Rat.mkRat_add_mkRat _ _ (by omega) (by omega),e,e'] at c1
          refine ⟨c,c1,fun K=>?_⟩
          rw [start,hK,hK',show ((true:Bool)==true)=true by rfl,ct,ctB]
          unfold Tr Ali
          rw [ct,i64 (a:=n*(d':Int)) (by omega),i64 (a:=n'*(d:Int)) (by omega),i64 (by omega),i64 (by omega),← b4,c2];rfl
        · obtain ⟨c,c1,c2⟩:=gen
          refine ⟨c,c1,fun K=>?_⟩
          rw [start,hK,hK',show ((true:Bool)==true)=true by rfl,ct,ctB,c2]
      · obtain ⟨c,c1,c2⟩:=gen
        refine ⟨c,c1,fun K=>?_⟩
        rw [start,hK]
        rcases G4 (R:=R) (N:=N) (o:=o') hy (hf.le (by omega)) with ⟨n',d',n1',n2',d1',d2',e',hK'⟩ | hK'
        · rw [hK',show ((false:Bool)==true)=false by rfl,cf,c2]
        · rw [hK',show ((false:Bool)==true)=false by rfl,cf,c2]
theorem Brr (n:Bool) (s:LS):Ap (!n) s=-Ap n s:=by unfold Ap;cases n<;>simp
theorem Bm1 {N:Nat} {x y:RatD} {o o':Bool} (hx:x.ok) (hy:y.ok) (hf:fit (8*(x.m+y.m)+40) N):∃ d:RatD,d.can (x.q - y.q)∧∀ K:LA→Option R,Aru N x.av o y.av o' K=K d.av:=by
  obtain ⟨c,c1,c2⟩:=Bm0 (R:=R) (N:=N) (x:=⟨x.neg,.of x.ns.l false o,.of x.ds.l false o⟩) (y:=⟨!y.neg,.of y.ns.l false o',.of y.ds.l false o'⟩) (o:=(o||(o||false))) (o':=(o'||(o'||false))) hx hy hf
  have e1:RatD.q ⟨x.neg,.of x.ns.l false o,.of x.ds.l false o⟩=x.q:=rfl
  have e2:RatD.q ⟨!y.neg,.of y.ns.l false o',.of y.ds.l false o'⟩=-y.q:=by
    show mkRat (Ap (!y.neg) (.of y.ns.l false o')) (val y.ds.l)=_
    rw [Brr,← Rat.neg_mkRat];rfl
  rw [e1,e2,← Rat.sub_eq_add_neg] at c1
  refine ⟨c,c1,fun K=>?_⟩
  rw [Bgv];unfold Bop Boo
  rw [Bzb,Bw7,Bjf,Bzt,ct,Bzb,Bw7,Bjf,Bzt,ct]
  exact (c2 _).trans rfl
theorem Bx9 {N:Nat} {x y:RatD} {o o':Bool} (hx:x.ok) (hy:y.ok) (hf:fit (8*(x.m+y.m)+40) N):∃ d:RatD,d.can (x.q*y.q)∧∀ K:LA→Option R,Avi N K o x.av o' y.av=K d.av:=by
  obtain ⟨n1,s1,l1,a1,b1,p1,p2,p3,p4,p5,p6,p7⟩:=Lk (R:=R) (N:=N) (o:=o) hx (hf.le (by omega))
  obtain ⟨n2,s2,l2,a2,b2,q1,q2,q3,q4,q5,q6,q7⟩:=Lk (R:=R) (N:=N) (o:=o') hy (hf.le (by omega))
  have zl1:(Ap n1 s1).natAbs<4294967296 ^ x.m:=by rw [Ca];exact Nat.lt_of_lt_of_le (Bc p1) (Fy p4)
  have zl2:(Ap n2 s2).natAbs<4294967296 ^ y.m:=by rw [Ca];exact Nat.lt_of_lt_of_le (Bc q1) (Fy q4)
  have dl1:((val l1:Nat):Int).natAbs<4294967296 ^ (x.m+1):=by rw [Int.natAbs_natCast];exact Nat.lt_of_lt_of_le (Bc p2) (Fy (by omega))
  have dl2:((val l2:Nat):Int).natAbs<4294967296 ^ (y.m+1):=by rw [Int.natAbs_natCast];exact Nat.lt_of_lt_of_le (Bc q2) (Fy (by omega))
  obtain ⟨S1,t1,t2,t3⟩:=Aiv (R:=R) (N:=N) (n1:=n1) (n2:=n2) (s1:=s1) (s2:=s2) (o1:=a1) (o2:=a2) p1 q1 (hf.le (by omega))
  have L1:=Ch (H8 zl1 zl2)
  obtain ⟨S4,v1,v2,v3⟩:=Atp (R:=R) (N:=N) (a:=l1) (b:=l2) (t:=false) (o:=b1) (t':=false) (o':=b2) rfl rfl p2 q2 (hf.le (by omega))
  have z4:val l1*val l2<4294967296 ^ (x.m+1+(y.m+1)):=by
    have:=H8 dl1 dl2;rw [Int.natAbs_mul,Int.natAbs_natCast,Int.natAbs_natCast] at this;exact this
  have L4:=Ch z4
  obtain ⟨c,c1,c2⟩:=Afp (R:=R) (N:=N) (neg:=decide (Ap n1 s1*Ap n2 s2<0)) (s:=.of (dig (Ap n1 s1*Ap n2 s2).natAbs) false true) (l:=dig (val l1*val l2)) (n:=(dig (val l1*val l2)).length) (o:=true) (t:=false) (o':=true) rfl (Ab _) (Ab _) (by rw [Ag];exact Nat.mul_ne_zero p3 q3) (hf.le (show 2*((dig (Ap n1 s1*Ap n2 s2).natAbs).length+(dig (val l1*val l2)).length)+8≤_ by omega))
  rw [Hh,Ag,← Rat.mkRat_mul_mkRat,p6,q6] at c1
  refine ⟨c,c1,fun K=>?_⟩
  unfold Avi A0q
  rw [Gu,ct,Cs,p7,Ax7,ct,Gu,ct,Cs,q7,Ax7,ct,A14,ct,A14,ct,tk2,tk2,t3,v3,Df t1 t2,Df v1 v2,ofA,c2];rfl
theorem Bvt {N:Nat} {x y:RatD} {o o':Bool} (hx:x.ok) (hy:y.ok) (hf:fit (8*(x.m+y.m)+40) N):∃ d:RatD,d.can (x.q*y.q)∧∀ K:LA→Option R,A71 N x.av o y.av o' K=K d.av:=by
  have h1:=hf.1
  obtain ⟨g,g1,g2⟩:=Bx9 (R:=R) (N:=N) (o:=o) (o':=o') hx hy hf
  rcases G4 (R:=R) (N:=N) (o:=o) hx (hf.le (by omega)) with ⟨n,d,n1,n2,d1,d2,e,hK⟩ | hK
  · rcases G4 (R:=R) (N:=N) (o:=o') hy (hf.le (by omega)) with ⟨n',d',n1',n2',d1',d2',e',hK'⟩ | hK'
    · have b1:=Anq (a:=n) (b:=n') ⟨n1,n2⟩ ⟨n1',n2'⟩
      have b3:=Anq (a:=(d:Int)) (b:=(d':Int)) (by omega) (by omega)
      have b4:((d*d':Nat):Int)=(d:Int)*(d':Int):=by simp
      obtain ⟨c,c1,c2⟩:=Aha (R:=R) (N:=N) (s:=n*n') (b:=d*d') (by omega) (Nat.mul_pos d1 d1') (by omega) (by omega)
      rw [← Rat.mkRat_mul_mkRat,e,e'] at c1
      refine ⟨c,c1,fun K=>?_⟩
      rw [Aln];unfold A36 A35
      rw [Gu,ct,Cs,hK,Gu,ct,Cs,hK',show ((true:Bool)==true)=true by rfl,ct,ctB,ct,i64 (by omega),i64 (by omega),← b4,c2];rfl
    · refine ⟨g,g1,fun K=>?_⟩
      rw [Aln];unfold A36 A35
      rw [Gu,ct,Cs,hK,Gu,ct,Cs,hK',show ((true:Bool)==true)=true by rfl,ct,ctB,cf,g2]
  · refine ⟨g,g1,fun K=>?_⟩
    rw [Aln];unfold A36 A35
    rcases G4 (R:=R) (N:=N) (o:=o') hy (hf.le (by omega)) with ⟨n',d',n1',n2',d1',d2',e',hK'⟩ | hK'
    · rw [Gu,ct,Cs,hK,Gu,ct,Cs,hK',show ((false:Bool)==true)=false by rfl,cf,g2]
    · rw [Gu,ct,Cs,hK,Gu,ct,Cs,hK',show ((false:Bool)==true)=false by rfl,cf,g2]
theorem A5r {a b:Rat}:Xc a b≤0↔a≤b:=by
  unfold Xc
  by_cases h:a<b
  · rw [if_pos h];exact ⟨fun _=>Rat.le_of_lt h,fun _=>by omega⟩
  · rw [if_neg h]
    by_cases h2:b<a
    · rw [if_pos h2];exact ⟨fun hh=>by omega,fun hh=>absurd hh (Rat.not_le.2 h2)⟩
    · rw [if_neg h2];exact ⟨fun _=>Rat.not_lt.1 h2,fun _=>by omega⟩
theorem Bvu {N:Nat} {x y:RatD} {o o':Bool} (hx:x.ok) (hy:y.ok) (hf:fit (8*(x.m+y.m)+40) N):∃ d:RatD,d.can (if x.q≤y.q then x.q else y.q)∧∀ K:LA→Option R,A7y N x.av o y.av o' K=K d.av:=by
  by_cases h:x.q≤y.q
  · obtain ⟨c,c1,c2⟩:=Anp (R:=R) (N:=N) (o:=o) hx (hf.le (by omega))
    refine ⟨c,by rw [if_pos h];exact c1,fun K=>?_⟩
    rw [A0p];unfold Bdo Bdn
    rw [Gu,ct,Gu,ct,Cs,Cs,Ahb hx hy (hf.le (by omega)),decide_eq_true (A5r.2 h),ct,ct,c2];rfl
  · obtain ⟨c,c1,c2⟩:=Anp (R:=R) (N:=N) (o:=o') hy (hf.le (by omega))
    refine ⟨c,by rw [if_neg h];exact c1,fun K=>?_⟩
    rw [A0p];unfold Bdo Bdn
    rw [Gu,ct,Gu,ct,Cs,Cs,Ahb hx hy (hf.le (by omega)),decide_eq_false (fun hh=>h (A5r.1 hh)),cf,ct,c2];rfl
end
end Gx

namespace Gx
open Go Go.Proofs
section
variable {R:Type}
def Ez (z:Int):List AV:=Id (decide (z<0)) (.of (dig z.natAbs) false false)
theorem A5s (z:Int) (K:LA→Option R):(cond ((Nat.beq 0 0)&&((Nat.beq (List.length (Ez z)) 2)&&(Nat.beq 2 2))) (cond (Nat.ble 2 (List.length (Ez z))) (K (List.take 2 (Ez z))) none) none)=K (Ez z):=rfl
theorem tkc (z:Int):List.take 2 (Ez z)=Ez z:=rfl
theorem Bz3 (z:Int):Nat.beq (List.length (Ez z)) 2=true:=rfl
theorem tkd (v:Nat):List.take ((dig v).length*1) (Ad (dig v))=Ad (dig v):=Df (Ab _) (Ag v)
theorem Fz {N:Nat} {neg:Bool} {l:List Nat} {n:Nat} {t o:Bool} {K:LA→Option R} (hn:n=l.length) (hl:Af l) (hf:fit l.length N):Es N neg (Ad l) n t o K=K (Ez (if neg then -(val l:Int) else (val l:Int))):=by
  obtain ⟨c1,c2⟩:=Z9 (z:=if neg then -(val l:Int) else (val l:Int)) (c:=neg) (m:=val l) rfl
  rw [A2w];unfold A6j A6i
  rw [Cr hn hl hf,tkd]
  unfold Ez
  rw [← c1,c2]
  cases neg
  · rfl
  · rw [show ((true:Bool)==true)=true by rfl,ct,ctB];simp [Id,LS.av]
theorem Vy {N:Nat} {v:Int} {K:LA→Option R} (hv:-9223372036854775808≤v∧v≤9223372036854775807) (hN:2000≤N):E3 N v K=K (Ez v):=by
  have hb:v.natAbs<18446744073709551616:=by omega
  have hl:=Zg hb
  rw [An5];unfold Ajm Ajl
  by_cases h:v<0
  · have e : IntKind.wrap .u64 (IntKind.wrap .u64 (IntKind.wrap .i64 ((0 : Int) - IntKind.wrap .i64 (v + 1))) + 1) = (v.natAbs : Int) := by
      rw [i64 (a:=v+1) (by omega),i64 (by omega),A10,A10];omega
    rw [decide_eq_true h,ct,e,Afo hb (by omega),tkd,Fz rfl (Ab _) ⟨by omega,by omega⟩,Ag]
    have:(if true=true then -(v.natAbs:Int) else (v.natAbs:Int))=v:=by rw [if_pos rfl];omega
    rw [this];exact A5s _ _
  · have e:IntKind.wrap .u64 v=(v.natAbs:Int):=by rw [A10];omega
    rw [decide_eq_false h,cf,e,Afo hb (by omega),tkd,Fz rfl (Ab _) ⟨by omega,by omega⟩,Ag]
    have:(if false=true then -(v.natAbs:Int) else (v.natAbs:Int))=v:=by rw [if_neg (by decide)];omega
    rw [this];exact A5s _ _
theorem A15 {N:Nat} {n:Bool} {s:LS} {o:Bool} {K:LA→Option R} (hs:Af s.l) (hf:fit s.l.length N):Aau N (Id n s) o K=K (Ez (Ap n s)):=by
  rw [A2x];unfold A6l A6k
  rw [Rx,Ne,Fz rfl hs hf];exact A5s _ _
theorem Bjg {N:Nat} {n:Bool} {s:LS} {o:Bool} {K:Int→Option R} (hs:Af s.l) (hf:fit s.l.length N):Aav N (Id n s) o K=K (Ap n s).sign:=by
  rw [A2y];unfold A6n A6m
  rw [A14,ct,tk2,A15 hs hf,Bz3,show ((true&&(true&&(!false))))=true by rfl,ct]
  have e:setCells (Id n s) 0 (Ez (Ap n s))=Ez (Ap n s):=rfl
  rw [e]
  generalize Ap n s=z
  unfold Ez
  rw [Rx]
  rcases Int.lt_trichotomy z 0 with h | h | h
  · rw [decide_eq_true h,ct,Int.sign_eq_neg_one_of_neg h]
  · subst h;rfl
  · rw [decide_eq_false (by omega),cf,Ne]
    have:(dig z.natAbs).length≠0:=fun hh=>by have:=Bj.1 hh;omega
    simp only [LS.l]
    rw [i0F this,cf,Int.sign_eq_one_of_pos h]
theorem Bvv {N:Nat} {n:Bool} {s:LS} {o:Bool} {K:LA→Option R} (hs:Af s.l) (hf:fit s.l.length N):Yc N (Id n s) o K=K (Ez (-Ap n s)):=by
  rw [Bap];unfold Bfw Bfv
  rw [Rx,Ne,Fz rfl hs hf,← Brr];exact A5s _ _
theorem Btf {N:Nat} {n1 n2:Bool} {s1 s2:LS} {o1 o2:Bool} {K:LA→Option R} (h1:Af s1.l) (h2:Af s2.l) (hf:fit (s1.l.length+s2.l.length) N):Vf N (Id n1 s1) o1 (Id n2 s2) o2 K=K (Ez (Ap n1 s1*Ap n2 s2)):=by
  have hl:(dig (val s1.l*val s2.l)).length≤s1.l.length+s2.l.length:=Ch (by rw [Nat.pow_add];exact Nat.mul_lt_mul'' (Bc h1) (Bc h2))
  rw [Ba6];unfold Bhb Bha
  rw [Rx,Rx,Ne,Ne,Bvo rfl rfl h1 h2 hf,tkd,Fz rfl (Ab _) (hf.le hl),Ag]
  have hz:Ap n1 s1*Ap n2 s2=if (!(n1==n2)) then -((val s1.l*val s2.l:Nat):Int) else ((val s1.l*val s2.l:Nat):Int):=by
    unfold Ap;cases n1<;>cases n2<;>simp [Int.mul_neg,Int.neg_mul]
  rw [← hz];exact A5s _ _
theorem Btg {N:Nat} {n1 n2:Bool} {s1 s2:LS} {o1 o2:Bool} {K:LA→Option R} (h1:Af s1.l) (h2:Af s2.l) (hf:fit (s1.l.length+s2.l.length+1) N):Yb N (Id n1 s1) o1 (Id n2 s2) o2 K=K (Ez (Ap n1 s1+Ap n2 s2)):=by
  have v1:=Bc h1
  have v2:=Bc h2
  have w1:=Fy (show s1.l.length≤s1.l.length+s2.l.length by omega)
  have w2:=Fy (show s2.l.length≤s1.l.length+s2.l.length by omega)
  rw [Bao];unfold Bft Bfs
  rw [Rx,Rx]
  by_cases hn:n1=n2
  · subst hn
    have hl:(dig (val s1.l+val s2.l)).length≤s1.l.length+s2.l.length+1:=Ch (by rw [Nat.pow_succ];omega)
    have hz:Ap n1 s1+Ap n1 s2=if n1 then -((val s1.l+val s2.l:Nat):Int) else ((val s1.l+val s2.l:Nat):Int):=by
      unfold Ap;cases n1<;>simp;omega
    rw [show (n1==n1)=true by simp,ct,Rx,Ne,Ne,A9b rfl rfl h1 h2 hf,tkd,Fz rfl (Ab _) (hf.le hl),Ag,← hz];exact A5s _ _
  · rw [show (n1==n2)=false by simp [hn],cf,Ne,Ne,A9c rfl rfl h1 h2 (hf.le (by omega))]
    by_cases hle:val s2.l≤val s1.l
    · have hl:(dig (val s1.l - val s2.l)).length≤s1.l.length+s2.l.length+1:=Ch (by rw [Nat.pow_succ];omega)
      have hz:Ap n1 s1+Ap n2 s2=if n1 then -((val s1.l - val s2.l:Nat):Int) else ((val s1.l - val s2.l:Nat):Int):=by
        unfold Ap;cases n1<;>cases n2<;>simp at hn ⊢<;>omega
      rw [if_pos hle,ct,Rx,tkd,Fz rfl (Ab _) (hf.le hl),Ag,← hz];exact A5s _ _
    · have hl:(dig (val s2.l - val s1.l)).length≤s1.l.length+s2.l.length+1:=Ch (by rw [Nat.pow_succ];omega)
      have hz:Ap n1 s1+Ap n2 s2=if n2 then -((val s2.l - val s1.l:Nat):Int) else ((val s2.l - val s1.l:Nat):Int):=by
        unfold Ap;cases n1<;>cases n2<;>simp at hn ⊢<;>omega
      rw [if_neg hle,cf,Ne,Ne,A9c rfl rfl h2 h1 (hf.le (by omega)),if_pos (by omega),Rx,tkd,Fz rfl (Ab _) (hf.le hl),Ag,← hz];exact A5s _ _
theorem Bvw {N:Nat} {n1 n2:Bool} {s1 s2:LS} {o1 o2:Bool} {K:LA→Option R} (h1:Af s1.l) (h2:Af s2.l) (hf:fit (3*(s1.l.length+s2.l.length)+4) N):A26 N (Id n1 s1) o1 (Id n2 s2) o2 K=K (Ez ((Nat.gcd (Ap n1 s1).natAbs (Ap n2 s2).natAbs:Nat):Int)):=by
  have hl:(dig (Nat.gcd (val s1.l) (val s2.l))).length≤s1.l.length+s2.l.length:=by
    rcases Nat.eq_zero_or_pos (val s1.l) with h | h
    · rw [h,Nat.gcd_zero_left];have:=(Bh h2).2;omega
    · have:=Bp (Nat.gcd_le_left (val s2.l) h);have:=(Bh h1).2;omega
  rw [Ban];unfold Bfn Bfm
  rw [Ne,Ne,Bvr rfl rfl h1 h2 hf,tkd,Fz rfl (Ab _) (hf.le (by omega)),Ag,Ca,Ca];exact A5s _ _
theorem Atu {N:Nat} {n1:Bool} {s1:LS} {g:Nat} {o1 o2:Bool} {K:LA→LA→Bool→Option R} (h1:Af s1.l) (hg:0<g) (hd:g∣val s1.l) (hf:fit (s1.l.length+2*(dig g).length+4) N):Sn N (Id n1 s1) o1 (Ez (g:Int)) o2 K=K (Ez (Ap n1 s1/(g:Int))) (Ez 0) true:=by
  have hc:Ez (g:Int)=Id false (.of (dig g) false false):=by
    unfold Ez;rw [decide_eq_false (by omega),Int.natAbs_natCast]
  have hq:(dig (val s1.l/g)).length≤s1.l.length:=Nat.le_trans (Bp (Nat.div_le_self _ _)) (Bh h1).2
  rw [hc,Aqm];unfold Aql Aqk
  rw [Ne,Ne,show (LS.of (dig g) false false).l=dig g by rfl]
  rw [Ano rfl rfl h1 (Ab _) (by rw [Ag];omega) hf,Ag,Nat.mod_eq_zero_of_dvd hd,show (!true)=false by rfl,cf,Rx,Rx,tkd,Fz rfl (Ab _) (hf.le (by omega)),Rx,tkd,Fz rfl (Ab _) (hf.le (by simp [C6])),Ag,Ag]
  have e0:(if n1=true then -((0:Nat):Int) else ((0:Nat):Int))=0:=by cases n1<;>rfl
  have e1:(if (!(n1==false))=true then -((val s1.l/g:Nat):Int) else ((val s1.l/g:Nat):Int))=Ap n1 s1/(g:Int):=by
    obtain ⟨c,hc⟩:=hd
    have hv:val s1.l/g=c:=by rw [hc,Nat.mul_div_cancel_left _ hg]
    rw [hv];unfold Ap;rw [hc]
    cases n1
    · simp;rw [Int.mul_ediv_cancel_left _ (by omega)]
    · simp only [Bool.true_beq,Bool.not_false,if_true]
      rw [show -((g*c:Nat):Int)=(g:Int)*(-(c:Int)) by rw [Int.mul_neg];simp,Int.mul_ediv_cancel_left _ (by omega)]
  rw [e0,e1]
  generalize Ap n1 s1/(g:Int)=q
  have r0:∀ (f:Bool→Option R),rdB (Ez 0) f=f false:=fun f=>Rx
  rw [show ((Nat.beq 0 0)&&((Nat.beq (List.length (Ez q)) 2)&&(Nat.beq 2 2)))=true by rfl,ct,show ((Nat.beq 0 0)&&((Nat.beq (List.length (Ez 0)) 2)&&(Nat.beq 2 2)))=true by rfl,ct,r0,cf]
  rfl
end
end Gx

namespace Gx
open Go Go.Proofs
section
variable {R:Type}
def cqD (q:Rat):RatD:=⟨decide (q.num<0),.of (dig q.num.natAbs) false false,.of (dig q.den) false false⟩
def cq (q:Rat):List AV:=(cqD q).av
theorem Bdr (q:Rat):(cqD q).can q:=⟨rfl,rfl,rfl⟩
theorem Byx (q:Rat):(cqD q).q=q:=(Bdr q).q
theorem Bxb (q:Rat):(cqD q).ok:=(Bdr q).ok
theorem Byy (q:Rat):(cqD q).m=qm q:=(Bdr q).m
theorem Ax8 (q:Rat) (K:LA→Option R):(cond ((Nat.beq 0 0)&&((Nat.beq (List.length (cq q)) 3)&&(Nat.beq 3 3))) (cond (Nat.ble 3 (List.length (cq q))) (K (List.take 3 (cq q))) none) none)=K (cq q):=rfl
theorem Bm2 (q:Rat):Nat.ble 2 (List.length (cq q))=true:=rfl
theorem A9f (q:Rat):List.take 2 (cq q)=Ez q.num:=rfl
theorem Bya:cq 0=[(.bool false),(.imm [] 0 1 false false),(.imm [(.int .u32 1)] 1 1 false false)]:=by
  have e:cq 0=[.bool false,.imm (Ad (dig 0)) (dig 0).length 1 false false,.imm (Ad (dig 1)) (dig 1).length 1 false false]:=rfl
  rw [e,Zi];rfl
theorem Bjh {N:Nat} {K:LA→Option R}:Ahw N K=K (cq 0):=by
  rw [A2z];unfold A6p A6o
  rw [Bya]
theorem Bz4 {N:Nat} {z:Int} {o:Bool} {K:LA→Option R} (hf:fit (dig z.natAbs).length N):Yc N (Ez z) o K=K (Ez (-z)):=by
  have:=Bvv (R:=R) (N:=N) (n:=decide (z<0)) (s:=.of (dig z.natAbs) false false) (o:=o) (K:=K) (Ab _) hf
  rw [Hh] at this;exact this
theorem Bzv {N:Nat} {z:Int} {o:Bool} {K:Int→Option R} (hf:fit (dig z.natAbs).length N):Aav N (Ez z) o K=K z.sign:=by
  have:=Bjg (R:=R) (N:=N) (n:=decide (z<0)) (s:=.of (dig z.natAbs) false false) (o:=o) (K:=K) (Ab _) hf
  rw [Hh] at this;exact this
theorem Bxc {N:Nat} {z w:Int} {o o':Bool} {K:LA→Option R} (hf:fit ((dig z.natAbs).length+(dig w.natAbs).length) N):Vf N (Ez z) o (Ez w) o' K=K (Ez (z*w)):=by
  have:=Btf (R:=R) (N:=N) (n1:=decide (z<0)) (s1:=.of (dig z.natAbs) false false) (n2:=decide (w<0)) (s2:=.of (dig w.natAbs) false false) (o1:=o) (o2:=o') (K:=K) (Ab _) (Ab _) hf
  rw [Hh,Hh] at this;exact this
theorem Bz5 {N:Nat} {z w:Int} {o o':Bool} {K:LA→Option R} (hf:fit ((dig z.natAbs).length+(dig w.natAbs).length+1) N):Yb N (Ez z) o (Ez w) o' K=K (Ez (z+w)):=by
  have:=Btg (R:=R) (N:=N) (n1:=decide (z<0)) (s1:=.of (dig z.natAbs) false false) (n2:=decide (w<0)) (s2:=.of (dig w.natAbs) false false) (o1:=o) (o2:=o') (K:=K) (Ab _) (Ab _) hf
  rw [Hh,Hh] at this;exact this
theorem Bxd (z:Int):mkRat z 1=(z:Rat):=by
  apply Rat.ext
  · rw [Rat.num_mkRat,if_neg (by decide),Nat.gcd_one_left];simp
  · rw [Rat.den_mkRat,if_neg (by decide),Nat.gcd_one_left];simp
theorem Byb (z:Int) (w:Nat) (hw:w≠0):(mkRat z w).num=z/((Nat.gcd z.natAbs w:Nat):Int)∧(mkRat z w).den=w/Nat.gcd z.natAbs w:=by
  refine ⟨?_,?_⟩
  · rw [Rat.num_mkRat,if_neg hw,Nat.gcd_comm w]
  · rw [Rat.den_mkRat,if_neg hw,Nat.gcd_comm w]
theorem Bcj {N:Nat} {n1 n2:Bool} {s1 s2:LS} {o1 o2:Bool} {K:LA→Option R} (h1:Af s1.l) (h2:Af s2.l) (hpos:0≤Ap n2 s2) (hf:fit (4*(s1.l.length+s2.l.length)+10) N):Kx N (Id n1 s1) o1 (Id n2 s2) o2 K=K (cq (mkRat (Ap n1 s1) (Ap n2 s2).natAbs)):=by
  have hna:=Ca n2 s2
  have hna1:=Ca n1 s1
  rw [A27];unfold A61 A60
  rw [A14,ct,tk2,Bjg h2 (hf.le (by omega))]
  by_cases h0:Ap n2 s2=0
  · rw [h0,show ((0:Int).sign==0)=true by rfl,ct,Bjh]
    rw [show (0:Int).natAbs=0 by rfl,Rat.mkRat_zero];exact Ax8 _ _
  · have hw:(Ap n2 s2).natAbs≠0:=by omega
    have hs1:((Ap n2 s2).sign==0)=false:=by rw [Int.sign_eq_one_of_pos (by omega)];rfl
    rw [hs1,cf,ct,A15 h2 (hf.le (by omega)),show ((Nat.beq 0 0)&&((Nat.beq (List.length (Ez (Ap n2 s2))) 2)&&(Nat.beq 2 2)))=true by rfl,ct]
    have rb:∀ (z:Int) (f:Bool→Option R),rdB (Ez z) f=f (decide (z<0)):=fun z f=>Rx
    have rl:∀ (z:Int) (f:List AV→Nat→Option R),rdL 1 (List.drop 1 (Ez z)) f=f (Ad (dig z.natAbs)) (dig z.natAbs).length:=fun z f=>Ne
    have l2:=(Bh h2).2
    have l1:=(Bh h1).2
    rw [rb,decide_eq_false (by omega),show ((!false)==true)=true by rfl,ct,rl,Bw8,Bw3 (a:=dig (Ap n2 s2).natAbs) (b:=[1]) (m:=1) rfl rfl (hf.le (by rw [hna];omega)),ctB]
    by_cases hone:(Ap n2 s2).natAbs=1
    · rw [hone,Zi,show decide (([1]:List Nat)=[1])=true by decide,ct,A14,ct,tk2,A15 h1 (hf.le (by omega)),rl,hone,Zi]
      rw [Bxd]
      have e2:cq ((Ap n1 s1:Int):Rat)=[.bool (decide (Ap n1 s1<0)),.imm (Ad (dig (Ap n1 s1).natAbs)) (dig (Ap n1 s1).natAbs).length 1 false false,.imm (Ad [1]) 1 1 false false]:=by
        unfold cq cqD RatD.av LS.av
        rw [Rat.num_intCast,Rat.den_intCast,Zi];rfl
      rw [e2];rfl
    · have hne : decide (dig (Ap n2 s2).natAbs = [1]) = false := by
        rw [decide_eq_false_iff_not];intro hh
        have:=congrArg val hh
        rw [Ag] at this;simp [val] at this;omega
      rw [hne,cf]
      unfold Aqn Aj6
      have hg0:0<Nat.gcd (Ap n1 s1).natAbs (Ap n2 s2).natAbs:=Nat.gcd_pos_of_pos_right _ (by omega)
      have hgl:(dig (Nat.gcd (Ap n1 s1).natAbs (Ap n2 s2).natAbs)).length≤s2.l.length:=Nat.le_trans (Bp (Nat.gcd_le_right _ (by omega))) (by rw [hna];exact l2)
      have hd1:Nat.gcd (Ap n1 s1).natAbs (Ap n2 s2).natAbs∣val s1.l:=by rw [← hna1];exact Nat.gcd_dvd_left _ _
      have hd2:Nat.gcd (Ap n1 s1).natAbs (Ap n2 s2).natAbs∣val s2.l:=by rw [← hna];exact Nat.gcd_dvd_right _ _
      obtain ⟨q1,q2⟩:=Byb (Ap n1 s1) (Ap n2 s2).natAbs hw
      rw [A14,ct,A14,ct,tk2,tk2,Bvw h1 h2 (hf.le (by omega))]
      generalize hgd:Nat.gcd (Ap n1 s1).natAbs (Ap n2 s2).natAbs=g at *
      rw [show ((Nat.beq 0 0)&&((Nat.beq (List.length (Ez (g:Int))) 2)&&(Nat.beq 2 2)))=true by rfl,ct,ct,show Nat.ble 2 (List.length (Ez (g:Int)))=true by rfl,ct,tkc,Atu h1 hg0 hd1 (hf.le (by omega))]
      rw [show ∀ z:Int,((Nat.beq 0 0)&&((Nat.beq (List.length (Ez z)) 2)&&(Nat.beq 2 2)))=true from fun z=>rfl,ct,show ((Nat.beq 0 0)&&((Nat.beq (List.length (Ez 0)) 2)&&(Nat.beq 2 2)))=true by rfl,ct,ct,Atu h2 hg0 hd2 (hf.le (by omega))]
      have hwz:Ap n2 s2/(g:Int)=(((Ap n2 s2).natAbs/g:Nat):Int):=by
        rw [show Ap n2 s2=(((Ap n2 s2).natAbs:Nat):Int) by omega];rfl
      rw [show ∀ z:Int,((Nat.beq 0 0)&&((Nat.beq (List.length (Ez z)) 2)&&(Nat.beq 2 2)))=true from fun z=>rfl,ct,ct,rb,hwz,decide_eq_false (by omega),cf,show ∀ z:Int,Nat.ble 2 (List.length (Ez z))=true from fun z=>rfl,ct,rl,Int.natAbs_natCast,← q2]
      rw [← q1];rfl
theorem Brs {N:Nat} {z w:Int} {o o':Bool} {K:LA→Option R} (hw:0≤w) (hf:fit (4*((dig z.natAbs).length+(dig w.natAbs).length)+10) N):Kx N (Ez z) o (Ez w) o' K=K (cq (mkRat z w.natAbs)):=by
  have:=Bcj (R:=R) (N:=N) (n1:=decide (z<0)) (s1:=.of (dig z.natAbs) false false) (n2:=decide (w<0)) (s2:=.of (dig w.natAbs) false false) (o1:=o) (o2:=o') (K:=K) (Ab _) (Ab _) (by rw [Hh];exact hw) hf
  rw [Hh,Hh] at this;exact this
theorem Gv {N:Nat} {x:RatD} {o:Bool} {K:LA→Option R} (hx:x.ok) (hf:fit (8*x.m+10) N):H1 N x.av o K=K (cq x.q):=by
  have m1:x.ns.l.length≤x.m:=Nat.le_max_left _ _
  have m2:x.ds.l.length≤x.m:=Nat.le_max_right _ _
  rw [A39];unfold A74 A73
  rw [show Nat.ble 2 (List.length x.av)=true by rfl,ct,Bjf,Byw,ofA,Bcj (s2:=.of x.ds.l false o) hx.1 hx.2 (by unfold Ap;simp) (hf.le (show 4*(x.ns.l.length+x.ds.l.length)+10≤_ by omega))]
  have:mkRat (Ap x.neg x.ns) (Ap false (.of x.ds.l false o)).natAbs=x.q:=by rw [Ca];rfl
  rw [this];exact Ax8 _ _
theorem T4 {N:Nat} {x:RatD} {o:Bool} {K:LA→Option R} (hx:x.ok) (hf:fit (8*x.m+10) N):Qy N x.av o K=K (Ez (x.q.den:Int)):=by
  rw [Ba3];unfold Bgz Bgy
  rw [Gu,ct,Cs,Gv hx hf]
  have:=Bjf (R:=R) (x:=cqD x.q) (f:=fun e f=>K [(.bool false),(.imm e f 1 false false)])
  refine this.trans ?_
  unfold Ez;rw [decide_eq_false (by omega),Int.natAbs_natCast];rfl
theorem Ax9 (x:RatD) (hx:x.ok):qm x.q≤x.m+1:=by
  have m1:x.ns.l.length≤x.m:=Nat.le_max_left _ _
  have m2:x.ds.l.length≤x.m:=Nat.le_max_right _ _
  unfold qm
  by_cases h:val x.ds.l=0
  · have:x.q=0:=by unfold RatD.q;rw [h,Rat.mkRat_zero]
    rw [this,Rat.zero_num,Rat.zero_den,Zi];simp [C6]
  · obtain ⟨a1,_,a3⟩:=Bje (Ap x.neg x.ns) (val x.ds.l) h
    have b1:x.q.num.natAbs≤val x.ns.l:=by show (mkRat _ _).num.natAbs≤_;rw [a1,Ca];exact Nat.div_le_self _ _
    have b2:x.q.den≤val x.ds.l:=by show (mkRat _ _).den≤_;rw [a3];exact Nat.div_le_self _ _
    have c1:=Nat.le_trans (Bp b1) (Bh hx.1).2
    have c2:=Nat.le_trans (Bp b2) (Bh hx.2).2
    omega
theorem Bxe (z:Int) (d:Nat) (k:Nat) (h1:z.natAbs<4294967296 ^ k) (h2:d<4294967296 ^ k) (hd:d≠0):qm (mkRat z d)≤k:=by
  obtain ⟨a1,_,a3⟩:=Bje z d hd
  unfold qm
  have b1:(mkRat z d).num.natAbs≤z.natAbs:=by rw [a1];exact Nat.div_le_self _ _
  have b2:(mkRat z d).den≤d:=by rw [a3];exact Nat.div_le_self _ _
  have c1:=Ch (Nat.lt_of_le_of_lt b1 h1)
  have c2:=Ch (Nat.lt_of_le_of_lt b2 h2)
  omega
theorem Atv (q:Rat):q.num.natAbs<4294967296 ^ qm q:=Bxa (Nat.le_max_left _ _)
theorem Ahc (q:Rat):q.den<4294967296 ^ qm q:=Bxa (Nat.le_max_right _ _)
theorem Bo9 (a b:Rat):qm (a+b)≤qm a+qm b+1:=by
  rw [Rat.add_def']
  have da:((a.den:Nat):Int).natAbs<4294967296 ^ qm a:=by rw [Int.natAbs_natCast];exact Ahc a
  have db:((b.den:Nat):Int).natAbs<4294967296 ^ qm b:=by rw [Int.natAbs_natCast];exact Ahc b
  refine Bxe _ _ _ ?_ ?_ (Nat.mul_ne_zero a.den_nz b.den_nz)
  · refine A5q (H8 (Atv a) db) ?_
    have:=H8 (Atv b) da
    rwa [Nat.add_comm (qm b)] at this
  · rw [Nat.pow_succ,Nat.pow_add]
    have:=Nat.mul_lt_mul'' (Ahc a) (Ahc b)
    omega
theorem Bth (a b:Rat):qm (a*b)≤qm a+qm b:=by
  rw [Rat.mul_def']
  refine Bxe _ _ _ (H8 (Atv a) (Atv b)) ?_ (Nat.mul_ne_zero a.den_nz b.den_nz)
  rw [Nat.pow_add];exact Nat.mul_lt_mul'' (Ahc a) (Ahc b)
theorem Bxf (a:Rat):qm (-a)=qm a:=by unfold qm;rw [Rat.neg_num,Rat.neg_den,Int.natAbs_neg]
theorem A16 (a b:Rat):qm (a - b)≤qm a+qm b+1:=by rw [Rat.sub_eq_add_neg,← Bxf b];exact Bo9 _ _
theorem Bzc {v:Int} (h:v.natAbs<18446744073709551616):qm (v:Rat)≤2:=by
  unfold qm;rw [Rat.num_intCast,Rat.den_intCast,Zi]
  have:=Zg h
  simp;omega
theorem mkq {a:Int} {b:Nat}:mkRat a ((b:Int)).natAbs=mkRat a b:=by rw [Int.natAbs_natCast]
theorem Bti {N:Nat} {x:RatD} {o:Bool} {K:LA→Option R} (hx:x.ok) (hf:fit (16*x.m+40) N):A4a N x.av o K=K (cq (-x.q)):=by
  have hq:=Ax9 x hx
  have q1:(dig x.q.num.natAbs).length≤qm x.q:=Nat.le_max_left _ _
  have q2:(dig x.q.den).length≤qm x.q:=Nat.le_max_right _ _
  rw [Ba4];unfold Bg2 Bg1
  rw [Gu,ct,Cs,Gv hx (hf.le (by omega)),Bm2,ct,A9f,Bz4 (hf.le (show (dig x.q.num.natAbs).length≤_ by omega)),ct,T4 hx (hf.le (by omega)),Brs (by omega) (hf.le (show 4*((dig (-x.q.num).natAbs).length+(dig ((x.q.den:Nat):Int).natAbs).length)+10≤_ by rw [Int.natAbs_neg,Int.natAbs_natCast];omega)),mkq]
  have:mkRat (-x.q.num) x.q.den=-x.q:=by rw [← Rat.neg_mkRat,Rat.mkRat_self]
  rw [this];exact Ax8 _ _
theorem Bji {N:Nat} {x y:RatD} {o o':Bool} {K:LA→Option R} (hx:x.ok) (hy:y.ok) (hf:fit (16*(x.m+y.m)+80) N):Alt N x.av o y.av o' K=K (cq (x.q+y.q)):=by
  have hqx:=Ax9 x hx
  have hqy:=Ax9 y hy
  have x1:=Atv x.q
  have x2:((x.q.den:Nat):Int).natAbs<4294967296 ^ qm x.q:=by rw [Int.natAbs_natCast];exact Ahc _
  have y1:=Atv y.q
  have y2:((y.q.den:Nat):Int).natAbs<4294967296 ^ qm y.q:=by rw [Int.natAbs_natCast];exact Ahc _
  have L1:=Ch x1
  have L2:=Ch x2
  have L3:=Ch y1
  have L4:=Ch y2
  have z1:=H8 x1 y2
  have z2:=H8 y1 x2
  have z3:=A5q (k:=qm x.q+qm y.q) z1 (by rwa [Nat.add_comm])
  have z4:=H8 x2 y2
  have M1:=Ch z1
  have M2:=Ch z2
  have M3:=Ch z3
  have M4:=Ch z4
  rw [Ba7];unfold Bhf Bhe
  rw [Gu,ct,Cs,Gv hx (hf.le (by omega)),Gu,ct,Cs,Gv hy (hf.le (by omega)),show ∀ q,((Nat.beq 0 0)&&((Nat.beq (List.length (cq q)) 3)&&(Nat.beq 3 3)))=true from fun q=>rfl,ct,show ∀ q,((Nat.beq 0 0)&&((Nat.beq (List.length (cq q)) 3)&&(Nat.beq 3 3)))=true from fun q=>rfl,ct,Bm2,ct,ct,T4 hy (hf.le (by omega)),A9f,Bxc (hf.le (show (dig x.q.num.natAbs).length+(dig ((y.q.den:Nat):Int).natAbs).length≤_ by omega)),Bm2,ct,ct,T4 hx (hf.le (by omega)),A9f,Bxc (hf.le (show (dig y.q.num.natAbs).length+(dig ((x.q.den:Nat):Int).natAbs).length≤_ by omega)),Bz5 (hf.le (show (dig (x.q.num*((y.q.den:Nat):Int)).natAbs).length+(dig (y.q.num*((x.q.den:Nat):Int)).natAbs).length+1≤_ by omega)),ct,T4 hx (hf.le (by omega)),ct,T4 hy (hf.le (by omega)),Bxc (hf.le (show (dig ((x.q.den:Nat):Int).natAbs).length+(dig ((y.q.den:Nat):Int).natAbs).length≤_ by omega)),Brs (Int.mul_nonneg (by omega) (by omega)) (hf.le (show 4*((dig (x.q.num*((y.q.den:Nat):Int)+y.q.num*((x.q.den:Nat):Int)).natAbs).length+(dig (((x.q.den:Nat):Int)*((y.q.den:Nat):Int)).natAbs).length)+10≤_ by omega))]
  have:mkRat (x.q.num*((y.q.den:Nat):Int)+y.q.num*((x.q.den:Nat):Int)) (((x.q.den:Nat):Int)*((y.q.den:Nat):Int)).natAbs=x.q+y.q:=by
    rw [Rat.add_def',Int.natAbs_mul,Int.natAbs_natCast,Int.natAbs_natCast]
  rw [this];exact Ax8 _ _
theorem Bjj {N:Nat} {x y:RatD} {o o':Bool} {K:LA→Option R} (hx:x.ok) (hy:y.ok) (hf:fit (16*(x.m+y.m)+100) N):Aej N x.av o y.av o' K=K (cq (x.q - y.q)):=by
  have hqy:=Ax9 y hy
  rw [Ba8];unfold Bhj Bhi
  rw [Gu,ct,Gu,ct,Cs,Cs,Bti hy (hf.le (by omega))]
  have:=Bji (R:=R) (N:=N) (x:=x) (y:=cqD (-y.q)) (o:=o) (o':=false) (K:=fun e=>(cond ((Nat.beq 0 0)&&((Nat.beq (List.length e) 3)&&(Nat.beq 3 3))) (cond (Nat.ble 3 (List.length e)) (K (List.take 3 e)) none) none)) hx (Bxb _) (hf.le (by rw [Byy,Bxf];omega))
  rw [Byx,← Rat.sub_eq_add_neg] at this
  exact this.trans (Ax8 _ _)
theorem Brt {N:Nat} {x:RatD} {o:Bool} {K:Int→Option R} (hx:x.ok) (hf:fit (8*x.m+10) N):Arx N x.av o K=K x.q.num.sign:=by
  have hq:=Ax9 x hx
  have q1:(dig x.q.num.natAbs).length≤qm x.q:=Nat.le_max_left _ _
  rw [A4c];unfold A8b A8a
  rw [Gu,ct,Cs,Gv hx hf,Bm2,ct,A9f,Bzv (hf.le (show (dig x.q.num.natAbs).length≤_ by omega))]
theorem Bxg (a b:Rat):(a - b).num.sign=Xc a b:=by
  unfold Xc
  by_cases h:a<b
  · rw [if_pos h]
    have h1:a - b<0:=by grind
    have:(a - b).num<0:=by
      apply Int.not_le.1;intro h2
      exact absurd (Rat.num_nonneg.1 h2) (Rat.not_le.2 h1)
    exact Int.sign_eq_neg_one_of_neg this
  · rw [if_neg h]
    by_cases h2:b<a
    · rw [if_pos h2]
      have h1:0<a - b:=by grind
      have h3:0≤(a - b).num:=Rat.num_nonneg.2 (Rat.le_of_lt h1)
      have h4:(a - b).num≠0:=fun hh=>by
        have:=Rat.num_eq_zero.1 hh
        rw [this] at h1;exact absurd h1 Rat.lt_irrefl
      exact Int.sign_eq_one_of_pos (by omega)
    · rw [if_neg h2]
      have:a=b:=Rat.le_antisymm (Rat.not_lt.1 h2) (Rat.not_lt.1 h)
      rw [this,Rat.sub_self];rfl
theorem Atw {N:Nat} {x y:RatD} {o o':Bool} {K:Int→Option R} (hx:x.ok) (hy:y.ok) (hf:fit (16*(x.m+y.m)+100) N):A2 N x.av o y.av o' K=K (Xc x.q y.q):=by
  have hqx:=Ax9 x hx
  have hqy:=Ax9 y hy
  have hs:=A16 x.q y.q
  rw [Aoi];unfold Alv Alu
  rw [Gu,ct,Gu,ct,Cs,Cs,Bjj hx hy hf]
  have:=Brt (R:=R) (N:=N) (x:=cqD (x.q - y.q)) (o:=false) (K:=fun g=>K g) (Bxb _) (hf.le (by rw [Byy];omega))
  rw [Byx,Bxg] at this
  exact this
theorem Btj {N:Nat} {x y:RatD} {o o':Bool} {K:LA→Option R} (hx:x.ok) (hy:y.ok) (hf:fit (16*(x.m+y.m)+80) N):Avn N x.av o y.av o' K=K (cq (x.q*y.q)):=by
  have hqx:=Ax9 x hx
  have hqy:=Ax9 y hy
  have x1:=Atv x.q
  have x2:((x.q.den:Nat):Int).natAbs<4294967296 ^ qm x.q:=by rw [Int.natAbs_natCast];exact Ahc _
  have y1:=Atv y.q
  have y2:((y.q.den:Nat):Int).natAbs<4294967296 ^ qm y.q:=by rw [Int.natAbs_natCast];exact Ahc _
  have L1:=Ch x1
  have L2:=Ch x2
  have L3:=Ch y1
  have L4:=Ch y2
  have M1:=Ch (H8 x1 y1)
  have M4:=Ch (H8 x2 y2)
  rw [Bbc];unfold Bht Bhs
  rw [Gu,ct,Cs,Gv hx (hf.le (by omega)),Bm2,ct,Gu,ct,Cs,Gv hy (hf.le (by omega)),Bm2,ct,A9f,A9f,Bxc (hf.le (show (dig x.q.num.natAbs).length+(dig y.q.num.natAbs).length≤_ by omega)),ct,T4 hx (hf.le (by omega)),ct,T4 hy (hf.le (by omega)),Bxc (hf.le (show (dig ((x.q.den:Nat):Int).natAbs).length+(dig ((y.q.den:Nat):Int).natAbs).length≤_ by omega)),Brs (Int.mul_nonneg (by omega) (by omega)) (hf.le (show 4*((dig (x.q.num*y.q.num).natAbs).length+(dig (((x.q.den:Nat):Int)*((y.q.den:Nat):Int)).natAbs).length)+10≤_ by omega))]
  have:mkRat (x.q.num*y.q.num) (((x.q.den:Nat):Int)*((y.q.den:Nat):Int)).natAbs=x.q*y.q:=by
    rw [Rat.mul_def',Int.natAbs_mul,Int.natAbs_natCast,Int.natAbs_natCast]
  rw [this];exact Ax8 _ _
theorem Bjk {N:Nat} {v:Int} {K:LA→Option R} (hv:-9223372036854775808≤v∧v≤9223372036854775807) (hN:4000≤N):Bb N v K=K (cq (v:Rat)):=by
  have hl:=Zg (show v.natAbs<18446744073709551616 by omega)
  rw [An7];unfold Aka Aj9
  rw [Vy hv (by omega),Vy (by omega) (by omega),Brs (by omega) ⟨show 100*(4*((dig v.natAbs).length+(dig (1:Int).natAbs).length)+10)+1000≤N by (rw [show (1:Int).natAbs=1 by rfl,Zi];simp;omega),show 4*((dig v.natAbs).length+(dig (1:Int).natAbs).length)+10≤1000000000 by (rw [show (1:Int).natAbs=1 by rfl,Zi];simp;omega)⟩]
  have:mkRat v (1:Int).natAbs=(v:Rat):=Bxd v
  rw [this];exact Ax8 _ _
theorem Bxh {N:Nat} {v w:Int} {K:LA→Option R} (hv:-9223372036854775808≤v∧v≤9223372036854775807) (hw:0≤w∧w≤9223372036854775807) (hN:4000≤N):A8c N v w K=K (cq (mkRat v w.natAbs)):=by
  have hl:=Zg (show v.natAbs<18446744073709551616 by omega)
  have hl2:=Zg (show w.natAbs<18446744073709551616 by omega)
  rw [Bhm];unfold Bos Bor
  rw [Vy hv (by omega),Vy (by omega) (by omega),Brs (by omega) ⟨show 100*(4*((dig v.natAbs).length+(dig w.natAbs).length)+10)+1000≤N by omega,show 4*((dig v.natAbs).length+(dig w.natAbs).length)+10≤1000000000 by omega⟩]
  exact Ax8 _ _
theorem Btk {N:Nat} {x y:RatD} {o o':Bool} {K:LA→Option R} (hx:x.ok) (hy:y.ok) (hf:fit (16*(x.m+y.m)+100) N):Avm N x.av o y.av o' K=K (cq (if x.q≤y.q then x.q else y.q)):=by
  rw [Bbb];unfold Bhp Bho
  rw [Gu,ct,Gu,ct,Cs,Cs,Atw hx hy hf]
  by_cases h:x.q≤y.q
  · rw [decide_eq_true (A5r.2 h),ct,ct,Gv hx (hf.le (by omega)),if_pos h];exact Ax8 _ _
  · rw [decide_eq_false (fun hh=>h (A5r.1 hh)),cf,ct,Gv hy (hf.le (by omega)),if_neg h];exact Ax8 _ _
end
end Gx

namespace Gx
open Go Go.Proofs
set_option maxRecDepth 100000
noncomputable section
variable {R:Type}
def Anr (N:Nat)  (r0:Bool→Option R) (b:LA) (a:Nat) (d e:Bool) (k0:Int→Option R)  (c:Int):Option R :=
 (cond (decide (c<((a:Nat):Int))) (cond (Am c a) (rdL 1 (List.drop 1 (List.drop ((Int.toNat c)*3) b)) fun l g=>(cond ((decide (((g:Nat):Int)>(4:Int)))==false) (cond (Am c a) (rdL 1 (List.drop 2 (List.drop ((Int.toNat c)*3) b)) fun m i=>(cond (cond false true (decide (((i:Nat):Int)>(4:Int)))) (r0 false) (k0 (IntKind.wrap .i64 (c+(1:Int)))))) none) (r0 false))) none) (r0 true))
def Aaa (N:Nat)  (r0:Bool→Option R) (b:LA) (a:Nat) (d e:Bool):Nat→Int→Option R
 | 0,_=>none
 | n+1,c=>(Anr N r0 b a d e (Aaa N r0 b a d e n) c)
def Bpa (N:Nat) (r0:Bool→Option R) (q0:Int→Option R) (b:LA) (a:Nat) (d e:Bool):Option R :=
 (cond (decide (((a:Nat):Int)>(30:Int))) (r0 false) (q0 0))
def Bpb (N:Nat) (b:LA) (a:Nat) (d e:Bool) (r0:Bool→Option R):Option R:=(Bpa N r0 (fun c=>(Aaa N r0 b a d e N c)) b a d e)
def Bjl:=(Ai (@Bpb R)).1
theorem Bjm:@Bjl R=@Bpb R:=(Ai _).2
def Av1:Hints:={ H:=(hS (hR [0]) (hS (hS (hR [0,6]) (hN [0] (hS (hR [2]) hL) hL)) (hS (hS (hR [0,3]) (hS (hN [0,3] (hS (hS (hR [0,3,10]) (hN [0,3] hL hL)) (hS (hN [0,3] (hS (hR [0,3,29]) (hN [0,3] (hS (hR [2]) hL) hL)) hL) (hR [0,3]))) hL) hL)) (hS (hR [2]) hL)))),nils:=[],modes:=[],free:=[],cob:=[] }
def A5t (N:Nat):List (Nat×Tw):=[]
def A5u (N:Nat):Env:=mkE 30 Av1 (A5t N)
def Btl (N:Nat) (F:KF R):=Aq (A5u N) Tryz.f18 Av1.modes [] F
def Bm3 (N:Nat) (F:KF R):=atF (A5u N) [] N Tryz.f18 Av1 (Btl N F)
def Aiw  (F:KF R):Bool→Option R:=(fun j=>F (.bool j) [])
def Aab (b:LA) (a:Nat) (d e:Bool) (c:Int):St:={ s:=[(0,(.imm b a 3 d e)),(3,(.int .i64 c))],h:=[] }
def Bm4 (N:Nat) (F:KF R):St→Option R:=Bx (A5u N) [] N (Bm3 N F [1,1,0,1,0] []) N
def Av2 (N:Nat) (F:KF R) (n:Nat):St→Option R:=Ba (A5u N) [] N (Bm3 N F [1,1,0,1,0] []) n
theorem Bpc (N:Nat)  (F:KF R) (b:LA) (a:Nat) (d e:Bool):∀ (n:Nat) (c:Int),Av2 N F n (Aab b a d e c)=(Aaa N (Aiw F) b a d e n c):=by
 intro n
 induction n with
 | zero=>intros;kernel_rfl
 | succ n ih =>
  intro c
  have e0:=funext fun c=>(show Av2 N F n (Aab b a d e c)=_ from ih c)
  have hK:Av2 N F (n+1) (Aab b a d e c)=(Anr N (Aiw F) b a d e (fun c=>Av2 N F n (Aab b a d e c)) c):=by kernel_rfl
  exact hK.trans (by rw [e0];rfl)
theorem A9g (N:Nat) (b:LA) (a:Nat) (d e:Bool) (F:KF R):Ac Tryz.prog muts (A5t N) Av1 N 18 [(.imm b a 3 d e)] [] F=(Bjl N b a d e (Aiw F)):=by
 have e1:=funext fun c=>(show Bm4 N F (Aab b a d e c)=_ from (Ar ..).trans (Bpc N F b a d e N c))
 have hK:Ac Tryz.prog muts (A5t N) Av1 N 18 [(.imm b a 3 d e)] [] F=(Bpa N (Aiw F) (fun c=>Bm4 N F (Aab b a d e c)) b a d e):=by kernel_rfl
 rw [Bjm]
 exact hK.trans (by rw [e1];rfl)
def Ans (N:Nat) (args:List AV) (h:Aj) (k:KF R):Option R :=
 match args,h with
 | [(.imm b a 3 d e)],[]=>(Bjl N b a d e (Aiw k))
 | _,_=>none
def Bm5 (N:Nat):Tw:=⟨Ans N,fun args h k=>by
 unfold Ans;split
 exact twE (A9g ..) (A9g ..)
 rfl⟩
theorem Bvx (N:Nat):A1 Tryz.prog 18 (Bm5 N):=fun args h res f hh=>by
 change Ans N args h (fun v f=>some (v,f))=_ at hh
 unfold Ans at hh;split at hh
 exact Aa (T:=A5t N) trivial follows ((A9g ..).trans hh)
 cases hh
def Atx (N:Nat) (r0:Bool→Option R)  (a:LA) (b:Bool) (c d:Int):Option R :=
 (cond (Nat.ble 3 (List.length a)) (Bb N c (fun f=>(A2 N (List.take 3 a) b f false (fun g=>(cond ((decide (g≥(0:Int)))==true) (cond (Nat.ble 3 (List.length a)) (Bb N d (fun i=>(A2 N (List.take 3 a) b i false (fun j=>(r0 (cond true (decide (j≤(0:Int))) false)))))) none) (r0 false)))))) none)
def Aty (N:Nat) (a:LA) (b:Bool) (c d:Int) (r0:Bool→Option R):Option R:=(Atx N r0 a b c d)
def T5:=(Ai (@Aty R)).1
theorem Atz:@T5 R=@Aty R:=(Ai _).2
def Aya:Hints:={ H:=(hS (hR [1,2,3]) (hS (hR [6]) hL)),nils:=[],modes:=[],free:=[],cob:=[] }
def Ant (N:Nat):List (Nat×Tw):=[(20,Hq N),(25,H2 N)]
def Ahd  (F:KF R):Bool→Option R:=(fun l=>F (.bool l) [])
theorem Ahe (N:Nat) (a:LA) (b:Bool) (c d:Int) (F:KF R):Ac Tryz.prog muts (Ant N) Aya N 36 [(.pagg a b),(.int .i64 c),(.int .i64 d)] [] F=(T5 N a b c d (Ahd F)):=by
 have hK:Ac Tryz.prog muts (Ant N) Aya N 36 [(.pagg a b),(.int .i64 c),(.int .i64 d)] [] F=(Atx N (Ahd F) a b c d):=by kernel_rfl
 rw [Atz]
 exact hK
def Ry (N:Nat) (args:List AV) (h:Aj) (k:KF R):Option R :=
 match args,h with
 | [(.pagg a b),(.int .i64 c),(.int .i64 d)],[]=>(T5 N a b c d (Ahd k))
 | _,_=>none
def Ahf (N:Nat):Tw:=⟨Ry N,fun args h k=>by
 unfold Ry;split
 exact twE (Ahe ..) (Ahe ..)
 rfl⟩
theorem Ayb (N:Nat):A1 Tryz.prog 36 (Ahf N):=fun args h res e hh=>by
 change Ry N args h (fun v e=>some (v,e))=_ at hh
 unfold Ry at hh;split at hh
 exact Aa (T:=Ant N) ⟨Kz N,K5 N,trivial⟩ follows ((Ahe ..).trans hh)
 cases hh
def Ol (N:Nat)  (r0:LA→Option R) (e:Bool) (a:LA) (k0:Int→LA→LA→Option R)  (c:Int) (d b:LA):Option R :=
 (rdL 2 (List.drop 4 a) fun af q=>(cond (decide (c<((q:Nat):Int))) (cond (Nat.ble 3 (List.length d)) (rdL 2 (List.drop 4 a) fun r t=>(cond (Am c t) (rdI .i64 (List.drop ((Int.toNat c)*2) r) fun u=>(Bb N u (fun w=>(Avm N (List.take 3 d) false w false (fun i=>(cond ((Nat.beq 0 0)&&((Nat.beq (List.length i) 3)&&(Nat.beq 3 3))) (cond (Nat.ble 3 (List.length b)) (cond (Nat.ble 3 (List.length i)) (rdL 2 (List.drop 4 a) fun x y=>(cond (Am c y) (rdI .i64 (List.drop 1 (List.drop ((Int.toNat c)*2) x)) fun z=>(Bb N z (fun aa=>(Avn N (List.take 3 i) false aa false (fun ab=>(Alt N (List.take 3 b) false ab false (fun j=>(cond ((Nat.beq (List.length j) 3)&&((Nat.ble 3 (List.length b))&&(!false))) (cond (Nat.ble 3 (List.length d)) (cond (Nat.ble 3 (List.length i)) (Aej N (List.take 3 d) false (List.take 3 i) false (fun l=>(cond ((Nat.beq (List.length l) 3)&&((Nat.ble 3 (List.length d))&&(!false))) (k0 (IntKind.wrap .i64 (c+(1:Int))) (setCells d 0 l) (setCells b 0 j)) none))) none) none) none)))))))) none)) none) none) none)))))) none)) none) (cond (Nat.ble 3 (List.length b)) (cond ((Nat.beq 0 0)&&((Nat.beq (List.length (List.take 3 b)) 3)&&(Nat.beq 3 3))) (cond (Nat.ble 3 (List.length (List.take 3 b))) (r0 (List.take 3 (List.take 3 b))) none) none) none)))
def H9 (N:Nat)  (r0:LA→Option R) (e:Bool) (a:LA):Nat→Int→LA→LA→Option R
 | 0,_,_,_=>none
 | n+1,c,d,b=>(Ol N r0 e a (H9 N r0 e a n) c d b)
def Anu (N:Nat) (r0:LA→Option R) (q0:Int→LA→LA→Option R) (a:LA) (e:Bool) (f:LA) (g:Bool):Option R :=
 (cond (Nat.ble 3 (List.length f)) (rdI .i64 (List.drop 2 a) fun ac=>(Bb N ac (fun ad=>(Aej N (List.take 3 f) g ad false (fun m=>(Ahw N (fun o=>(cond ((Nat.beq 0 0)&&((Nat.beq (List.length m) 3)&&(Nat.beq 3 3))) (cond ((Nat.beq 0 0)&&((Nat.beq (List.length o) 3)&&(Nat.beq 3 3))) (q0 0 m o) none) none)))))))) none)
def Anv (N:Nat) (a:LA) (e:Bool) (f:LA) (g:Bool) (r0:LA→Option R):Option R:=(Anu N r0 (fun c d b=>(H9 N r0 e a N c d b)) a e f g)
def Wo:=(Ai (@Anv R)).1
theorem Aoz:@Wo R=@Anv R:=(Ai _).2
def Rz:Hints:={ H:=(hS (hR [2,3,4]) (hS (hR [2,4,5,6]) (hS (hS (hR [2,4,5,6,7]) (hN [4,6] (hN [2,4,5,6,7] (hS (hS (hR [2,4,5,6,7,19]) (hN [2,4,5,6,7] hL hL)) (hS (hN [2,4,5,6,7] (hS (hR [2,4,5,6,7,8]) (hS (hR [2,4,5,6,7,8]) (hR [2,4,5,6,7]))) hL) (hR [2,4,5,6,7]))) hL) hL)) (hS (hR [4]) hL)))),nils:=[],modes:=[(3,0)],free:=[],cob:=[] }
def Vz (N:Nat):List (Nat×Tw):=[(20,Hq N),(33,A06 N),(41,Ap6 N),(97,Bhr N),(35,Bhv N),(32,A03 N)]
def V0 (N:Nat):Env:=mkE 46 Rz (Vz N)
def Bc9 (N:Nat) (F:KF R):=Aq (V0 N) Tryz.f58 Rz.modes [] F
def At0 (N:Nat) (F:KF R):=atF (V0 N) [] N Tryz.f58 Rz (Bc9 N F)
def Lm  (F:KF R):LA→Option R:=(fun ae=>F (.pagg ae false) [])
def Ia (e:Bool) (a:LA) (c:Int) (d b:LA):St:={ s:=[(2,(.optr 300000 0)),(4,(.optr 300001 0)),(5,(.optr 300002 0)),(6,(.optr 300003 0)),(7,(.int .i64 c))],h:=[(300000,⟨false,false,true,e,0,a,false⟩),(300001,⟨false,false,false,false,0,[(.bool false),.nsl,.nsl],false⟩),(300002,⟨false,false,true,false,0,d,false⟩),(300003,⟨false,false,true,false,0,b,false⟩)] }
def At1 (N:Nat) (F:KF R):St→Option R:=Bx (V0 N) [] N (At0 N F [1,1,0,1,0] []) N
def R3 (N:Nat) (F:KF R) (n:Nat):St→Option R:=Ba (V0 N) [] N (At0 N F [1,1,0,1,0] []) n
theorem A5v (N:Nat)  (F:KF R) (e:Bool) (a:LA):∀ (n:Nat) (c:Int) (d b:LA),R3 N F n (Ia e a c d b)=(H9 N (Lm F) e a n c d b):=by
 intro n
 induction n with
 | zero=>intros;kernel_rfl
 | succ n ih =>
  intro c d b
  have e0:=funext fun c=>funext fun d=>funext fun b=>(show R3 N F n (Ia e a c d b)=_ from ih c d b)
  have hK:R3 N F (n+1) (Ia e a c d b)=(Ol N (Lm F) e a (fun c d b=>R3 N F n (Ia e a c d b)) c d b):=by kernel_rfl
  exact hK.trans (by rw [e0];rfl)
theorem Acw (N:Nat) (a:LA) (e:Bool) (f:LA) (g:Bool) (F:KF R):Ac Tryz.prog muts (Vz N) Rz N 58 [(.pagg a e),(.pagg f g)] [] F=(Wo N a e f g (Lm F)):=by
 have e1:=funext fun c=>funext fun d=>funext fun b=>(show At1 N F (Ia e a c d b)=_ from (Ar ..).trans (A5v N F e a N c d b))
 have hK:Ac Tryz.prog muts (Vz N) Rz N 58 [(.pagg a e),(.pagg f g)] [] F=(Anu N (Lm F) (fun c d b=>At1 N F (Ia e a c d b)) a e f g):=by kernel_rfl
 rw [Aoz]
 exact hK.trans (by rw [e1];rfl)
def Om (N:Nat) (args:List AV) (h:Aj) (k:KF R):Option R :=
 match args,h with
 | [(.pagg a e),(.pagg f g)],[]=>(Wo N a e f g (Lm k))
 | _,_=>none
def At2 (N:Nat):Tw:=⟨Om N,fun args h k=>by
 unfold Om;split
 exact twE (Acw ..) (Acw ..)
 rfl⟩
theorem Bjn (N:Nat):A1 Tryz.prog 58 (At2 N):=fun args h res p hh=>by
 change Om N args h (fun v p=>some (v,p))=_ at hh
 unfold Om at hh;split at hh
 exact Aa (T:=Vz N) ⟨Kz N,Bhl N,Baf N,Bs0 N,Bs1 N,Bhh N,trivial⟩ follows ((Acw ..).trans hh)
 cases hh
def T6 (N:Nat) (r0:LA→Int→Option R)  (a:LA) (c:Bool) (b:LA) (d:Bool):Option R :=
 (cond (Nat.ble 22 (List.length a)) (Z5 N (List.take 22 a) c 24 (fun g=>(cond (!g) (r0 [(.bool false),.nsl,.nsl] 1) (cond (Nat.ble 3 (List.length b)) (rdI .i64 (List.drop 2 a) fun i=>(rdI .i64 (List.drop 3 a) fun j=>(T5 N (List.take 3 b) d i j (fun l=>(cond (!l) (r0 [(.bool false),.nsl,.nsl] 3) (cond (Nat.ble 22 (List.length a)) (cond (Nat.ble 3 (List.length b)) (Wo N (List.take 22 a) c (List.take 3 b) d (fun e=>(cond ((Nat.beq 0 0)&&((Nat.beq (List.length e) 3)&&(Nat.beq 3 3))) (cond (Nat.ble 3 (List.length e)) (r0 (List.take 3 e) 0) none) none))) none) none)))))) none)))) none)
def T7 (N:Nat) (a:LA) (c:Bool) (b:LA) (d:Bool) (r0:LA→Int→Option R):Option R:=(T6 N r0 a c b d)
def En:=(Ai (@T7 R)).1
theorem Xt:@En R=@T7 R:=(Ai _).2
def Acx:Hints:={ H:=(hS (hR [2,3,4]) (hS (hS (hR [2,3,4,8]) (hN [2,3,4] (hS (hR [4,5]) hL) hL)) (hS (hS (hR [2,3,4,16]) (hN [2,3,4] (hS (hR [4,5]) hL) hL)) (hS (hR [4,5]) hL)))),nils:=[],modes:=[(3,0),(0,0)],free:=[],cob:=[] }
def R4 (N:Nat):List (Nat×Tw):=[(17,Ane N),(36,Ahf N),(58,At2 N)]
def O6  (F:KF R):LA→Int→Option R:=(fun m n=>F (.tup [(.pagg m false),(.int .i64 n)]) [])
theorem O7 (N:Nat) (a:LA) (c:Bool) (b:LA) (d:Bool) (F:KF R):Ac Tryz.prog muts (R4 N) Acx N 22 [(.pagg a c),(.pagg b d)] [] F=(En N a c b d (O6 F)):=by
 have hK:Ac Tryz.prog muts (R4 N) Acx N 22 [(.pagg a c),(.pagg b d)] [] F=(T6 N (O6 F) a c b d):=by kernel_rfl
 rw [Xt]
 exact hK
def Hi (N:Nat) (args:List AV) (h:Aj) (k:KF R):Option R :=
 match args,h with
 | [(.pagg a c),(.pagg b d)],[]=>(En N a c b d (O6 k))
 | _,_=>none
def Acy (N:Nat):Tw:=⟨Hi N,fun args h k=>by
 unfold Hi;split
 exact twE (O7 ..) (O7 ..)
 rfl⟩
theorem A17 (N:Nat):A1 Tryz.prog 22 (Acy N):=fun args h res f hh=>by
 change Hi N args h (fun v f=>some (v,f))=_ at hh
 unfold Hi at hh;split at hh
 exact Aa (T:=R4 N) ⟨A5f N,Ayb N,Bjn N,trivial⟩ follows ((O7 ..).trans hh)
 cases hh
def T8 (N:Nat) (k1:Bool→Bool→Int→Int→LA→LA→Option R) (r0:LA→LA→Bool→Bool→Option R) (i:Bool) (g e:Int) (d:Bool) (b:LA) (c:Bool) (a f:LA)   (o:Bool) (p m:LA):Option R :=
 (cond (Nat.ble 3 (List.length a)) (Bb N g (fun w=>(A2 N (List.take 3 a) c w false (fun x=>(cond ((decide (x≥(0:Int)))==true) (cond (Nat.ble 3 (List.length a)) (rdI .i64 m fun y=>(Bb N (IntKind.wrap .i64 (g+y)) (fun z=>(A2 N (List.take 3 a) c z false (fun aa=>(cond (cond true (decide (aa<(0:Int))) false) (rdI .i64 (List.drop 1 m) fun ab=>(Bb N ab (fun r=>(cond ((Nat.beq (List.length r) 3)&&((Nat.ble 3 (List.length f))&&(!false))) (rdI .i64 m fun ac=>(k1 o true (IntKind.wrap .i64 (g+ac)) (IntKind.wrap .i64 (e+(1:Int))) p (setCells f 0 r))) none)))) (rdI .i64 m fun ad=>(k1 o i (IntKind.wrap .i64 (g+ad)) (IntKind.wrap .i64 (e+(1:Int))) p f)))))))) none) (rdI .i64 m fun ae=>(k1 o i (IntKind.wrap .i64 (g+ae)) (IntKind.wrap .i64 (e+(1:Int))) p f))))))) none)
def Jp (N:Nat) (k1:Bool→Bool→Int→Int→LA→LA→Option R) (r0:LA→LA→Bool→Bool→Option R) (i:Bool) (g e:Int) (d:Bool) (b:LA) (c:Bool) (a f:LA) (o:Bool) (p m:LA):Option R:=(T8 N k1 r0 i g e d b c a f o p m)
def Mt (N:Nat)  (r0:LA→LA→Bool→Bool→Option R) (d:Bool) (b:LA) (c:Bool) (a:LA) (k1:Bool→Bool→Int→Int→LA→LA→Option R) (q2:Bool→LA→LA→Option R) (l i:Bool) (g e:Int) (j f:LA):Option R :=
 (rdL 2 (List.drop 4 b) fun ay af=>(cond (decide (e<((af:Nat):Int))) (rdL 2 (List.drop 4 b) fun q ag=>(cond (Am e ag) (cond (Nat.ble 2 (List.length (List.drop ((Int.toNat e)*2) q))) (cond ((!d)||(Bv (List.take 2 (List.drop ((Int.toNat e)*2) q)))) (cond ((Nat.beq (List.length (List.take 2 (List.drop ((Int.toNat e)*2) q))) 2)&&((Nat.ble 2 2)&&(!false))) (cond (Nat.ble 3 (List.length a)) (Bb N g (fun ah=>(A2 N (List.take 3 a) c ah false (fun ai=>(cond ((decide (ai>(0:Int)))==true) (cond (Nat.ble 3 (List.length a)) (rdI .i64 (setCells [(.int .i64 0),(.int .i64 0)] 0 (List.take 2 (List.drop ((Int.toNat e)*2) q))) fun aj=>(Bb N (IntKind.wrap .i64 (g+aj)) (fun ak=>(A2 N (List.take 3 a) c ak false (fun al=>(cond (cond true (decide (al≤(0:Int))) false) (rdI .i64 (List.drop 1 (setCells [(.int .i64 0),(.int .i64 0)] 0 (List.take 2 (List.drop ((Int.toNat e)*2) q)))) fun am=>(Bb N am (fun t=>(cond ((Nat.beq (List.length t) 3)&&((Nat.ble 3 (List.length j))&&(!false))) (q2 true (setCells j 0 t) (setCells [(.int .i64 0),(.int .i64 0)] 0 (List.take 2 (List.drop ((Int.toNat e)*2) q)))) none)))) (q2 l j (setCells [(.int .i64 0),(.int .i64 0)] 0 (List.take 2 (List.drop ((Int.toNat e)*2) q)))))))))) none) (q2 l j (setCells [(.int .i64 0),(.int .i64 0)] 0 (List.take 2 (List.drop ((Int.toNat e)*2) q))))))))) none) none) none) none) none)) (cond (Nat.ble 3 (List.length j)) (cond (Nat.ble 3 (List.length f)) (cond ((Nat.beq (List.length (List.take 3 j)) 3)&&((Nat.ble 3 (List.length j))&&(!false))) (cond ((Nat.beq (List.length (List.take 3 f)) 3)&&((Nat.ble 3 (List.length f))&&(!false))) (cond (Nat.ble 3 (List.length (setCells j 0 (List.take 3 j)))) (cond (Nat.ble 3 (List.length (setCells f 0 (List.take 3 f)))) (r0 (List.take 3 (setCells j 0 (List.take 3 j))) (List.take 3 (setCells f 0 (List.take 3 f))) l i) none) none) none) none) none) none)))
def Cz (N:Nat)  (r0:LA→LA→Bool→Bool→Option R) (d:Bool) (b:LA) (c:Bool) (a:LA):Nat→Bool→Bool→Int→Int→LA→LA→Option R
 | 0,_,_,_,_,_,_=>none
 | n+1,l,i,g,e,j,f=>(Mt N r0 d b c a (Cz N r0 d b c a n) (fun o p m=>(Jp N (Cz N r0 d b c a n) r0 i g e d b c a f o p m)) l i g e j f)
def T9 (N:Nat)  (r0:LA→LA→Bool→Bool→Option R) (d:Bool) (b:LA) (c:Bool) (a:LA)  (q1:Bool→Bool→Int→Int→LA→LA→Option R) :Option R :=
 (rdI .i64 (List.drop 2 b) fun an=>(q1 false false an 0 [(.bool false),.nsl,.nsl] [(.bool false),.nsl,.nsl]))
def Xd (N:Nat)  (r0:LA→LA→Bool→Bool→Option R) (d:Bool) (b:LA) (c:Bool) (a:LA) :Option R:=(T9 N r0 d b c a (fun l i g e j f=>(Cz N r0 d b c a N l i g e j f)))
def Ahg (N:Nat) (r0:LA→LA→Bool→Bool→Option R) (q0:Option R) (b:LA) (d:Bool) (a:LA) (c:Bool):Option R :=
 (cond (Nat.ble 22 (List.length b)) (Z5 N (List.take 22 b) d 24 (fun ao=>(cond ((!ao)==false) (cond (Nat.ble 3 (List.length a)) (rdI .i64 (List.drop 2 b) fun ap=>(rdI .i64 (List.drop 3 b) fun aq=>(T5 N (List.take 3 a) c ap aq (fun ar=>(cond (cond false true (!ar)) (r0 [(.bool false),.nsl,.nsl] [(.bool false),.nsl,.nsl] false false) q0))))) none) (r0 [(.bool false),.nsl,.nsl] [(.bool false),.nsl,.nsl] false false)))) none)
def Ahh (N:Nat) (b:LA) (d:Bool) (a:LA) (c:Bool) (r0:LA→LA→Bool→Bool→Option R):Option R:=(Ahg N r0 (Xd N r0 d b c a) b d a c)
def Jc:=(Ai (@Ahh R)).1
theorem Aix:@Jc R=@Ahh R:=(Ai _).2
def On:Hints:={ H:=(hS (hR [2,3,4,5,6,7]) (hJ (hS (hR [2,3,4,5,6,7,22]) (hN [2,3,4,5,6,7] (hS (hR [4,5,6,7]) hL) hL)) (hS (hR [2,3,4,5,6,7,8]) (hS (hS (hR [2,3,4,5,6,7,8,9]) (hN [4,5,6,7] (hN [2,3,4,5,6,7,8,9] (hS (hS (hR [2,3,4,5,6,7,8,9,31]) (hN [2,3,4,5,6,7,8,9] hL hL)) (hS (hN [2,3,4,5,6,7,8,9] (hS (hR [2,3,4,5,6,7,8,9,10]) (hJ (hS (hR [2,3,4,5,6,7,8,9,10,53]) (hN [2,3,4,5,6,7,8,9,10] (hR [2,3,4,5,6,7,8,9,10]) hL)) (hS (hS (hR [2,3,4,5,6,7,8,9,10,71]) (hN [2,3,4,5,6,7,8,9,10] (hR [2,3,4,5,6,7,8,9,10]) hL)) (hR [2,3,4,5,6,7,8,9])))) hL) (hR [2,3,4,5,6,7,8,9]))) hL) hL)) (hS (hR [4,5,6,7]) hL))))),nils:=[],modes:=[(3,0),(3,0),(0,0),(0,0)],free:=[],cob:=[4,5,10] }
def R5 (N:Nat):List (Nat×Tw):=[(17,Ane N),(36,Ahf N),(20,Hq N),(25,H2 N)]
def Ed (N:Nat):Env:=mkE 83 On (R5 N)
def A9h (N:Nat) (F:KF R):=Aq (Ed N) Tryz.f24 On.modes [] F
def Gk (N:Nat) (F:KF R):=atF (Ed N) [] N Tryz.f24 On (A9h N F)
def B5  (F:KF R):LA→LA→Bool→Bool→Option R:=(fun au av aw ax=>F (.tup [(.pagg au false),(.pagg av false),(.bool aw),(.bool ax)]) [])
def Oo (i:Bool) (g e:Int) (d:Bool) (b:LA) (c:Bool) (a f:LA) (o:Bool) (p m:LA):St:={ s:=[(2,(.optr 300000 0)),(3,(.optr 300001 0)),(4,(.optr 300002 0)),(5,(.optr 300003 0)),(6,(.bool o)),(7,(.bool i)),(8,(.int .i64 g)),(9,(.int .i64 e)),(10,(.optr 300004 0))],h:=[(300000,⟨false,false,true,d,0,b,false⟩),(300001,⟨false,false,true,c,0,a,false⟩),(300002,⟨false,false,true,false,0,p,false⟩),(300003,⟨false,false,true,false,0,f,false⟩),(300004,⟨false,false,true,false,0,m,false⟩)] }
def Ao0 (N:Nat) (F:KF R) (Q1:St→Option R):St→Option R:=Bm (Ed N) [] N (Gk N F [1,1,1,0,1,0,0,1,0,0,1,1] [Q1])
def Ao1 (N:Nat) (F:KF R) (Q1:St→Option R):St→Option R:=Bq (Ed N) [] N (Gk N F [1,1,1,0,1,0,0,1,0,0,1,1] [Q1])
def Dl (d:Bool) (b:LA) (c:Bool) (a:LA) (l i:Bool) (g e:Int) (j f:LA):St:={ s:=[(2,(.optr 300000 0)),(3,(.optr 300001 0)),(4,(.optr 300002 0)),(5,(.optr 300003 0)),(6,(.bool l)),(7,(.bool i)),(8,(.int .i64 g)),(9,(.int .i64 e))],h:=[(300000,⟨false,false,true,d,0,b,false⟩),(300001,⟨false,false,true,c,0,a,false⟩),(300002,⟨false,false,true,false,0,j,false⟩),(300003,⟨false,false,true,false,0,f,false⟩)] }
def Ao2 (N:Nat) (F:KF R):St→Option R:=Bx (Ed N) [] N (Gk N F [1,1,1,0,1,0] []) N
def Eo (N:Nat) (F:KF R) (n:Nat):St→Option R:=Ba (Ed N) [] N (Gk N F [1,1,1,0,1,0] []) n
def Oq (d:Bool) (b:LA) (c:Bool) (a:LA):St:={ s:=[(2,(.optr 300000 0)),(3,(.optr 300001 0)),(4,(.optr 300002 0)),(5,(.optr 300003 0)),(6,(.bool false)),(7,(.bool false))],h:=[(300000,⟨false,false,true,d,0,b,false⟩),(300001,⟨false,false,true,c,0,a,false⟩),(300002,⟨false,false,true,false,0,[(.bool false),.nsl,.nsl],false⟩),(300003,⟨false,false,true,false,0,[(.bool false),.nsl,.nsl],false⟩)] }
def Ao3 (N:Nat) (F:KF R):St→Option R:=Bm (Ed N) [] N (Gk N F [1,1] [])
def Ao4 (N:Nat) (F:KF R):St→Option R:=Bq (Ed N) [] N (Gk N F [1,1] [])
theorem A18 (N:Nat) (Q1:St→Option R) (F:KF R) (i:Bool) (g e:Int) (d:Bool) (b:LA) (c:Bool) (a f:LA):∀ (o:Bool) (p m:LA),Ao1 N F Q1 (Oo i g e d b c a f o p m)=(Jp N (fun l i g e j f=>Q1 (Dl d b c a l i g e j f)) (B5 F) i g e d b c a f o p m):=by
 intro o p m
 have hK:Ao1 N F Q1 (Oo i g e d b c a f o p m)=(T8 N (fun l i g e j f=>Q1 (Dl d b c a l i g e j f)) (B5 F) i g e d b c a f o p m):=by kernel_rfl
 exact hK
theorem A19 (N:Nat)  (F:KF R) (d:Bool) (b:LA) (c:Bool) (a:LA):∀ (n:Nat) (l i:Bool) (g e:Int) (j f:LA),Eo N F n (Dl d b c a l i g e j f)=(Cz N (B5 F) d b c a n l i g e j f):=by
 intro n
 induction n with
 | zero=>intros;kernel_rfl
 | succ n ih =>
  intro l i g e j f
  have e0:=funext fun l=>funext fun i=>funext fun g=>funext fun e=>funext fun j=>funext fun f=>(show Eo N F n (Dl d b c a l i g e j f)=_ from ih l i g e j f)
  have e1:(fun o p m=>Ao0 N F (Eo N F n) (Oo i g e d b c a f o p m))=(fun o p m=>(Jp N (Cz N (B5 F) d b c a n) (B5 F) i g e d b c a f o p m)):=by funext o;funext p;funext m;exact ((As ..).trans (A18 N (Eo N F n) F i g e d b c a f o p m)).trans (by rw [e0])
  have hK:Eo N F (n+1) (Dl d b c a l i g e j f)=(Mt N (B5 F) d b c a (fun l i g e j f=>Eo N F n (Dl d b c a l i g e j f)) (fun o p m=>Ao0 N F (Eo N F n) (Oo i g e d b c a f o p m)) l i g e j f):=by kernel_rfl
  exact hK.trans (by rw [e0,e1];rfl)
theorem A2a (N:Nat)  (F:KF R) (d:Bool) (b:LA) (c:Bool) (a:LA):Ao4 N F (Oq d b c a)=(Xd N (B5 F) d b c a):=by
 have e1:=funext fun l=>funext fun i=>funext fun g=>funext fun e=>funext fun j=>funext fun f=>(show Ao2 N F (Dl d b c a l i g e j f)=_ from (Ar ..).trans (A19 N F d b c a N l i g e j f))
 have hK:Ao4 N F (Oq d b c a)=(T9 N (B5 F) d b c a (fun l i g e j f=>Ao2 N F (Dl d b c a l i g e j f))):=by kernel_rfl
 exact hK.trans (by rw [e1];rfl)
theorem Xe (N:Nat) (b:LA) (d:Bool) (a:LA) (c:Bool) (F:KF R):Ac Tryz.prog muts (R5 N) On N 24 [(.pagg b d),(.pagg a c)] [] F=(Jc N b d a c (B5 F)):=by
 have e1:=(show Ao3 N F (Oq d b c a)=_ from (As ..).trans (A2a N F d b c a))
 have hK:Ac Tryz.prog muts (R5 N) On N 24 [(.pagg b d),(.pagg a c)] [] F=(Ahg N (B5 F) (Ao3 N F (Oq d b c a)) b d a c):=by kernel_rfl
 rw [Aix]
 exact hK.trans (by rw [e1];rfl)
def Mu (N:Nat) (args:List AV) (h:Aj) (k:KF R):Option R :=
 match args,h with
 | [(.pagg b d),(.pagg a c)],[]=>(Jc N b d a c (B5 k))
 | _,_=>none
def Ao5 (N:Nat):Tw:=⟨Mu N,fun args h k=>by
 unfold Mu;split
 exact twE (Xe ..) (Xe ..)
 rfl⟩
theorem Bda (N:Nat):A1 Tryz.prog 24 (Ao5 N):=fun args h res u hh=>by
 change Mu N args h (fun v u=>some (v,u))=_ at hh
 unfold Mu at hh;split at hh
 exact Aa (T:=R5 N) ⟨A5f N,Ayb N,Kz N,K5 N,trivial⟩ follows ((Xe ..).trans hh)
 cases hh
end
end Gx

namespace Gx
open Go Go.Proofs
set_option maxRecDepth 100000
noncomputable section
variable {R:Type}
def Ln (N:Nat)  (r0:Bool→Option R) (a:List UInt8) (b d e:Int) (f:LA) (g:Nat) (u c:Bool) (i j l m n bb bc bd o p be q r:Int) (ap:Nat) (bf bg t:Int) (bh:LA)   (aw:LA):Option R :=
 (cond (Nat.ble 3 (List.length aw)) (Eb N [(.str a),(.int .i64 b),(.int .i64 d),(.int .i64 e),(.imm f g 2 false c),(.int .i64 i),(.int .i64 j),(.int .i64 l),(.int .i64 m),(.int .i64 n),(.int .i64 bb),(.int .i64 bc),(.int .i64 bd),(.int .i64 o),(.int .i64 p),(.int .i64 be),(.int .i64 q),(.int .i64 r),(.imm (List.take (ap*1) bh) ap 1 false true),(.int .i64 bf),(.int .i64 bg),(.int .i64 t)] (c||true) (List.take 3 aw) false (fun cd cy=>(cond ((Nat.beq 0 0)&&((Nat.beq (List.length cd) 3)&&(Nat.beq 3 3))) (cond (Nat.ble 3 (List.length aw)) (En N [(.str a),(.int .i64 b),(.int .i64 d),(.int .i64 e),(.imm f g 2 false c),(.int .i64 i),(.int .i64 j),(.int .i64 l),(.int .i64 m),(.int .i64 n),(.int .i64 bb),(.int .i64 bc),(.int .i64 bd),(.int .i64 o),(.int .i64 p),(.int .i64 be),(.int .i64 q),(.int .i64 r),(.imm (List.take (ap*1) bh) ap 1 false true),(.int .i64 bf),(.int .i64 bg),(.int .i64 t)] (c||true) (List.take 3 aw) false (fun ce cz=>(cond ((Nat.beq 0 0)&&((Nat.beq (List.length ce) 3)&&(Nat.beq 3 3))) (cond (Nat.ble 3 (List.length aw)) (In N [(.str a),(.int .i64 b),(.int .i64 d),(.int .i64 e),(.imm f g 2 false c),(.int .i64 i),(.int .i64 j),(.int .i64 l),(.int .i64 m),(.int .i64 n),(.int .i64 bb),(.int .i64 bc),(.int .i64 bd),(.int .i64 o),(.int .i64 p),(.int .i64 be),(.int .i64 q),(.int .i64 r),(.imm (List.take (ap*1) bh) ap 1 false true),(.int .i64 bf),(.int .i64 bg),(.int .i64 t)] (c||true) (List.take 3 aw) false (fun cf cg da db=>(cond ((Nat.beq 0 0)&&((Nat.beq (List.length cf) 3)&&(Nat.beq 3 3))) (cond ((Nat.beq 0 0)&&((Nat.beq (List.length cg) 3)&&(Nat.beq 3 3))) (cond (Nat.ble 3 (List.length aw)) (Jc N [(.str a),(.int .i64 b),(.int .i64 d),(.int .i64 e),(.imm f g 2 false c),(.int .i64 i),(.int .i64 j),(.int .i64 l),(.int .i64 m),(.int .i64 n),(.int .i64 bb),(.int .i64 bc),(.int .i64 bd),(.int .i64 o),(.int .i64 p),(.int .i64 be),(.int .i64 q),(.int .i64 r),(.imm (List.take (ap*1) bh) ap 1 false true),(.int .i64 bf),(.int .i64 bg),(.int .i64 t)] (c||true) (List.take 3 aw) false (fun ch ci dc dd=>(cond ((Nat.beq 0 0)&&((Nat.beq (List.length ch) 3)&&(Nat.beq 3 3))) (cond ((Nat.beq 0 0)&&((Nat.beq (List.length ci) 3)&&(Nat.beq 3 3))) (Io N (fun de=>(cond (de==true) (cond ((cond true (cy==cz) false)==true) (cond (Nat.ble 3 (List.length cd)) (cond (Nat.ble 3 (List.length ce)) (A2 N (List.take 3 cd) false (List.take 3 ce) false (fun df=>(cond ((cond true (df==(0:Int)) false)==true) (cond ((cond true (da==dc) false)==true) (cond ((cond true (db==dd) false)==true) (cond (Nat.ble 3 (List.length cf)) (cond (Nat.ble 3 (List.length ch)) (A2 N (List.take 3 cf) false (List.take 3 ch) false (fun dg=>(cond ((cond true (dg==(0:Int)) false)==true) (cond (Nat.ble 3 (List.length cg)) (cond (Nat.ble 3 (List.length ci)) (A2 N (List.take 3 cg) false (List.take 3 ci) false (fun dh=>(r0 (cond true (dh==(0:Int)) false)))) none) none) (r0 false)))) none) none) (r0 false)) (r0 false)) (r0 false)))) none) none) (r0 false)) (r0 false)))) none) none))) none) none) none))) none) none))) none) none))) none)
def Mx (N:Nat)  (r0:Bool→Option R) (a:List UInt8) (b d e:Int) (f:LA) (g:Nat) (u c:Bool) (i j l m n bb bc bd o p be q r:Int) (ap:Nat) (bf bg t:Int) (bh aw:LA):Option R:=(Ln N r0 a b d e f g u c i j l m n bb bc bd o p be q r ap bf bg t bh aw)
def F0 (N:Nat)  (r0:Bool→Option R) (a:List UInt8) (b aq ax:Int) (ar:Nat) (bi bj bk bl bm bn bo bp bq br bs bt bu:Int) (au:Nat) (bv bw bx:Int) (bz ca:LA)   (ay:LA):Option R :=
 (cond (Nat.ble 3 (List.length ay)) (Eb N [(.str a),(.int .i64 b),(.int .i64 aq),(.int .i64 ax),(.imm (List.take (ar*2) bz) ar 2 false true),(.int .i64 bi),(.int .i64 bj),(.int .i64 bk),(.int .i64 bl),(.int .i64 bm),(.int .i64 bn),(.int .i64 bo),(.int .i64 bp),(.int .i64 bq),(.int .i64 br),(.int .i64 bs),(.int .i64 bt),(.int .i64 bu),(.imm (List.take (au*1) ca) au 1 false true),(.int .i64 bv),(.int .i64 bw),(.int .i64 bx)] true (List.take 3 ay) false (fun cj di=>(cond ((Nat.beq 0 0)&&((Nat.beq (List.length cj) 3)&&(Nat.beq 3 3))) (cond (Nat.ble 3 (List.length ay)) (En N [(.str a),(.int .i64 b),(.int .i64 aq),(.int .i64 ax),(.imm (List.take (ar*2) bz) ar 2 false true),(.int .i64 bi),(.int .i64 bj),(.int .i64 bk),(.int .i64 bl),(.int .i64 bm),(.int .i64 bn),(.int .i64 bo),(.int .i64 bp),(.int .i64 bq),(.int .i64 br),(.int .i64 bs),(.int .i64 bt),(.int .i64 bu),(.imm (List.take (au*1) ca) au 1 false true),(.int .i64 bv),(.int .i64 bw),(.int .i64 bx)] true (List.take 3 ay) false (fun ck dj=>(cond ((Nat.beq 0 0)&&((Nat.beq (List.length ck) 3)&&(Nat.beq 3 3))) (cond (Nat.ble 3 (List.length ay)) (In N [(.str a),(.int .i64 b),(.int .i64 aq),(.int .i64 ax),(.imm (List.take (ar*2) bz) ar 2 false true),(.int .i64 bi),(.int .i64 bj),(.int .i64 bk),(.int .i64 bl),(.int .i64 bm),(.int .i64 bn),(.int .i64 bo),(.int .i64 bp),(.int .i64 bq),(.int .i64 br),(.int .i64 bs),(.int .i64 bt),(.int .i64 bu),(.imm (List.take (au*1) ca) au 1 false true),(.int .i64 bv),(.int .i64 bw),(.int .i64 bx)] true (List.take 3 ay) false (fun cl cm dk dl=>(cond ((Nat.beq 0 0)&&((Nat.beq (List.length cl) 3)&&(Nat.beq 3 3))) (cond ((Nat.beq 0 0)&&((Nat.beq (List.length cm) 3)&&(Nat.beq 3 3))) (cond (Nat.ble 3 (List.length ay)) (Jc N [(.str a),(.int .i64 b),(.int .i64 aq),(.int .i64 ax),(.imm (List.take (ar*2) bz) ar 2 false true),(.int .i64 bi),(.int .i64 bj),(.int .i64 bk),(.int .i64 bl),(.int .i64 bm),(.int .i64 bn),(.int .i64 bo),(.int .i64 bp),(.int .i64 bq),(.int .i64 br),(.int .i64 bs),(.int .i64 bt),(.int .i64 bu),(.imm (List.take (au*1) ca) au 1 false true),(.int .i64 bv),(.int .i64 bw),(.int .i64 bx)] true (List.take 3 ay) false (fun cn co dm dn=>(cond ((Nat.beq 0 0)&&((Nat.beq (List.length cn) 3)&&(Nat.beq 3 3))) (cond ((Nat.beq 0 0)&&((Nat.beq (List.length co) 3)&&(Nat.beq 3 3))) (Io N (fun dp=>(cond (dp==true) (cond ((cond true (di==dj) false)==true) (cond (Nat.ble 3 (List.length cj)) (cond (Nat.ble 3 (List.length ck)) (A2 N (List.take 3 cj) false (List.take 3 ck) false (fun dq=>(cond ((cond true (dq==(0:Int)) false)==true) (cond ((cond true (dk==dm) false)==true) (cond ((cond true (dl==dn) false)==true) (cond (Nat.ble 3 (List.length cl)) (cond (Nat.ble 3 (List.length cn)) (A2 N (List.take 3 cl) false (List.take 3 cn) false (fun dr=>(cond ((cond true (dr==(0:Int)) false)==true) (cond (Nat.ble 3 (List.length cm)) (cond (Nat.ble 3 (List.length co)) (A2 N (List.take 3 cm) false (List.take 3 co) false (fun ds=>(r0 (cond true (ds==(0:Int)) false)))) none) none) (r0 false)))) none) none) (r0 false)) (r0 false)) (r0 false)))) none) none) (r0 false)) (r0 false)))) none) none))) none) none) none))) none) none))) none) none))) none)
def Dm (N:Nat)  (r0:Bool→Option R) (a:List UInt8) (b aq ax:Int) (ar:Nat) (bi bj bk bl bm bn bo bp bq br bs bt bu:Int) (au:Nat) (bv bw bx:Int) (bz ca ay:LA):Option R:=(F0 N r0 a b aq ax ar bi bj bk bl bm bn bo bp bq br bs bt bu au bv bw bx bz ca ay)
def F1 (N:Nat)  (r0:Bool→Option R) (a:List UInt8) (b d e:Int) (f:LA) (g:Nat) (u c:Bool) (i j l m n z aa ab o p ac q r:Int) (ad:LA) (ae:Nat) (am w:Bool) (af ag t:Int) (ah:Bool) (ai:LA) (aj:Nat) (an x:Bool) (ak:LA) (al:Nat) (ao y:Bool)   :Option R :=
 (Eb N [(.str a),(.int .i64 b),(.int .i64 d),(.int .i64 e),(.imm f g 2 false c),(.int .i64 i),(.int .i64 j),(.int .i64 l),(.int .i64 m),(.int .i64 n),(.int .i64 z),(.int .i64 aa),(.int .i64 ab),(.int .i64 o),(.int .i64 p),(.int .i64 ac),(.int .i64 q),(.int .i64 r),(.imm ad ae 1 false w),(.int .i64 af),(.int .i64 ag),(.int .i64 t)] (c||(w||false)) [(.bool ah),(.imm ai aj 1 false x),(.imm ak al 1 false y)] (x||(y||false)) (fun cp dt=>(cond ((Nat.beq 0 0)&&((Nat.beq (List.length cp) 3)&&(Nat.beq 3 3))) (En N [(.str a),(.int .i64 b),(.int .i64 d),(.int .i64 e),(.imm f g 2 false c),(.int .i64 i),(.int .i64 j),(.int .i64 l),(.int .i64 m),(.int .i64 n),(.int .i64 z),(.int .i64 aa),(.int .i64 ab),(.int .i64 o),(.int .i64 p),(.int .i64 ac),(.int .i64 q),(.int .i64 r),(.imm ad ae 1 false w),(.int .i64 af),(.int .i64 ag),(.int .i64 t)] (c||(w||false)) [(.bool ah),(.imm ai aj 1 false x),(.imm ak al 1 false y)] (x||(y||false)) (fun cq du=>(cond ((Nat.beq 0 0)&&((Nat.beq (List.length cq) 3)&&(Nat.beq 3 3))) (In N [(.str a),(.int .i64 b),(.int .i64 d),(.int .i64 e),(.imm f g 2 false c),(.int .i64 i),(.int .i64 j),(.int .i64 l),(.int .i64 m),(.int .i64 n),(.int .i64 z),(.int .i64 aa),(.int .i64 ab),(.int .i64 o),(.int .i64 p),(.int .i64 ac),(.int .i64 q),(.int .i64 r),(.imm ad ae 1 false w),(.int .i64 af),(.int .i64 ag),(.int .i64 t)] (c||(w||false)) [(.bool ah),(.imm ai aj 1 false x),(.imm ak al 1 false y)] (x||(y||false)) (fun cr cs dv dw=>(cond ((Nat.beq 0 0)&&((Nat.beq (List.length cr) 3)&&(Nat.beq 3 3))) (cond ((Nat.beq 0 0)&&((Nat.beq (List.length cs) 3)&&(Nat.beq 3 3))) (Jc N [(.str a),(.int .i64 b),(.int .i64 d),(.int .i64 e),(.imm f g 2 false c),(.int .i64 i),(.int .i64 j),(.int .i64 l),(.int .i64 m),(.int .i64 n),(.int .i64 z),(.int .i64 aa),(.int .i64 ab),(.int .i64 o),(.int .i64 p),(.int .i64 ac),(.int .i64 q),(.int .i64 r),(.imm ad ae 1 false w),(.int .i64 af),(.int .i64 ag),(.int .i64 t)] (c||(w||false)) [(.bool ah),(.imm ai aj 1 false x),(.imm ak al 1 false y)] (x||(y||false)) (fun ct cu dx dy=>(cond ((Nat.beq 0 0)&&((Nat.beq (List.length ct) 3)&&(Nat.beq 3 3))) (cond ((Nat.beq 0 0)&&((Nat.beq (List.length cu) 3)&&(Nat.beq 3 3))) (Io N (fun dz=>(cond (dz==true) (cond ((cond true (dt==du) false)==true) (cond (Nat.ble 3 (List.length cp)) (cond (Nat.ble 3 (List.length cq)) (A2 N (List.take 3 cp) false (List.take 3 cq) false (fun ea=>(cond ((cond true (ea==(0:Int)) false)==true) (cond ((cond true (dv==dx) false)==true) (cond ((cond true (dw==dy) false)==true) (cond (Nat.ble 3 (List.length cr)) (cond (Nat.ble 3 (List.length ct)) (A2 N (List.take 3 cr) false (List.take 3 ct) false (fun eb=>(cond ((cond true (eb==(0:Int)) false)==true) (cond (Nat.ble 3 (List.length cs)) (cond (Nat.ble 3 (List.length cu)) (A2 N (List.take 3 cs) false (List.take 3 cu) false (fun ec=>(r0 (cond true (ec==(0:Int)) false)))) none) none) (r0 false)))) none) none) (r0 false)) (r0 false)) (r0 false)))) none) none) (r0 false)) (r0 false)))) none) none))) none) none))) none))) none)))
def Dn (N:Nat)  (r0:Bool→Option R) (a:List UInt8) (b d e:Int) (f:LA) (g:Nat) (u c:Bool) (i j l m n z aa ab o p ac q r:Int) (ad:LA) (ae:Nat) (am w:Bool) (af ag t:Int) (ah:Bool) (ai:LA) (aj:Nat) (an x:Bool) (ak:LA) (al:Nat) (ao y:Bool) :Option R:=(F1 N r0 a b d e f g u c i j l m n z aa ab o p ac q r ad ae am w af ag t ah ai aj an x ak al ao y)
def F2 (N:Nat)  (r0:Bool→Option R) (av az:Int) (ba:Bool) (a:List UInt8) (b d e:Int) (f:LA) (g:Nat) (u c:Bool) (i j l m n z aa ab o p ac q r:Int) (ad:LA) (ae:Nat) (am w:Bool) (af ag t:Int) (ah:Bool) (ai:LA) (aj:Nat) (an x:Bool) (ak:LA) (al:Nat) (ao y:Bool)  (q1:Int→Int→Int→Int→Nat→Int→Int→LA→LA→Option R) (q2:Int→Int→Nat→Int→Int→Int→Int→Int→Int→Int→Int→Int→Int→Int→Int→Int→Nat→Int→Int→Int→LA→LA→LA→Option R) (q3:Option R) :Option R :=
 (cond ba (Ar9 N a b d e f g u c i j l m n z aa ab o p ac q r ad ae am w af ag t 12 (fun bb bc bd be ap bf bg bh=>(Aw N av (IntKind.wrap .i64 ((IntKind.wrap .i64 ((4:Int)*(IntKind.wrap .i64 (e - d))))+(5:Int))) (fun ed=>(A8c N (IntKind.wrap .i64 ((IntKind.wrap .i64 ((IntKind.wrap .i64 (d*(4:Int))) - (2:Int)))+ed)) 4 (fun cb=>(cond ((Nat.beq 0 0)&&((Nat.beq (List.length cb) 3)&&(Nat.beq 3 3))) (cond ((Int.tmod az (2:Int))==(0:Int)) (Aw N av (IntKind.wrap .i64 ((IntKind.wrap .i64 (e - d))+(1:Int))) (fun ee=>(Bb N (IntKind.wrap .i64 (d+ee)) (fun cv=>(cond ((Nat.beq (List.length cv) 3)&&((Nat.ble 3 (List.length cb))&&(!false))) (q1 bb bc bd be ap bf bg bh (setCells cb 0 cv)) none))))) (q1 bb bc bd be ap bf bg bh cb)) none)))))) (fun aq ax ar bi bj bk bl bm bn bo bp bq br bs bt bu au bv bw bx bz ca=>(Aw N av (IntKind.wrap .i64 ((IntKind.wrap .i64 ((4:Int)*(IntKind.wrap .i64 (ax - aq))))+(5:Int))) (fun ef=>(A8c N (IntKind.wrap .i64 ((IntKind.wrap .i64 ((IntKind.wrap .i64 (aq*(4:Int))) - (2:Int)))+ef)) 4 (fun cc=>(cond ((Nat.beq 0 0)&&((Nat.beq (List.length cc) 3)&&(Nat.beq 3 3))) (cond ((Int.tmod az (2:Int))==(0:Int)) (Aw N av (IntKind.wrap .i64 ((IntKind.wrap .i64 (ax - aq))+(1:Int))) (fun eg=>(Bb N (IntKind.wrap .i64 (aq+eg)) (fun cw=>(cond ((Nat.beq (List.length cw) 3)&&((Nat.ble 3 (List.length cc))&&(!false))) (q2 aq ax ar bi bj bk bl bm bn bo bp bq br bs bt bu au bv bw bx bz ca (setCells cc 0 cw)) none))))) (q2 aq ax ar bi bj bk bl bm bn bo bp bq br bs bt bu au bv bw bx bz ca cc)) none))))))) q3)
def Do (N:Nat)  (r0:Bool→Option R) (av az:Int) (ba:Bool) (a:List UInt8) (b d e:Int) (f:LA) (g:Nat) (u c:Bool) (i j l m n z aa ab o p ac q r:Int) (ad:LA) (ae:Nat) (am w:Bool) (af ag t:Int) (ah:Bool) (ai:LA) (aj:Nat) (an x:Bool) (ak:LA) (al:Nat) (ao y:Bool) :Option R:=(F2 N r0 av az ba a b d e f g u c i j l m n z aa ab o p ac q r ad ae am w af ag t ah ai aj an x ak al ao y (fun bb bc bd be ap bf bg bh aw=>(Mx N r0 a b d e f g u c i j l m n bb bc bd o p be q r ap bf bg t bh aw)) (fun aq ax ar bi bj bk bl bm bn bo bp bq br bs bt bu au bv bw bx bz ca ay=>(Dm N r0 a b aq ax ar bi bj bk bl bm bn bo bp bq br bs bt bu au bv bw bx bz ca ay)) (Dn N r0 a b d e f g u c i j l m n z aa ab o p ac q r ad ae am w af ag t ah ai aj an x ak al ao y))
def Ib (N:Nat) (r0:Bool→Option R) (q0:Option R) (a:List UInt8) (b d e:Int) (f:LA) (g:Nat) (u c:Bool) (i j l m n z aa ab o p ac q r:Int) (ad:LA) (ae:Nat) (am w:Bool) (af ag t:Int) (ah:Bool) (ai:LA) (aj:Nat) (an x:Bool) (ak:LA) (al:Nat) (ao y:Bool) (av az:Int) (ba:Bool):Option R :=
 (Wg N [(.str a),(.int .i64 b),(.int .i64 d),(.int .i64 e),(.imm f g 2 false c),(.int .i64 i),(.int .i64 j),(.int .i64 l),(.int .i64 m),(.int .i64 n),(.int .i64 z),(.int .i64 aa),(.int .i64 ab),(.int .i64 o),(.int .i64 p),(.int .i64 ac),(.int .i64 q),(.int .i64 r),(.imm ad ae 1 false w),(.int .i64 af),(.int .i64 ag),(.int .i64 t)] (c||(w||false)) (fun eh=>(cond ((!eh)==false) (Bjl N [(.bool ah),(.imm ai aj 1 an x),(.imm ak al 1 ao y)] 1 false true (fun ei=>(cond (cond false true (!ei)) (r0 true) q0))) (r0 true))))
def Ic (N:Nat) (a:List UInt8) (b d e:Int) (f:LA) (g:Nat) (u c:Bool) (i j l m n z aa ab o p ac q r:Int) (ad:LA) (ae:Nat) (am w:Bool) (af ag t:Int) (ah:Bool) (ai:LA) (aj:Nat) (an x:Bool) (ak:LA) (al:Nat) (ao y:Bool) (av az:Int) (ba:Bool) (r0:Bool→Option R):Option R:=(Ib N r0 (Do N r0 av az ba a b d e f g u c i j l m n z aa ab o p ac q r ad ae am w af ag t ah ai aj an x ak al ao y) a b d e f g u c i j l m n z aa ab o p ac q r ad ae am w af ag t ah ai aj an x ak al ao y av az ba)
def E1:=(Ai (@Ic R)).1
theorem Lo:@E1 R=@Ic R:=(Ai _).2
def Dp:Hints:={ H:=(hS (hR [2,3,4,5,6]) (hJ (hS (hR [2,3,4,5,6,31]) (hN [2,3,4,5,6] (hS (hR [10]) hL) hL)) (hJ (hS (hR [2,3,5,6,32]) (hN [5,6] (hS (hR [2,3,5,6]) (hS (hR [2,3,5,6]) (hS (hR [2,5,6,52]) (hN [5,6] (hR [5,6]) hL)))) hL)) (hS (hR [5,6,11,12]) (hS (hR [5,6,11,12,13,14]) (hS (hR [5,6,11,12,13,14,15,16,17,18]) (hS (hR [11,12,13,14,15,16,17,18,19,20,21,22]) (hS (hR [10]) hL)))))))),nils:=[],modes:=[],free:=[],cob:=[] }
def D6 (N:Nat):List (Nat×Tw):=[(11,Ar2 N),(18,Bm5 N),(14,Bbp N),(12,Al1 N),(19,Bme N),(20,Hq N),(21,Rb N),(22,Acy N),(23,Ace N),(24,Ao5 N),(15,Atl N),(25,H2 N)]
def A3 (N:Nat):Env:=mkE 127 Dp (D6 N)
def Acz (N:Nat) (F:KF R):=Aq (A3 N) Tryz.f4 Dp.modes [] F
def Bf (N:Nat) (F:KF R):=atF (A3 N) [] N Tryz.f4 Dp (Acz N F)
def Ay  (F:KF R):Bool→Option R:=(fun ej=>F (.bool ej) [])
def Dq (a:List UInt8) (b d e:Int) (f:LA) (g:Nat) (u c:Bool) (i j l m n bb bc bd o p be q r:Int) (ap:Nat) (bf bg t:Int) (bh aw:LA):St:={ s:=[(5,(.optr 300000 0)),(6,(.optr 300001 0))],h:=[(300000,⟨false,false,false,false,0,[(.str a),(.int .i64 b),(.int .i64 d),(.int .i64 e),(.imm f g 2 u c),(.int .i64 i),(.int .i64 j),(.int .i64 l),(.int .i64 m),(.int .i64 n),(.int .i64 bb),(.int .i64 bc),(.int .i64 bd),(.int .i64 o),(.int .i64 p),(.int .i64 be),(.int .i64 q),(.int .i64 r),(.own 300002 0 ap),(.int .i64 bf),(.int .i64 bg),(.int .i64 t)],false⟩),(300001,⟨false,false,true,false,0,aw,false⟩),(300002,⟨false,false,true,false,1,bh,false⟩)] }
def My (N:Nat) (F:KF R):St→Option R:=Bm (A3 N) [] N (Bf N F [1,1,1] [])
def Mz (N:Nat) (F:KF R):St→Option R:=Bq (A3 N) [] N (Bf N F [1,1,1] [])
def Dr (a:List UInt8) (b aq ax:Int) (ar:Nat) (bi bj bk bl bm bn bo bp bq br bs bt bu:Int) (au:Nat) (bv bw bx:Int) (bz ca ay:LA):St:={ s:=[(5,(.optr 300000 0)),(6,(.optr 300001 0))],h:=[(300000,⟨false,false,false,false,0,[(.str a),(.int .i64 b),(.int .i64 aq),(.int .i64 ax),(.own 300002 0 ar),(.int .i64 bi),(.int .i64 bj),(.int .i64 bk),(.int .i64 bl),(.int .i64 bm),(.int .i64 bn),(.int .i64 bo),(.int .i64 bp),(.int .i64 bq),(.int .i64 br),(.int .i64 bs),(.int .i64 bt),(.int .i64 bu),(.own 300003 0 au),(.int .i64 bv),(.int .i64 bw),(.int .i64 bx)],false⟩),(300001,⟨false,false,true,false,0,ay,false⟩),(300002,⟨false,false,true,false,2,bz,false⟩),(300003,⟨false,false,true,false,1,ca,false⟩)] }
def M0 (N:Nat) (F:KF R):St→Option R:=Bm (A3 N) [] N (Bf N F [1,1,1] [])
def M5 (N:Nat) (F:KF R):St→Option R:=Bq (A3 N) [] N (Bf N F [1,1,1] [])
def Ds (a:List UInt8) (b d e:Int) (f:LA) (g:Nat) (u c:Bool) (i j l m n z aa ab o p ac q r:Int) (ad:LA) (ae:Nat) (am w:Bool) (af ag t:Int) (ah:Bool) (ai:LA) (aj:Nat) (an x:Bool) (ak:LA) (al:Nat) (ao y:Bool):St:={ s:=[(5,(.optr 300000 0)),(6,(.optr 300001 0))],h:=[(300000,⟨false,false,false,false,0,[(.str a),(.int .i64 b),(.int .i64 d),(.int .i64 e),(.imm f g 2 u c),(.int .i64 i),(.int .i64 j),(.int .i64 l),(.int .i64 m),(.int .i64 n),(.int .i64 z),(.int .i64 aa),(.int .i64 ab),(.int .i64 o),(.int .i64 p),(.int .i64 ac),(.int .i64 q),(.int .i64 r),(.imm ad ae 1 am w),(.int .i64 af),(.int .i64 ag),(.int .i64 t)],false⟩),(300001,⟨false,false,false,false,0,[(.bool ah),(.imm ai aj 1 an x),(.imm ak al 1 ao y)],false⟩)] }
def M6 (N:Nat) (F:KF R):St→Option R:=Bm (A3 N) [] N (Bf N F [1,1,1] [])
def M7 (N:Nat) (F:KF R):St→Option R:=Bq (A3 N) [] N (Bf N F [1,1,1] [])
def Dt (av az:Int) (ba:Bool) (a:List UInt8) (b d e:Int) (f:LA) (g:Nat) (u c:Bool) (i j l m n z aa ab o p ac q r:Int) (ad:LA) (ae:Nat) (am w:Bool) (af ag t:Int) (ah:Bool) (ai:LA) (aj:Nat) (an x:Bool) (ak:LA) (al:Nat) (ao y:Bool):St:={ s:=[(2,(.int .i64 av)),(3,(.int .i64 az)),(4,(.bool ba)),(5,(.optr 300000 0)),(6,(.optr 300001 0))],h:=[(300000,⟨false,false,false,false,0,[(.str a),(.int .i64 b),(.int .i64 d),(.int .i64 e),(.imm f g 2 u c),(.int .i64 i),(.int .i64 j),(.int .i64 l),(.int .i64 m),(.int .i64 n),(.int .i64 z),(.int .i64 aa),(.int .i64 ab),(.int .i64 o),(.int .i64 p),(.int .i64 ac),(.int .i64 q),(.int .i64 r),(.imm ad ae 1 am w),(.int .i64 af),(.int .i64 ag),(.int .i64 t)],false⟩),(300001,⟨false,false,false,false,0,[(.bool ah),(.imm ai aj 1 an x),(.imm ak al 1 ao y)],false⟩)] }
def M8 (N:Nat) (F:KF R):St→Option R:=Bm (A3 N) [] N (Bf N F [1,1] [])
def M9 (N:Nat) (F:KF R):St→Option R:=Bq (A3 N) [] N (Bf N F [1,1] [])
theorem Xf (N:Nat)  (F:KF R) (a:List UInt8) (b d e:Int) (f:LA) (g:Nat) (u c:Bool) (i j l m n bb bc bd o p be q r:Int) (ap:Nat) (bf bg t:Int) (bh:LA):∀ (aw:LA),Mz N F (Dq a b d e f g u c i j l m n bb bc bd o p be q r ap bf bg t bh aw)=(Mx N (Ay F) a b d e f g u c i j l m n bb bc bd o p be q r ap bf bg t bh aw):=by
 intro aw
 have hK:Mz N F (Dq a b d e f g u c i j l m n bb bc bd o p be q r ap bf bg t bh aw)=(Ln N (Ay F) a b d e f g u c i j l m n bb bc bd o p be q r ap bf bg t bh aw):=by kernel_rfl
 exact hK
theorem Xg (N:Nat)  (F:KF R) (a:List UInt8) (b aq ax:Int) (ar:Nat) (bi bj bk bl bm bn bo bp bq br bs bt bu:Int) (au:Nat) (bv bw bx:Int) (bz ca:LA):∀ (ay:LA),M5 N F (Dr a b aq ax ar bi bj bk bl bm bn bo bp bq br bs bt bu au bv bw bx bz ca ay)=(Dm N (Ay F) a b aq ax ar bi bj bk bl bm bn bo bp bq br bs bt bu au bv bw bx bz ca ay):=by
 intro ay
 have hK:M5 N F (Dr a b aq ax ar bi bj bk bl bm bn bo bp bq br bs bt bu au bv bw bx bz ca ay)=(F0 N (Ay F) a b aq ax ar bi bj bk bl bm bn bo bp bq br bs bt bu au bv bw bx bz ca ay):=by kernel_rfl
 exact hK
theorem Xh (N:Nat)  (F:KF R) (a:List UInt8) (b d e:Int) (f:LA) (g:Nat) (u c:Bool) (i j l m n z aa ab o p ac q r:Int) (ad:LA) (ae:Nat) (am w:Bool) (af ag t:Int) (ah:Bool) (ai:LA) (aj:Nat) (an x:Bool) (ak:LA) (al:Nat) (ao y:Bool):M7 N F (Ds a b d e f g u c i j l m n z aa ab o p ac q r ad ae am w af ag t ah ai aj an x ak al ao y)=(Dn N (Ay F) a b d e f g u c i j l m n z aa ab o p ac q r ad ae am w af ag t ah ai aj an x ak al ao y):=by
 have hK:M7 N F (Ds a b d e f g u c i j l m n z aa ab o p ac q r ad ae am w af ag t ah ai aj an x ak al ao y)=(F1 N (Ay F) a b d e f g u c i j l m n z aa ab o p ac q r ad ae am w af ag t ah ai aj an x ak al ao y):=by kernel_rfl
 exact hK
theorem Xi (N:Nat)  (F:KF R) (av az:Int) (ba:Bool) (a:List UInt8) (b d e:Int) (f:LA) (g:Nat) (u c:Bool) (i j l m n z aa ab o p ac q r:Int) (ad:LA) (ae:Nat) (am w:Bool) (af ag t:Int) (ah:Bool) (ai:LA) (aj:Nat) (an x:Bool) (ak:LA) (al:Nat) (ao y:Bool):M9 N F (Dt av az ba a b d e f g u c i j l m n z aa ab o p ac q r ad ae am w af ag t ah ai aj an x ak al ao y)=(Do N (Ay F) av az ba a b d e f g u c i j l m n z aa ab o p ac q r ad ae am w af ag t ah ai aj an x ak al ao y):=by
 have e1:=funext fun bb=>funext fun bc=>funext fun bd=>funext fun be=>funext fun ap=>funext fun bf=>funext fun bg=>funext fun bh=>funext fun aw=>(show My N F (Dq a b d e f g u c i j l m n bb bc bd o p be q r ap bf bg t bh aw)=_ from (As ..).trans (Xf N F a b d e f g u c i j l m n bb bc bd o p be q r ap bf bg t bh aw))
 have e2:=funext fun aq=>funext fun ax=>funext fun ar=>funext fun bi=>funext fun bj=>funext fun bk=>funext fun bl=>funext fun bm=>funext fun bn=>funext fun bo=>funext fun bp=>funext fun bq=>funext fun br=>funext fun bs=>funext fun bt=>funext fun bu=>funext fun au=>funext fun bv=>funext fun bw=>funext fun bx=>funext fun bz=>funext fun ca=>funext fun ay=>(show M0 N F (Dr a b aq ax ar bi bj bk bl bm bn bo bp bq br bs bt bu au bv bw bx bz ca ay)=_ from (As ..).trans (Xg N F a b aq ax ar bi bj bk bl bm bn bo bp bq br bs bt bu au bv bw bx bz ca ay))
 have e3:=(show M6 N F (Ds a b d e f g u c i j l m n z aa ab o p ac q r ad ae am w af ag t ah ai aj an x ak al ao y)=_ from (As ..).trans (Xh N F a b d e f g u c i j l m n z aa ab o p ac q r ad ae am w af ag t ah ai aj an x ak al ao y))
 have hK:M9 N F (Dt av az ba a b d e f g u c i j l m n z aa ab o p ac q r ad ae am w af ag t ah ai aj an x ak al ao y)=(F2 N (Ay F) av az ba a b d e f g u c i j l m n z aa ab o p ac q r ad ae am w af ag t ah ai aj an x ak al ao y (fun bb bc bd be ap bf bg bh aw=>My N F (Dq a b d e f g u c i j l m n bb bc bd o p be q r ap bf bg t bh aw)) (fun aq ax ar bi bj bk bl bm bn bo bp bq br bs bt bu au bv bw bx bz ca ay=>M0 N F (Dr a b aq ax ar bi bj bk bl bm bn bo bp bq br bs bt bu au bv bw bx bz ca ay)) (M6 N F (Ds a b d e f g u c i j l m n z aa ab o p ac q r ad ae am w af ag t ah ai aj an x ak al ao y))):=by kernel_rfl
 exact hK.trans (by rw [e1,e2,e3];rfl)
theorem Ga (N:Nat) (a:List UInt8) (b d e:Int) (f:LA) (g:Nat) (u c:Bool) (i j l m n z aa ab o p ac q r:Int) (ad:LA) (ae:Nat) (am w:Bool) (af ag t:Int) (ah:Bool) (ai:LA) (aj:Nat) (an x:Bool) (ak:LA) (al:Nat) (ao y:Bool) (av az:Int) (ba:Bool) (F:KF R):Ac Tryz.prog muts (D6 N) Dp N 4 [(.agg [(.str a),(.int .i64 b),(.int .i64 d),(.int .i64 e),(.imm f g 2 u c),(.int .i64 i),(.int .i64 j),(.int .i64 l),(.int .i64 m),(.int .i64 n),(.int .i64 z),(.int .i64 aa),(.int .i64 ab),(.int .i64 o),(.int .i64 p),(.int .i64 ac),(.int .i64 q),(.int .i64 r),(.imm ad ae 1 am w),(.int .i64 af),(.int .i64 ag),(.int .i64 t)]),(.agg [(.bool ah),(.imm ai aj 1 an x),(.imm ak al 1 ao y)]),(.int .i64 av),(.int .i64 az),(.bool ba)] [] F=(E1 N a b d e f g u c i j l m n z aa ab o p ac q r ad ae am w af ag t ah ai aj an x ak al ao y av az ba (Ay F)):=by
 have e1:=(show M8 N F (Dt av az ba a b d e f g u c i j l m n z aa ab o p ac q r ad ae am w af ag t ah ai aj an x ak al ao y)=_ from (As ..).trans (Xi N F av az ba a b d e f g u c i j l m n z aa ab o p ac q r ad ae am w af ag t ah ai aj an x ak al ao y))
 have hK:Ac Tryz.prog muts (D6 N) Dp N 4 [(.agg [(.str a),(.int .i64 b),(.int .i64 d),(.int .i64 e),(.imm f g 2 u c),(.int .i64 i),(.int .i64 j),(.int .i64 l),(.int .i64 m),(.int .i64 n),(.int .i64 z),(.int .i64 aa),(.int .i64 ab),(.int .i64 o),(.int .i64 p),(.int .i64 ac),(.int .i64 q),(.int .i64 r),(.imm ad ae 1 am w),(.int .i64 af),(.int .i64 ag),(.int .i64 t)]),(.agg [(.bool ah),(.imm ai aj 1 an x),(.imm ak al 1 ao y)]),(.int .i64 av),(.int .i64 az),(.bool ba)] [] F=(Ib N (Ay F) (M8 N F (Dt av az ba a b d e f g u c i j l m n z aa ab o p ac q r ad ae am w af ag t ah ai aj an x ak al ao y)) a b d e f g u c i j l m n z aa ab o p ac q r ad ae am w af ag t ah ai aj an x ak al ao y av az ba):=by kernel_rfl
 rw [Lo]
 exact hK.trans (by rw [e1];rfl)
def Dg (N:Nat) (args:List AV) (h:Aj) (k:KF R):Option R :=
 match args,h with
 | [(.agg [(.str a),(.int .i64 b),(.int .i64 d),(.int .i64 e),(.imm f g 2 u c),(.int .i64 i),(.int .i64 j),(.int .i64 l),(.int .i64 m),(.int .i64 n),(.int .i64 z),(.int .i64 aa),(.int .i64 ab),(.int .i64 o),(.int .i64 p),(.int .i64 ac),(.int .i64 q),(.int .i64 r),(.imm ad ae 1 am w),(.int .i64 af),(.int .i64 ag),(.int .i64 t)]),(.agg [(.bool ah),(.imm ai aj 1 an x),(.imm ak al 1 ao y)]),(.int .i64 av),(.int .i64 az),(.bool ba)],[]=>(E1 N a b d e f g u c i j l m n z aa ab o p ac q r ad ae am w af ag t ah ai aj an x ak al ao y av az ba (Ay k))
 | _,_=>none
def Na (N:Nat):Tw:=⟨Dg N,fun args h k=>by
 unfold Dg;split
 exact twE (Ga ..) (Ga ..)
 rfl⟩
theorem Ac2 (N:Nat):A1 Tryz.prog 4 (Na N):=fun args h res cx hh=>by
 change Dg N args h (fun v cx=>some (v,cx))=_ at hh
 unfold Dg at hh;split at hh
 exact Aa (T:=D6 N) ⟨Bhw N,Bvx N,Bqw N,A4e N,Bvd N,Kz N,Afb N,A17 N,Asw N,Bda N,Bix N,K5 N,trivial⟩ follows ((Ga ..).trans hh)
 cases hh
end
end Gx

namespace Gx
open Go Go.Proofs
section
variable {R:Type}
theorem tk3 (x:RatD):List.take 3 x.av=x.av:=rfl
theorem b3 (x:RatD):Nat.ble 3 (List.length x.av)=true:=rfl
theorem c3 (x:RatD):((Nat.beq 0 0)&&((Nat.beq (List.length x.av) 3)&&(Nat.beq 3 3)))=true:=rfl
theorem c4 (x y:RatD):((Nat.beq (List.length x.av) 3)&&((Nat.ble 3 (List.length y.av))&&(!false)))=true:=rfl
theorem c4' (x:RatD):((Nat.beq (List.length x.av) 3)&&(true&&(!false)))=true:=rfl
theorem Btm (x y:RatD):setCells x.av 0 y.av=y.av:=rfl
section
variable {N:Nat} {X:Option R} {K:LA→Option R} {x y:RatD} {o o':Bool} {p q:Rat}
theorem Bzd (hx:x.can p) (hy:y.can q) (hf:fit (8*(qm p+qm q)+40) N) (h:∀ d:RatD,d.can (p+q)→K d.av=X):Art N x.av o y.av o' K=X:=by
  obtain ⟨d,hd,e⟩:=Bm0 (R:=R) (N:=N) (o:=o) (o':=o') hx.ok hy.ok (by rw [hx.m,hy.m];exact hf)
  rw [e];exact h d (by rw [hx.q,hy.q] at hd;exact hd)
theorem Bze (hx:x.can p) (hy:y.can q) (hf:fit (8*(qm p+qm q)+40) N) (h:∀ d:RatD,d.can (p - q)→K d.av=X):Aru N x.av o y.av o' K=X:=by
  obtain ⟨d,hd,e⟩:=Bm1 (R:=R) (N:=N) (o:=o) (o':=o') hx.ok hy.ok (by rw [hx.m,hy.m];exact hf)
  rw [e];exact h d (by rw [hx.q,hy.q] at hd;exact hd)
theorem Bzf (hx:x.can p) (hy:y.can q) (hf:fit (8*(qm p+qm q)+40) N) (h:∀ d:RatD,d.can (p*q)→K d.av=X):A71 N x.av o y.av o' K=X:=by
  obtain ⟨d,hd,e⟩:=Bvt (R:=R) (N:=N) (o:=o) (o':=o') hx.ok hy.ok (by rw [hx.m,hy.m];exact hf)
  rw [e];exact h d (by rw [hx.q,hy.q] at hd;exact hd)
theorem Bzg (hx:x.can p) (hy:y.can q) (hf:fit (8*(qm p+qm q)+40) N) (h:∀ d:RatD,d.can (if p≤q then p else q)→K d.av=X):A7y N x.av o y.av o' K=X:=by
  obtain ⟨d,hd,e⟩:=Bvu (R:=R) (N:=N) (o:=o) (o':=o') hx.ok hy.ok (by rw [hx.m,hy.m];exact hf)
  rw [e];exact h d (by rw [hx.q,hy.q] at hd;exact hd)
theorem V1 {v:Int} (hv:-9223372036854775808≤v∧v≤9223372036854775807) (hN:4≤N) (h:∀ d:RatD,d.can (v:Rat)→K d.av=X):C0 N v K=X:=by
  obtain ⟨d,hd,e⟩:=Bks (R:=R) (N:=N) hv hN
  rw [e];exact h d hd
end
theorem Byc {q:Rat}:decide (q.num.sign≤0)=decide (q≤0):=by
  have e:q≤0↔q.num≤0:=by
    rw [Rat.le_iff_sub_nonneg,← Rat.num_nonneg,Rat.sub_eq_add_neg,Rat.zero_add,Rat.neg_num];omega
  rw [decide_eq_decide,e]
  rcases Int.lt_trichotomy q.num 0 with h | h | h
  · rw [Int.sign_eq_neg_one_of_neg h];omega
  · rw [h];simp
  · rw [Int.sign_eq_one_of_pos h];omega
theorem qi {v:Int} (h:-9223372036854775808≤v∧v≤9223372036854775807):qm (v:Rat)≤2:=Bzc (by omega)
def Afq:Rat→List SegD→Rat
  | _,[]=>0
  | Lu,s::r=>if Lu≤0 then 0 else (s.price:Rat)*(if Lu≤(s.width:Rat) then Lu else (s.width:Rat))+Afq (Lu - (if Lu≤(s.width:Rat) then Lu else (s.width:Rat))) r
def sgR (l:List SegD):Prop:=∀ s ∈ l,-1048576≤s.width∧s.width≤1048576∧-1048576≤s.price∧s.price≤1048576
theorem Bxi {N:Nat} {X:Option R} {K:LA→Option R} {v:Int} {x:RatD} {q:Rat} {o:Bool} (hv:-9223372036854775808≤v∧v≤9223372036854775807) (hx:x.can q) (hf:fit (8*(2+qm q)+40) N) (h:∀ d:RatD,d.can ((v:Rat)*q)→K d.av=X):Asn N v x.av o K=X:=by
  rw [A4p];unfold A8u A8t
  refine V1 hv (by have:=hf.1;omega) fun d hd=>?_
  simp only [tk3,b3,ct]
  refine Bzf hd hx (hf.le (by have:=qi hv;omega)) fun d' hd'=>?_
  simp only [tk3,b3,c3,ct]
  exact h d' hd'
theorem Byd {N:Nat} {X:Option R} {K:LA→Option R} {l:List SegD} {d:Bool} {A:Nat} (hl:sgR l) (h8:l.length≤8) (hA:2≤A) (hf:fit (100*A+6000) N):∀ (m j fuel:Nat) (x y:RatD) (p q:Rat),j+m=l.length→m<fuel→x.can p→y.can q→qm p≤A+3*j→qm q≤2+j*(A+31) →
    (∀ d:RatD,d.can (q+Afq p (l.drop j))→K d.av=X)→Eg N K (l.flatMap SegD.av) l.length d fuel (l.length:Int) (j:Int) x.av y.av=X:=by
  intro m
  induction m with
  | zero =>
    intro j fuel x y p q hj hfu hx hy _ _ hX
    obtain ⟨fuel,rfl⟩:∃ k,fuel=k+1:=⟨fuel - 1,by omega⟩
    rw [Eg];unfold I8
    rw [ltF (by omega),cf]
    simp only [tk3,b3,c3,ct]
    rw [Ax4 (l:=l) (by omega)] at hX
    exact hX y (by rw [Afq,Rat.add_zero];exact hy)
  | succ m ih =>
    intro j fuel x y p q hj hfu hx hy hp hq hX
    obtain ⟨fuel,rfl⟩:∃ k,fuel=k+1:=⟨fuel - 1,by omega⟩
    rw [Eg];unfold I8
    have h:j<l.length:=by omega
    have hj8:j≤8:=by omega
    have hr:=hl l[j] (List.getElem_mem h)
    have hjA:j*(A+31)≤8*(A+31):=Nat.mul_le_mul_right _ hj8
    rw [ltT h,ct,Ah h,ct,Ag8 h]
    have p0:List.take 2 ((AV.int .i64 l[j].width)::(AV.int .i64 l[j].price)::(l.drop (j+1)).flatMap SegD.av)=[(.int .i64 l[j].width),(.int .i64 l[j].price)]:=rfl
    rw [p0,show Nat.ble 2 (List.length ((AV.int .i64 l[j].width)::(AV.int .i64 l[j].price)::(l.drop (j+1)).flatMap SegD.av))=true by simp,ct]
    rw [show ((!d)||Bv [(AV.int .i64 l[j].width),(.int .i64 l[j].price)])=true by cases d<;>rfl,ct]
    rw [show ((Nat.beq (List.length [(AV.int .i64 l[j].width),(.int .i64 l[j].price)]) 2)&&((Nat.ble 2 2)&&(!false)))=true from rfl,ct]
    simp only [tk3,b3,c3,ct,A11,Afm]
    rw [Ll hx.ok (hf.le (by rw [hx.m];omega)),hx.q,Byc]
    rw [Ax3 h,Afq] at hX
    by_cases hp0:p≤0
    · rw [decide_eq_true hp0,ct]
      rw [if_pos hp0,Rat.add_zero] at hX
      exact hX y hy
    · rw [decide_eq_false hp0,cf]
      rw [if_neg hp0] at hX
      refine V1 (by omega) (by have:=hf.1;omega) fun wd hwd=>?_
      have hqw:=qi (v:=l[j].width) (by omega)
      have hqp:=qi (v:=l[j].price) (by omega)
      refine Bzg hx hwd (hf.le (by omega)) fun pd hpd=>?_
      simp only [tk3,b3,c3,ct]
      generalize hpart:(if p≤(l[j].width:Rat) then p else (l[j].width:Rat))=part at hpd hX
      have hqpart:qm part≤A+3*j:=by rw [← hpart];split<;>omega
      refine Bxi (by omega) hpd (hf.le (by omega)) fun td htd=>?_
      have hqt:qm ((l[j].price:Rat)*part)≤2+(A+3*j):=by have:=Bth (l[j].price:Rat) part;omega
      refine Bzd hy htd (hf.le (by omega)) fun ad had=>?_
      rw [c4',ct]
      refine Bze hx hpd (hf.le (by omega)) fun sd hsd=>?_
      rw [c4',ct,Btm,Btm]
      rw [wS (by omega)]
      have hqa:qm (q+(l[j].price:Rat)*part)≤2+(j+1)*(A+31):=by
        have:=Bo9 q ((l[j].price:Rat)*part)
        rw [Nat.add_mul];omega
      have hqs:qm (p - part)≤A+3*(j+1):=by
        rw [← hpart]
        split
        · rw [Rat.sub_self]
          have:qm ((0:Int):Rat)≤2:=qi (by omega)
          have e:((0:Int):Rat)=0:=rfl
          rw [e] at this;omega
        · have:=A16 p (l[j].width:Rat);omega
      refine ih (j+1) fuel sd ad _ _ (by omega) (by omega) hsd had hqs hqa fun d hd=>hX d ?_
      rw [← Rat.add_assoc];exact hd
def RatD.is (x:RatD) (q:Rat) (m:Nat):Prop:=x.ok∧x.q=q∧x.m≤m
theorem RatD.can.is {x:RatD} {q:Rat} {m:Nat} (h:x.can q) (hm:qm q≤m):x.is q m:=⟨h.ok,h.q,by rw [h.m];exact hm⟩
def Aiy:RatD:=⟨false,.nil,.nil⟩
theorem Hj {m:Nat}:Aiy.is 0 m:=by
  refine ⟨⟨?_,?_⟩,?_,?_⟩
  · intro x hx;simp [Aiy,LS.l] at hx
  · intro x hx;simp [Aiy,LS.l] at hx
  · simp [Aiy,RatD.q,LS.l,Ap,val]
  · simp [Aiy,RatD.m,LS.l]
theorem RatD.is.qm {x:RatD} {q:Rat} {m:Nat} (h:x.is q m):qm q≤m+1:=by
  have:=Ax9 x h.1
  rw [h.2.1] at this;have:=h.2.2;omega
section
variable {N:Nat} {X:Option R} {K:LA→Option R} {K':Int→Option R} {x y:RatD} {o o':Bool} {p q:Rat} {m n:Nat}
theorem Bye (hx:x.is p m) (hy:y.is q n) (hf:fit (8*(m+n)+40) N) (h:∀ d:RatD,d.can (p - q)→K d.av=X):Aru N x.av o y.av o' K=X:=by
  obtain ⟨d,hd,e⟩:=Bm1 (R:=R) (N:=N) (o:=o) (o':=o') hx.1 hy.1 (hf.le (by have:=hx.2.2;have:=hy.2.2;omega))
  rw [e];exact h d (by rw [hx.2.1,hy.2.1] at hd;exact hd)
theorem Byf (hx:x.is p m) (hy:y.is q n) (hf:fit (4*(m+n)+10) N):G0 N x.av o y.av o' K'=K' (Xc p q):=by
  rw [Ahb hx.1 hy.1 (hf.le (by have:=hx.2.2;have:=hy.2.2;omega)),hx.2.1,hy.2.1]
theorem Bdb (hx:x.is p m) (hy:y.is q n) (hf:fit (16*(m+n)+100) N):A2 N x.av o y.av o' K'=K' (Xc p q):=by
  rw [Atw hx.1 hy.1 (hf.le (by have:=hx.2.2;have:=hy.2.2;omega)),hx.2.1,hy.2.1]
theorem Bzw (hx:x.is p m) (hy:y.is q n) (hf:fit (16*(m+n)+100) N):Aej N x.av o y.av o' K=K (cqD (p - q)).av:=by
  rw [Bjj hx.1 hy.1 (hf.le (by have:=hx.2.2;have:=hy.2.2;omega)),hx.2.1,hy.2.1];rfl
theorem Bz6 (hx:x.is p m) (hy:y.is q n) (hf:fit (16*(m+n)+80) N):Alt N x.av o y.av o' K=K (cqD (p+q)).av:=by
  rw [Bji hx.1 hy.1 (hf.le (by have:=hx.2.2;have:=hy.2.2;omega)),hx.2.1,hy.2.1];rfl
theorem Bz7 (hx:x.is p m) (hy:y.is q n) (hf:fit (16*(m+n)+80) N):Avn N x.av o y.av o' K=K (cqD (p*q)).av:=by
  rw [Btj hx.1 hy.1 (hf.le (by have:=hx.2.2;have:=hy.2.2;omega)),hx.2.1,hy.2.1];rfl
theorem Bz8 (hx:x.is p m) (hy:y.is q n) (hf:fit (16*(m+n)+100) N):Avm N x.av o y.av o' K=K (cqD (if p≤q then p else q)).av:=by
  rw [Btk hx.1 hy.1 (hf.le (by have:=hx.2.2;have:=hy.2.2;omega)),hx.2.1,hy.2.1];rfl
theorem Wp {v:Int} (hv:-9223372036854775808≤v∧v≤9223372036854775807) (hN:4000≤N):Bb N v K=K (cqD (v:Rat)).av:=Bjk hv hN
end
theorem At3 {q:Rat} {m:Nat} (h:qm q≤m):(cqD q).is q m:=(Bdr q).is h
theorem qiI {v:Int} (h:-9223372036854775808≤v∧v≤9223372036854775807):(cqD (v:Rat)).is v 2:=At3 (qi h)
theorem Bxj {p q:Rat}:decide (Xc p q≥0)=decide (q≤p):=by
  rw [decide_eq_decide];unfold Xc
  by_cases h:p<q
  · rw [if_pos h];simp [Rat.not_le.2 h]
  · rw [if_neg h];have:=Rat.not_lt.1 h;simp only [this,iff_true];split<;>omega
theorem Bxk {p q:Rat}:decide (Xc p q≤0)=decide (p≤q):=by rw [decide_eq_decide];exact A5r
def inQ (p:Rat) (lo hi:Int):Bool:=decide ((lo:Rat)≤p)&&decide (p≤(hi:Rat))
theorem Bck {N:Nat} {K:Bool→Option R} {x:RatD} {p:Rat} {m:Nat} {o:Bool} {lo hi:Int} (hx:x.is p m) (h1:-9223372036854775808≤lo∧lo≤9223372036854775807) (h2:-9223372036854775808≤hi∧hi≤9223372036854775807) (hf:fit (4*(m+2)+10) N) (hN:4≤N):Z4 N x.av o lo hi K=K (inQ p lo hi):=by
  rw [Axs];unfold A1i A1h
  rw [b3,ct,tk3]
  refine V1 h1 hN fun a ha=>?_
  rw [Byf hx (ha.is (qi h1)) hf,Bxj]
  refine (congrArg (cond _ · _) (V1 (X:=K (decide (p≤(hi:Rat)))) h2 hN fun b hb=>?_)).trans ?_
  · rw [Byf hx (hb.is (qi h2)) hf,Bxk];rfl
  · unfold inQ;cases decide ((lo:Rat)≤p)<;>rfl
theorem Bcl {N:Nat} {K:Bool→Option R} {x:RatD} {p:Rat} {m:Nat} {o:Bool} {lo hi:Int} (hx:x.is p m) (h1:-9223372036854775808≤lo∧lo≤9223372036854775807) (h2:-9223372036854775808≤hi∧hi≤9223372036854775807) (hf:fit (16*(m+2)+100) N) (hN:4000≤N):T5 N x.av o lo hi K=K (inQ p lo hi):=by
  rw [Atz];unfold Aty Atx
  rw [b3,ct,tk3,Wp h1 hN,Bdb hx (qiI h1) hf,Bxj,Wp h2 hN,Bdb hx (qiI h2) hf,Bxk]
  unfold inQ;cases decide ((lo:Rat)≤p)<;>rfl
theorem Btn {N:Nat} {X:Option R} {K:LA→Option R} {u:UnitD} {x:RatD} {o o':Bool} {p:Rat} {m:Nat} (hx:x.is p m) (hl:sgR u.segs.l) (h8:u.segs.l.length≤8) (hu:-1048576≤u.min∧u.min≤1048576) (hf:fit (100*(m+8)+6000) N)
    (h:∀ d:RatD,d.can (Afq (p - (u.min:Rat)) u.segs.l)→K d.av=X):Ld N u.av o x.av o' K=X:=by
  rw [Aca];unfold W4 W3
  rw [b3,ct,tk3,u2]
  refine V1 (by omega) (by have:=hf.1;omega) fun a ha=>?_
  refine Bye hx (ha.is (qi (by omega))) (hf.le (by omega)) fun r hr=>?_
  rw [c3,ct]
  refine V1 (by omega) (by have:=hf.1;omega) fun z hz=>?_
  rw [c3,ct,u4]
  have hq:qm (p - (u.min:Rat))≤m+4:=by have:=A16 p (u.min:Rat);have:=hx.qm;have:=qi (v:=u.min) (by omega);omega
  refine Byd (A:=m+4) hl h8 (by omega) (hf.le (by omega)) u.segs.l.length 0 N r z (p - (u.min:Rat)) ((0:Int):Rat) (by omega) (by have:=hf.1;omega) hr hz (by omega) (by have:=qi (v:=0) (by omega);omega) fun d hd=>?_
  exact h d (by rw [List.drop_zero,show (((0:Int):Rat))=0 from rfl,Rat.zero_add] at hd;exact hd)
end
end Gx

namespace Gx
open Go Go.Proofs
section
variable {R:Type}
def A5w:Rat→List SegD→Rat
  | _,[]=>0
  | Lu,s::r=>(if Lu≤(s.width:Rat) then Lu else (s.width:Rat))*(s.price:Rat)+A5w (Lu - (if Lu≤(s.width:Rat) then Lu else (s.width:Rat))) r
theorem Bjo:∀ {l:List SegD},(∀ s ∈ l,0≤s.width)→A5w 0 l=0
  | [],_=>rfl
  | s::r,h=>by
    have h0:(0:Rat)≤(s.width:Rat):=by
      have:=h s (by simp);exact_mod_cast this
    rw [A5w,if_pos h0,Rat.zero_mul,Rat.sub_self,Bjo fun s hs=>h s (by simp [hs]),Rat.add_zero]
theorem Bru:∀ {l:List SegD} {p:Rat},(∀ s ∈ l,0≤s.width)→0≤p→A5w p l=Afq p l
  | [],_,_,_=>rfl
  | s::r,p,h,hp=>by
    have h0:(0:Rat)≤(s.width:Rat):=by
      have:=h s (by simp);exact_mod_cast this
    rw [Afq]
    by_cases hz:p≤0
    · have:p=0:=Rat.le_antisymm hz hp
      subst this
      rw [if_pos (Rat.le_refl),Bjo h]
    · rw [if_neg hz,A5w,Rat.mul_comm,Bru (fun s hs=>h s (by simp [hs]))]
      split
      · rw [Rat.sub_self];exact Rat.le_refl
      · rename_i hn
        exact (Rat.le_iff_sub_nonneg _ _).1 (Rat.le_of_lt (Rat.not_le.1 hn))
theorem Bxl {N:Nat} {K:LA→Option R} {u:UnitD} {d:Bool} {A:Nat} (hl:sgR u.segs.l) (h8:u.segs.l.length≤8) (hA:2≤A) (hf:fit (200*A+12000) N) (hN:4000≤N):∀ (m j fuel:Nat) (p q:Rat),j+m=u.segs.l.length→m<fuel→qm p≤A+3*j→qm q≤2+j*(A+31) →
    H9 N K d u.av fuel (j:Int) (cqD p).av (cqD q).av=K (cqD (q+A5w p (u.segs.l.drop j))).av:=by
  intro m
  induction m with
  | zero =>
    intro j fuel p q hj hfu _ _
    obtain ⟨fuel,rfl⟩:∃ k,fuel=k+1:=⟨fuel - 1,by omega⟩
    rw [H9];unfold Ol
    rw [u4,ltF (by omega),cf,Ax4 (l:=u.segs.l) (by omega),A5w,Rat.add_zero];rfl
  | succ m ih =>
    intro j fuel p q hj hfu hp hq
    obtain ⟨fuel,rfl⟩:∃ k,fuel=k+1:=⟨fuel - 1,by omega⟩
    rw [H9];unfold Ol
    have h:j<u.segs.l.length:=by omega
    have hj8:j≤8:=by omega
    have hr:=hl u.segs.l[j] (List.getElem_mem h)
    have hjA:j*(A+31)≤8*(A+31):=Nat.mul_le_mul_right _ hj8
    rw [u4,ltT h,ct]
    simp only [b3,tk3,ct,u4]
    rw [Ah h,ct,Ag8 h,Bi,Wp (by omega) hN]
    have hqw:=qi (v:=u.segs.l[j].width) (by omega)
    have hqp:=qi (v:=u.segs.l[j].price) (by omega)
    rw [Bz8 (At3 hp) (At3 hqw) (hf.le (by omega))]
    rw [Ax3 h,A5w]
    generalize hpart:(if p≤(u.segs.l[j].width:Rat) then p else (u.segs.l[j].width:Rat))=part
    have hqpart:qm part≤A+3*j:=by rw [← hpart];split<;>omega
    simp only [b3,tk3,c3,ct]
    rw [show ∀ r:List AV,List.drop 1 ((AV.int .i64 u.segs.l[j].width)::(AV.int .i64 u.segs.l[j].price)::r)=(AV.int .i64 u.segs.l[j].price)::r from fun _=>rfl,Bi,Wp (by omega) hN]
    rw [Bz7 (At3 hqpart) (At3 hqp) (hf.le (by omega))]
    have hqt:qm (part*(u.segs.l[j].price:Rat))≤2+(A+3*j):=by have:=Bth part (u.segs.l[j].price:Rat);omega
    rw [Bz6 (At3 hq) (At3 hqt) (hf.le (by omega))]
    rw [c4',ct,Bzw (At3 hp) (At3 hqpart) (hf.le (by omega)),c4',ct,Btm,Btm,wS (by omega)]
    have hqa:qm (q+part*(u.segs.l[j].price:Rat))≤2+(j+1)*(A+31):=by
      have:=Bo9 q (part*(u.segs.l[j].price:Rat))
      rw [Nat.add_mul];omega
    have hqs:qm (p - part)≤A+3*(j+1):=by
      rw [← hpart]
      split
      · rw [Rat.sub_self]
        have:qm ((0:Int):Rat)≤2:=qi (by omega)
        have e:((0:Int):Rat)=0:=rfl
        rw [e] at this;omega
      · have:=A16 p (u.segs.l[j].width:Rat);omega
    rw [ih (j+1) fuel _ _ (by omega) (by omega) hqs hqa,Rat.add_assoc]
theorem Bpd {N:Nat} {K:LA→Option R} {u:UnitD} {x:RatD} {o o':Bool} {p:Rat} {m:Nat} (hx:x.is p m) (hl:sgR u.segs.l) (h8:u.segs.l.length≤8) (hu:-1048576≤u.min∧u.min≤1048576) (hf:fit (200*(m+8)+12000) N) (hN:4000≤N) :
    Wo N u.av o x.av o' K=K (cqD (A5w (p - (u.min:Rat)) u.segs.l)).av:=by
  rw [Aoz];unfold Anv Anu
  rw [b3,ct,tk3,u2,Wp (by omega) hN,Bzw hx (qiI (by omega)) (hf.le (by omega)),Bjh,c3,ct,show cq 0=(cqD 0).av from rfl,c3,ct]
  have hq:qm (p - (u.min:Rat))≤m+4:=by have:=A16 p (u.min:Rat);have:=hx.qm;have:=qi (v:=u.min) (by omega);omega
  have h0:qm (0:Rat)≤2:=qi (v:=0) (by omega)
  have:=Bxl (K:=K) (d:=o) (A:=m+4) hl h8 (by omega) (hf.le (by omega)) hN u.segs.l.length 0 N (p - (u.min:Rat)) 0 (by omega) (by have:=hf.1;omega) (by omega) (by omega)
  rw [List.drop_zero,Rat.zero_add] at this
  exact this
theorem Aiz {u:UnitD} {h:Int} (hv:J9 u h=true):(0≤u.min∧u.min≤1048576)∧(0≤u.max∧u.max≤1048576)∧u.min≤u.max:=by
  simp only [J9,Bool.and_eq_true,inR,decide_eq_true_eq] at hv
  exact ⟨hv.2.2.1,hv.2.2.2.1,hv.2.2.2.2.2.2.2.1⟩
theorem Ua {u:UnitD} {h:Int} (hv:J9 u h=true):u.segs.l.length≤8∧Acv (-1048576) u.segs.l=true∧A89 u.segs.l=u.max - u.min:=by
  simp only [J9,Bool.and_eq_true] at hv
  have:=hv.2.2.2.2.2.2.2.2.2.2.2.2.2.2.2.1
  simpa [Bcf] using this
theorem Bpe:∀ {l:List SegD} {p:Int},Acv p l=true→(∀ s ∈ l,1≤s.width∧s.width≤1048576∧-1048576≤s.price∧s.price≤1048576)
  | [],_,_,_,hs=>by simp at hs
  | a::r,p,h,s,hs=>by
    simp only [Acv,Bool.and_eq_true,inR,decide_eq_true_eq] at h
    rcases List.mem_cons.1 hs with rfl | hs
    · omega
    · exact Bpe h.2.2.2 s hs
theorem Ai0 {u:UnitD} {h:Int} (hv:J9 u h=true):sgR u.segs.l:=fun s hs=>by
  have:=Bpe (Ua hv).2.1 s hs;omega
def scE (u:UnitD) (p:Rat):Int:=cond (J9 u 24) (cond (inQ p u.min u.max) 0 3) 1
def scQ (u:UnitD) (p:Rat):Rat:=cond (J9 u 24&&inQ p u.min u.max) (Afq (p - (u.min:Rat)) u.segs.l) 0
theorem Brv {A:Nat}:∀ (l:List SegD) (p:Rat),sgR l→2≤A→qm p≤A→qm (Afq p l)≤2+l.length*(A+3*l.length+31)
  | [],p,_,_,_=>by
    have:qm (0:Rat)≤2:=qi (v:=0) (by omega)
    rw [Afq];simpa using this
  | s::r,p,hs,hA,hp=>by
    have hr:=hs s (by simp)
    have hqw:=qi (v:=s.width) (by omega)
    have hqp:=qi (v:=s.price) (by omega)
    have h0:qm (0:Rat)≤2:=qi (v:=0) (by omega)
    rw [Afq]
    split
    · omega
    · generalize hpart:(if p≤(s.width:Rat) then p else (s.width:Rat))=part
      have hqpart:qm part≤A:=by rw [← hpart];split<;>omega
      have hsub:qm (p - part)≤A+3:=by
        rw [← hpart];split
        · rw [Rat.sub_self];omega
        · have:=A16 p (s.width:Rat);omega
      have h1:=Brv (A:=A+3) r (p - part) (fun s hs'=>hs s (by simp [hs'])) (by omega) hsub
      have h2:=Bth (s.price:Rat) part
      have h3:=Bo9 ((s.price:Rat)*part) (Afq (p - part) r)
      rw [List.length_cons]
      have:A+3+3*r.length+31=A+3*(r.length+1)+31:=by omega
      rw [this] at h1
      rw [Nat.add_mul];omega
theorem Bxm {u:UnitD} {p:Rat} {m:Nat} (hp:qm p≤m+1):qm (scQ u p)≤8*m+800:=by
  have h0:qm (0:Rat)≤2:=qi (v:=0) (by omega)
  unfold scQ
  cases hv:J9 u 24 with
  | false=>simp only [Bool.false_and,cond_false];omega
  | true =>
    cases inQ p u.min u.max with
    | false=>simp only [Bool.and_false,cond_false];omega
    | true =>
      simp only [Bool.and_self,cond_true]
      have h1:=Aiz hv
      have h2:=Ua hv
      have hq:qm (p - (u.min:Rat))≤m+4:=by have:=A16 p (u.min:Rat);have:=qi (v:=u.min) (by omega);omega
      have:=Brv (A:=m+4) u.segs.l _ (Ai0 hv) (by omega) hq
      have h3:u.segs.l.length*(m+4+3*u.segs.l.length+31)≤8*(m+4+24+31):=Nat.mul_le_mul h2.1 (by omega)
      omega
theorem Ac0 {N:Nat} {X:Option R} {K:LA→Int→Option R} {u:UnitD} {x:RatD} {o o':Bool} {p:Rat} {m:Nat} (hx:x.is p m) (ha:u.away.l.length≤1000) (hf:fit (200*(m+8)+12000) N) (hN:4000≤N)
    (h:∀ d:RatD,d.is (scQ u p) (8*m+800)→K d.av (scE u p)=X):Eb N u.av o x.av o' K=X:=by
  rw [Acb];unfold W6 W5
  simp only [Acu,O5,ct,b3,tk3,u2,u3]
  rw [Ag9 (by omega) (by omega) (by omega)]
  unfold scE at h
  cases hv:J9 u 24 with
  | false =>
    rw [hv] at h
    exact h Aiy (by unfold scQ;rw [hv];exact Hj)
  | true =>
    have h1:=Aiz hv
    have h2:=Ua hv
    rw [hv] at h
    rw [show (!true)=false from rfl,cf,Bck hx (by omega) (by omega) (hf.le (by omega)) (by omega)]
    cases hi:inQ p u.min u.max with
    | false =>
      rw [hi] at h
      exact h Aiy (by unfold scQ;rw [hv,hi];exact Hj)
    | true =>
      rw [hi] at h
      rw [show (!true)=false from rfl,cf]
      refine Btn hx (Ai0 hv) h2.1 (by omega) (hf.le (by omega)) fun d hd=>?_
      rw [c3,ct,tk3,b3,ct]
      have e:scQ u p=Afq (p - (u.min:Rat)) u.segs.l:=by unfold scQ;rw [hv,hi];rfl
      exact h d ((e▸hd:d.can (scQ u p)).is (Bxm hx.qm))
theorem Ao6 {N:Nat} {X:Option R} {K:LA→Int→Option R} {u:UnitD} {x:RatD} {o o':Bool} {p:Rat} {m:Nat} (hx:x.is p m) (ha:u.away.l.length≤1000) (hf:fit (200*(m+8)+12000) N) (hN:4000≤N)
    (h:∀ d:RatD,d.is (scQ u p) (8*m+800)→K d.av (scE u p)=X):En N u.av o x.av o' K=X:=by
  rw [Xt];unfold T7 T6
  simp only [Acu,O5,ct,b3,tk3,u2,u3]
  rw [Ato (by omega) (by omega) (by omega)]
  unfold scE at h
  cases hv:J9 u 24 with
  | false =>
    rw [hv] at h
    exact h Aiy (by unfold scQ;rw [hv];exact Hj)
  | true =>
    have h1:=Aiz hv
    have h2:=Ua hv
    rw [hv] at h
    rw [show (!true)=false from rfl,cf,Bcl hx (by omega) (by omega) (hf.le (by omega)) hN]
    cases hi:inQ p u.min u.max with
    | false =>
      rw [hi] at h
      exact h Aiy (by unfold scQ;rw [hv,hi];exact Hj)
    | true =>
      rw [hi] at h
      rw [show (!true)=false from rfl,cf,Bpd hx (Ai0 hv) h2.1 (by omega) hf hN,c3,ct,tk3,b3,ct]
      have hp:0≤p - (u.min:Rat):=by
        simp only [inQ,Bool.and_eq_true,decide_eq_true_eq] at hi
        exact (Rat.le_iff_sub_nonneg _ _).1 hi.1
      rw [Bru (fun s hs=>by have:=Bpe h2.2.1 s hs;omega) hp]
      have e:scQ u p=Afq (p - (u.min:Rat)) u.segs.l:=by unfold scQ;rw [hv,hi];rfl
      rw [← e]
      exact h _ (At3 (Bxm hx.qm))
end
end Gx

namespace Gx
open Go Go.Proofs
section
variable {R:Type}
def A9i (p:Rat):Int→Bool→Rat→List SegD→Bool×Rat
  | _,b,q,[]=>(b,q)
  | a,b,q,s::r=>cond (decide (Xc p (a:Rat)>0)&&decide (Xc p ((a+s.width:Int):Rat)≤0)) (A9i p (a+s.width) true (s.price:Rat) r) (A9i p (a+s.width) b q r)
def At4 (p:Rat):Int→Bool→Rat→List SegD→Bool×Rat
  | _,b,q,[]=>(b,q)
  | a,b,q,s::r=>cond (decide (Xc p (a:Rat)≥0)&&decide (Xc p ((a+s.width:Int):Rat)<0)) (At4 p (a+s.width) true (s.price:Rat) r) (At4 p (a+s.width) b q r)
theorem Byg {N:Nat} {X:Option R} {K:LA→LA→Bool→Bool→Option R} {l:List SegD} {d:Bool} {x:RatD} {o:Bool} {p:Rat} {m:Nat} (hx:x.is p m) (hl:sgR l) (h8:l.length≤8) (hf:fit (4*(m+2)+10) N) (hN:4000≤N):∀ (k j fuel:Nat) (a:Int) (bl bh:Bool) (ql qh:Rat) (xl xh:RatD),j+k=l.length→k<fuel→(-1048576*((j:Int)+1)≤a∧a≤1048576*((j:Int)+1))→xl.is ql 2→xh.is qh 2 →
    (∀ (y z:RatD),y.is (A9i p a bl ql (l.drop j)).2 2→z.is (At4 p a bh qh (l.drop j)).2 2→K y.av z.av (A9i p a bl ql (l.drop j)).1 (At4 p a bh qh (l.drop j)).1=X) →
    Dc N K (l.flatMap SegD.av) l.length d o x.av fuel bl bh a (l.length:Int) (j:Int) xl.av xh.av=X:=by
  intro k
  induction k with
  | zero =>
    intro j fuel a bl bh ql qh xl xh hj hfu ha hl' hh' hX
    obtain ⟨fuel,rfl⟩:∃ k,fuel=k+1:=⟨fuel - 1,by omega⟩
    rw [Dc];unfold Od
    rw [ltF (by omega),cf]
    rw [Ax4 (l:=l) (by omega)] at hX
    exact hX xl xh hl' hh'
  | succ k ih =>
    intro j fuel a bl bh ql qh xl xh hj hfu ha hl' hh' hX
    obtain ⟨fuel,rfl⟩:∃ k,fuel=k+1:=⟨fuel - 1,by omega⟩
    rw [Dc];unfold Od
    have h:j<l.length:=by omega
    have hr:=hl l[j] (List.getElem_mem h)
    rw [ltT h,ct,Ah h,ct,Ag8 h]
    have p0:List.take 2 ((AV.int .i64 l[j].width)::(AV.int .i64 l[j].price)::(l.drop (j+1)).flatMap SegD.av)=[(.int .i64 l[j].width),(.int .i64 l[j].price)]:=rfl
    rw [p0,show Nat.ble 2 (List.length ((AV.int .i64 l[j].width)::(AV.int .i64 l[j].price)::(l.drop (j+1)).flatMap SegD.av))=true by simp,ct]
    rw [show ((!d)||Bv [(AV.int .i64 l[j].width),(.int .i64 l[j].price)])=true by cases d<;>rfl,ct]
    rw [show ((Nat.beq (List.length [(AV.int .i64 l[j].width),(.int .i64 l[j].price)]) 2)&&((Nat.ble 2 2)&&(!false)))=true from rfl,ct]
    simp only [tk3,b3,ct,A11,Afm]
    have e1:IntKind.wrap .i64 (a+l[j].width)=a+l[j].width:=i64 (by omega)
    rw [e1]
    refine V1 (by omega) (by omega) fun f1 hf1=>?_
    rw [Byf hx (hf1.is (qi (by omega))) hf]
    refine V1 (by omega) (by omega) fun f2 hf2=>?_
    rw [Byf hx (hf2.is (qi (by omega))) hf]
    rw [Ax3 h] at hX
    simp only [A9i,At4] at hX
    generalize hA:Xc p (a:Rat)=A at hX ⊢
    generalize hB:Xc p ((a+l[j].width:Int):Rat)=B at hX ⊢
    have second : ∀ (bl' : Bool) (ql' : Rat) (xl' : RatD), xl'.is ql' 2 →
        (∀ (y z:RatD),y.is (A9i p (a+l[j].width) bl' ql' (l.drop (j+1))).2 2→z.is (cond (decide (A≥0)&&decide (B<0)) (At4 p (a+l[j].width) true (l[j].price:Rat) (l.drop (j+1))) (At4 p (a+l[j].width) bh qh (l.drop (j+1)))).2 2→K y.av z.av (A9i p (a+l[j].width) bl' ql' (l.drop (j+1))).1 (cond (decide (A≥0)&&decide (B<0)) (At4 p (a+l[j].width) true (l[j].price:Rat) (l.drop (j+1))) (At4 p (a+l[j].width) bh qh (l.drop (j+1)))).1=X) →
        Le N (Dc N K (l.flatMap SegD.av) l.length d o x.av fuel) K bh A B (l.flatMap SegD.av) l.length d (l.length:Int) (j:Int) o x.av xh.av bl' (a+l[j].width) xl'.av (setCells [(.int .i64 0),(.int .i64 0)] 0 [(.int .i64 l[j].width),(.int .i64 l[j].price)])=X:=by
      intro bl' ql' xl' hxl' hX'
      unfold Le W7
      rw [Afm,wS (by omega)]
      cases hc:(decide (A≥0)&&decide (B<0)) with
      | true =>
        rw [hc] at hX'
        simp only [Bool.and_eq_true] at hc
        rw [hc.1,hc.2]
        refine V1 (by omega) (by omega) fun f3 hf3=>?_
        rw [c4,ct,Btm]
        exact ih (j+1) fuel _ _ _ _ _ _ _ (by omega) (by omega) (by omega) hxl' (hf3.is (qi (by omega))) hX'
      | false =>
        rw [hc] at hX'
        have go:=ih (j+1) fuel (a+l[j].width) bl' bh ql' qh xl' xh (by omega) (by omega) (by omega) hxl' hh' hX'
        rw [go]
        cases h1:decide (A≥0) with
        | false=>rfl
        | true =>
          rw [h1,Bool.true_and] at hc
          rw [hc];rfl
    cases hc:(decide (A>0)&&decide (B≤0)) with
    | true =>
      rw [hc] at hX
      simp only [Bool.and_eq_true] at hc
      rw [hc.1,hc.2]
      refine V1 (by omega) (by omega) fun f3 hf3=>?_
      rw [c4',ct,Btm]
      exact second true _ f3 (hf3.is (qi (by omega))) hX
    | false =>
      rw [hc] at hX
      rw [second bl ql xl hl' hX]
      cases h1:decide (A>0) with
      | false=>rfl
      | true =>
        rw [h1,Bool.true_and] at hc
        rw [hc];rfl
def mgB (u:UnitD) (p:Rat):Bool:=J9 u 24&&inQ p u.min u.max
def mgL (u:UnitD) (p:Rat):Bool×Rat:=cond (mgB u p) (A9i p u.min false 0 u.segs.l) (false,0)
def mgH (u:UnitD) (p:Rat):Bool×Rat:=cond (mgB u p) (At4 p u.min false 0 u.segs.l) (false,0)
theorem At5 {N:Nat} {X:Option R} {K:LA→LA→Bool→Bool→Option R} {u:UnitD} {x:RatD} {o o':Bool} {p:Rat} {m:Nat} (hx:x.is p m) (ha:u.away.l.length≤1000) (hf:fit (200*(m+8)+12000) N) (hN:4000≤N)
    (h:∀ y z:RatD,y.is (mgL u p).2 2→z.is (mgH u p).2 2→K y.av z.av (mgL u p).1 (mgH u p).1=X):In N u.av o x.av o' K=X:=by
  rw [Aon];unfold Amq Amp
  simp only [Acu,O5,ct,b3,tk3,u2,u3]
  rw [Ag9 (by omega) (by omega) (by omega)]
  unfold mgL mgH mgB at h
  cases hv:J9 u 24 with
  | false =>
    rw [hv] at h
    exact h Aiy Aiy Hj Hj
  | true =>
    have h1:=Aiz hv
    have h2:=Ua hv
    rw [hv,Bool.true_and] at h
    rw [show ((!true)==false)=true from rfl,ct,Bck hx (by omega) (by omega) (hf.le (by omega)) (by omega)]
    cases hi:inQ p u.min u.max with
    | false =>
      rw [hi] at h
      exact h Aiy Aiy Hj Hj
    | true =>
      rw [hi] at h
      rw [show (cond false true (!true))=false from rfl,cf]
      unfold Acc W8
      rw [u2,u4]
      exact Byg hx (Ai0 hv) h2.1 (hf.le (by omega)) hN u.segs.l.length 0 N u.min false false 0 0 Aiy Aiy (by omega) (by omega) (by omega) Hj Hj h
theorem Bxn {N:Nat} {X:Option R} {K:LA→LA→Bool→Bool→Option R} {u:UnitD} {d:Bool} {x:RatD} {o:Bool} {p:Rat} {m:Nat} (hx:x.is p m) (hl:sgR u.segs.l) (h8:u.segs.l.length≤8) (hf:fit (16*(m+2)+100) N) (hN:4000≤N):∀ (k j fuel:Nat) (a:Int) (bl bh:Bool) (ql qh:Rat) (xl xh:RatD),j+k=u.segs.l.length→k<fuel→(-1048576*((j:Int)+1)≤a∧a≤1048576*((j:Int)+1))→xl.is ql 2→xh.is qh 2 →
    (∀ (y z:RatD),y.is (A9i p a bl ql (u.segs.l.drop j)).2 2→z.is (At4 p a bh qh (u.segs.l.drop j)).2 2→K y.av z.av (A9i p a bl ql (u.segs.l.drop j)).1 (At4 p a bh qh (u.segs.l.drop j)).1=X) →
    Cz N K d u.av o x.av fuel bl bh a (j:Int) xl.av xh.av=X:=by
  intro k
  induction k with
  | zero =>
    intro j fuel a bl bh ql qh xl xh hj hfu ha hl' hh' hX
    obtain ⟨fuel,rfl⟩:∃ k,fuel=k+1:=⟨fuel - 1,by omega⟩
    rw [Cz];unfold Mt
    rw [u4,ltF (by omega),cf]
    rw [Ax4 (l:=u.segs.l) (by omega)] at hX
    exact hX xl xh hl' hh'
  | succ k ih =>
    intro j fuel a bl bh ql qh xl xh hj hfu ha hl' hh' hX
    obtain ⟨fuel,rfl⟩:∃ k,fuel=k+1:=⟨fuel - 1,by omega⟩
    rw [Cz];unfold Mt
    have h:j<u.segs.l.length:=by omega
    have hr:=hl u.segs.l[j] (List.getElem_mem h)
    rw [u4,ltT h,ct,u4,Ah h,ct,Ag8 h]
    have p0:List.take 2 ((AV.int .i64 u.segs.l[j].width)::(AV.int .i64 u.segs.l[j].price)::(u.segs.l.drop (j+1)).flatMap SegD.av)=[(.int .i64 u.segs.l[j].width),(.int .i64 u.segs.l[j].price)]:=rfl
    rw [p0,show Nat.ble 2 (List.length ((AV.int .i64 u.segs.l[j].width)::(AV.int .i64 u.segs.l[j].price)::(u.segs.l.drop (j+1)).flatMap SegD.av))=true by simp,ct]
    rw [show ((!d)||Bv [(AV.int .i64 u.segs.l[j].width),(.int .i64 u.segs.l[j].price)])=true by cases d<;>rfl,ct]
    rw [show ((Nat.beq (List.length [(AV.int .i64 u.segs.l[j].width),(.int .i64 u.segs.l[j].price)]) 2)&&((Nat.ble 2 2)&&(!false)))=true from rfl,ct]
    simp only [tk3,b3,ct,A11,Afm]
    have e1:IntKind.wrap .i64 (a+u.segs.l[j].width)=a+u.segs.l[j].width:=i64 (by omega)
    have hpr:=qiI (v:=u.segs.l[j].price) (by omega)
    rw [e1,Wp (by omega) hN,Bdb hx (qiI (by omega)) hf,Wp (by omega) hN,Bdb hx (qiI (by omega)) hf,Wp (by omega) hN]
    rw [Ax3 h] at hX
    simp only [A9i,At4] at hX
    generalize hA:Xc p (a:Rat)=A at hX ⊢
    generalize hB:Xc p ((a+u.segs.l[j].width:Int):Rat)=B at hX ⊢
    have second : ∀ (bl' : Bool) (ql' : Rat) (xl' : RatD), xl'.is ql' 2 →
        (∀ (y z:RatD),y.is (A9i p (a+u.segs.l[j].width) bl' ql' (u.segs.l.drop (j+1))).2 2→z.is (cond (decide (A≥0)&&decide (B<0)) (At4 p (a+u.segs.l[j].width) true (u.segs.l[j].price:Rat) (u.segs.l.drop (j+1))) (At4 p (a+u.segs.l[j].width) bh qh (u.segs.l.drop (j+1)))).2 2→K y.av z.av (A9i p (a+u.segs.l[j].width) bl' ql' (u.segs.l.drop (j+1))).1 (cond (decide (A≥0)&&decide (B<0)) (At4 p (a+u.segs.l[j].width) true (u.segs.l[j].price:Rat) (u.segs.l.drop (j+1))) (At4 p (a+u.segs.l[j].width) bh qh (u.segs.l.drop (j+1)))).1=X) →
        Jp N (Cz N K d u.av o x.av fuel) K bh a (j:Int) d u.av o x.av xh.av bl' xl'.av (setCells [(.int .i64 0),(.int .i64 0)] 0 [(.int .i64 u.segs.l[j].width),(.int .i64 u.segs.l[j].price)])=X:=by
      intro bl' ql' xl' hxl' hX'
      unfold Jp T8
      simp only [tk3,b3,ct,A11,Afm]
      rw [e1,Wp (by omega) hN,Bdb hx (qiI (by omega)) hf,Wp (by omega) hN,Bdb hx (qiI (by omega)) hf,Wp (by omega) hN,wS (by omega),hA,hB]
      cases hc:(decide (A≥0)&&decide (B<0)) with
      | true =>
        rw [hc] at hX'
        simp only [Bool.and_eq_true] at hc
        rw [hc.1,hc.2]
        exact ih (j+1) fuel _ _ _ _ _ _ (cqD (u.segs.l[j].price:Rat)) (by omega) (by omega) (by omega) hxl' hpr hX'
      | false =>
        rw [hc] at hX'
        have go:=ih (j+1) fuel (a+u.segs.l[j].width) bl' bh ql' qh xl' xh (by omega) (by omega) (by omega) hxl' hh' hX'
        rw [go]
        cases h1:decide (A≥0) with
        | false=>rfl
        | true =>
          rw [h1,Bool.true_and] at hc
          rw [hc];rfl
    cases hc:(decide (A>0)&&decide (B≤0)) with
    | true =>
      rw [hc] at hX
      simp only [Bool.and_eq_true] at hc
      rw [hc.1,hc.2]
      exact second true _ (cqD (u.segs.l[j].price:Rat)) hpr hX
    | false =>
      rw [hc] at hX
      rw [second bl ql xl hl' hX]
      cases h1:decide (A>0) with
      | false=>rfl
      | true =>
        rw [h1,Bool.true_and] at hc
        rw [hc];rfl
theorem A5x {N:Nat} {X:Option R} {K:LA→LA→Bool→Bool→Option R} {u:UnitD} {x:RatD} {o o':Bool} {p:Rat} {m:Nat} (hx:x.is p m) (ha:u.away.l.length≤1000) (hf:fit (200*(m+8)+12000) N) (hN:4000≤N)
    (h:∀ y z:RatD,y.is (mgL u p).2 2→z.is (mgH u p).2 2→K y.av z.av (mgL u p).1 (mgH u p).1=X):Jc N u.av o x.av o' K=X:=by
  rw [Aix];unfold Ahh Ahg
  simp only [Acu,O5,ct,b3,tk3,u2,u3]
  rw [Ato (by omega) (by omega) (by omega)]
  unfold mgL mgH mgB at h
  cases hv:J9 u 24 with
  | false =>
    rw [hv] at h
    exact h Aiy Aiy Hj Hj
  | true =>
    have h1:=Aiz hv
    have h2:=Ua hv
    rw [hv,Bool.true_and] at h
    rw [show ((!true)==false)=true from rfl,ct,Bcl hx (by omega) (by omega) (hf.le (by omega)) hN]
    cases hi:inQ p u.min u.max with
    | false =>
      rw [hi] at h
      exact h Aiy Aiy Hj Hj
    | true =>
      rw [hi] at h
      rw [show (cond false true (!true))=false from rfl,cf]
      unfold Xd T9
      rw [u2]
      exact Bxn hx (Ai0 hv) h2.1 (hf.le (by omega)) hN u.segs.l.length 0 N u.min false false 0 0 Aiy Aiy (by omega) (by omega) (by omega) Hj Hj h
end
end Gx

namespace Gx
open Go Go.Proofs
set_option maxRecDepth 100000
section
variable {R:Type}
def exU:UnitD:={ name:=[],bus:=0,min:=10,max:=40,segs:=.of [⟨20,3⟩,⟨10,5⟩] false false,noLoad:=0,rampUp:=5,rampDown:=10,startRamp:=15,stopRamp:=15,upTime:=0,downTime:=0,startTime:=0,hotCost:=0,coldCost:=0,hotHours:=0,reserve:=0,reservePrice:=0,away:=.nil,state:=2,hours:=1,output:=12 }
theorem Byh {N:Nat} {K:LA→Option R}:No N K=K exU.av:=by rw [Aew];rfl
def s21:List AV:=[.int .i64 2,.int .i64 1]
def s01:List AV:=[.int .i64 0,.int .i64 1]
def Bxo:List AV:=[.int .i64 2,.int .i64 2,.int .i64 0]
theorem Byi {n:Nat} {o:Bool} {K:LA→Option R}:A4u (n+64) exU.av o K=K []:=by rw [Bb0];kernel_rfl
theorem A5y {n:Nat} {o:Bool} {K:Bool→Option R}:Nq (n+64) exU.av o K=K true:=by
  rw [Ax5 (by omega)];rfl
theorem Bpf {n:Nat} {o:Bool} {K:Int→Int→Option R}:Amt (n+64) exU.av o K=K 1 1:=by
  rw [Bb1];unfold Bif Bie
  rw [Acu,ct,O5,A5y];kernel_rfl
theorem Byj {n:Nat} {o:Bool} {K:LA→Option R}:Acg (n+64) exU.av o K=K s21:=by
  rw [Asz];unfold Asy Asx
  simp only [Acu,ct,O5,A5y,Bpf];kernel_rfl
theorem Bzh {n:Nat} {o o':Bool} {K:Int→Option R}:Wk (n+64) exU.av o s21 o' K=K 1:=by
  rw [Aoq];unfold Amx Amw Ach W9
  simp only [Acu,ct,O5,A5y,Bpf];kernel_rfl
theorem Bpg {n:Nat} {o:Bool} {K:LA→Nat→Option R}:Afe (n+64) exU.av o s21 false K=K (s01++s21) 2:=by
  rw [Bb3];unfold Bik Bij
  rw [show List.take 2 s21=s21 from rfl]
  simp only [Acu,ct,O5,Bzh,Bpf];kernel_rfl
theorem Bxp {N:Nat} {k h v:Int} {o:Bool} {K:Bool→Option R}:Lf N [.int .i64 k,.int .i64 h] o v K=K (k==v):=by
  rw [As9];rfl
theorem Bun {n:Nat} {a:Bool} {K:Int→Option R}:An (n+64) (s01++s21) 2 a false 2 K=K 1:=by
  rw [Bn]
  change Lf _ s01 _ _ _=_
  rw [s01,Bxp]
  change Lf _ s21 _ _ _=_
  rw [s21,Bxp];rfl
theorem Byk {n:Nat} {a:Bool} {K:Int→Option R}:An (n+64) (s01++s21) 2 a false 0 K=K 0:=by
  rw [Bn]
  change Lf _ s01 _ _ _=_
  rw [s01,Bxp];rfl
theorem Byl {n:Nat} {o a b:Bool} {K:Nat→Int→Int→LA→Option R}:A4y (n+64) exU.av o Bxo 3 a b K=K 3 3 0 (s21++s21++s01):=by
  rw [Bb7];unfold Biq Bip
  simp only [Acu,ct,O5,A5y,Byi,Byj]
  change Afe _ exU.av _ s21 _ _=_
  rw [Bpg]
  change An _ (s01++s21) 2 _ _ _ _=_
  rw [Bun]
  change Afe _ exU.av _ s21 _ _=_
  rw [Bpg]
  change An _ (s01++s21) 2 _ _ _ _=_
  rw [Bun]
  change Afe _ exU.av _ s21 _ _=_
  rw [Bpg]
  change An _ (s01++s21) 2 _ _ _ _=_
  rw [Byk]
  kernel_rfl
theorem Bzi {n:Nat} {o a b:Bool} {K:Nat→LA→Option R}:Acl (n+64) exU.av o 3 Bxo 3 a b K=K 3 [.int .i64 10,.int .i64 17,.int .i64 10,.int .i64 22,.int .i64 0,.int .i64 0]:=by
  rw [Atc];kernel_rfl
theorem Bzj {n:Nat} {o a b:Bool} {K:LA→Option R}:Wl (n+64) exU.av o 3 Bxo 3 a b [.int .i64 10,.int .i64 17,.int .i64 10,.int .i64 22,.int .i64 0,.int .i64 0] K=K [.int .i64 10,.int .i64 17,.int .i64 10,.int .i64 15,.int .i64 0,.int .i64 0]:=by
  rw [Aos];kernel_rfl
theorem Bzk {n:Nat} {o a b:Bool} {K:Nat→Int→LA→Option R}:Wm (n+64) exU.av o 3 Bxo 3 a b K=K 3 0 [.int .i64 10,.int .i64 17,.int .i64 10,.int .i64 15,.int .i64 0,.int .i64 0]:=by
  rw [Aou];unfold Am4 Am3
  rw [Acu,ct,O5,Ag9 (by omega) (by decide) (by simp [exU,Sl.l]),show J9 exU 3=true from rfl]
  rw [Byl]
  unfold Acp Xa
  rw [Acu,ct,O5,Bzi,Bzj]
  kernel_rfl
theorem Ai1 (q:Rat):Xc q q=0:=by
  unfold Xc
  rw [if_neg (Rat.lt_irrefl),if_neg (Rat.lt_irrefl)]
theorem Bto {N:Nat} {K:Bool→Option R} (hf:fit 100000 N):Io N K=K true:=by
  have hN:4000≤N:=by have:=hf.1;omega
  obtain ⟨n,rfl⟩:∃ n,N=n+64:=⟨N - 64,by omega⟩
  rw [Aov];unfold Am6 Am5
  rw [Byh,show ((Nat.beq 0 0)&&((Nat.beq (List.length exU.av) 22)&&(Nat.beq 22 22)))=true from rfl,ct,Acu,ct,O5,Wp (by omega) hN]
  refine Ac0 (m:=2) (qiI (by omega)) (by decide) (hf.le (by omega)) hN fun d hd=>?_
  rw [show scE exU ((35:Int):Rat)=0 by kernel_rfl]
  rw [show scQ exU ((35:Int):Rat)=((85:Int):Rat) by kernel_rfl] at hd
  rw [c3,ct,ct,Wp (by omega) hN]
  refine At5 (m:=2) (qiI (by omega)) (by decide) (hf.le (by omega)) hN fun y z hy hz=>?_
  rw [show mgL exU ((30:Int):Rat)=(true,((3:Int):Rat)) by kernel_rfl] at hy ⊢
  rw [show mgH exU ((30:Int):Rat)=(true,((5:Int):Rat)) by kernel_rfl] at hz ⊢
  rw [c3,ct,c3,ct,ct]
  rw [show [(AV.int .i64 2),(.int .i64 2),(.int .i64 0)]=Bxo from rfl,Bzk,b3,ct,tk3,Wp (by omega) hN,Bdb hd (qiI (by omega)) (hf.le (by omega)),Ai1]
  rw [b3,tk3,Wp (by omega) hN,Bdb hy (qiI (by omega)) (hf.le (by omega)),Ai1]
  rw [b3,tk3,Wp (by omega) hN,Bdb hz (qiI (by omega)) (hf.le (by omega)),Ai1]
  rfl
end
end Gx

namespace Gx
open Go Go.Proofs
section
variable {R:Type}
theorem Btp {N:Nat} {u:UnitD} {b:Bool} {K:Bool→Option R}:Wg N u.av b K=K (decide (u.away.l.length≤40)&&decide (u.segs.l.length≤20)):=by
  rw [Aoj];unfold Aly Alx
  rw [u18,u4]
  by_cases h:u.away.l.length≤40
  · rw [show (decide ((u.away.l.length:Int)≤40)==true)=true by simp;omega,ct,ctB,decide_eq_true h,Bool.true_and]
    congr 1;rw [decide_eq_decide];omega
  · rw [show (decide ((u.away.l.length:Int)≤40)==true)=false by simp;omega,cf,decide_eq_false h];rfl
variable {N:Nat} {K:Bool→Option R} {a:List UInt8} {b d e:Int} {sg:List SegD} {c:Bool} {g i j l m t u w n o x p q:Int} {aw:List Int} {ab:Bool} {z aa r:Int}
def mkU (a:List UInt8) (b d e:Int) (sg:List SegD) (c:Bool) (g i j l m t u w n o x p q:Int) (aw:List Int) (ab:Bool) (z aa r:Int):UnitD :=
  ⟨a,b,d,e,.of sg false c,g,i,j,l,m,t,u,w,n,o,x,p,q,.of aw false ab,z,aa,r⟩
theorem Btq:[AV.str a,(.int .i64 b),(.int .i64 d),(.int .i64 e),(.imm (sg.flatMap SegD.av) sg.length 2 false c),(.int .i64 g),(.int .i64 i),(.int .i64 j),(.int .i64 l),(.int .i64 m),(.int .i64 t),(.int .i64 u),(.int .i64 w),(.int .i64 n),(.int .i64 o),(.int .i64 x),(.int .i64 p),(.int .i64 q),(.imm (G6 aw) aw.length 1 false ab),(.int .i64 z),(.int .i64 aa),(.int .i64 r)] =
    (mkU a b d e sg c g i j l m t u w n o x p q aw ab z aa r).av:=by
  rw [← Avx];rfl
end
end Gx

namespace Gx
open Go Go.Proofs
section
variable {R:Type}
def Bxq (x:RatD):Bool:=decide (x.ns.l.length≤4)&&decide (x.ds.l.length≤4)
def Bym (l:List RatD):Bool:=decide (l.length≤30)&&l.all Bxq
theorem Bzl {l:List RatD} {j:Nat} (h:j<l.length):List.drop ((Int.toNat (j:Int))*3) (l.flatMap RatD.av)=l[j].av++(l.drop (j+1)).flatMap RatD.av:=by
  rw [Int.toNat_natCast,A85 (e:=RatD.av) (sz:=3) (fun _=>rfl) _ _ h]
theorem Bzx {x:RatD} {r:List AV} {f:List AV→Nat→Option R}:rdL 1 (List.drop 1 (x.av++r)) f=f (Ad x.ns.l) x.ns.l.length:=by
  rw [show List.drop 1 (x.av++r)=x.ns.av::x.ds.av::r from rfl,Bjd]
theorem Bzy {x:RatD} {r:List AV} {f:List AV→Nat→Option R}:rdL 1 (List.drop 2 (x.av++r)) f=f (Ad x.ds.l) x.ds.l.length:=by
  rw [show List.drop 2 (x.av++r)=x.ds.av::r from rfl,Bjd]
theorem Brw {N:Nat} {l:List RatD} {d e:Bool} {K:Bool→Option R} (hl:l.length≤1000):∀ (m j fuel:Nat),j+m=l.length→m<fuel →
    Aaa N K (l.flatMap RatD.av) l.length d e fuel (j:Int)=K ((l.drop j).all Bxq)
  | 0,j,fuel+1,hj,_=>by
    rw [Aaa];unfold Anr
    rw [ltF (by omega),cf,Ax4 (by omega),List.all_nil]
  | m+1,j,fuel+1,hj,hf=>by
    rw [Aaa];unfold Anr
    have h:j<l.length:=by omega
    rw [ltT h,ct,Ah h,ct,Bzl h,Bzx,ct,Bzy,wS (by omega),Brw hl m (j+1) fuel (by omega) (by omega),Ax3 h,List.all_cons]
    generalize (List.drop (j+1) l).all Bxq=t
    unfold Bxq
    by_cases h1:l[j].ns.l.length≤4
    · rw [show (decide ((l[j].ns.l.length:Int)>4)==false)=true by simp;omega,ct,decide_eq_true h1]
      by_cases h2:l[j].ds.l.length≤4
      · rw [show decide ((l[j].ds.l.length:Int)>4)=false by simp;omega,cfB,cf,decide_eq_true h2];cases t<;>rfl
      · rw [show decide ((l[j].ds.l.length:Int)>4)=true by simp;omega,decide_eq_false h2];cases t<;>rfl
    · rw [show (decide ((l[j].ns.l.length:Int)>4)==false)=false by simp;omega,cf,decide_eq_false h1];rfl
theorem Bxr {N:Nat} {l:List RatD} {n:Nat} {d e:Bool} {K:Bool→Option R} (hn:n=l.length) (hN:1000≤N):Bjl N (l.flatMap RatD.av) n d e K=K (Bym l):=by
  subst hn
  rw [Bjm];unfold Bpb Bpa Bym
  by_cases h:l.length≤30
  · rw [show decide ((l.length:Int)>30)=false by simp;omega,cf,decide_eq_true h,Bool.true_and]
    have:=Brw (N:=N) (l:=l) (d:=d) (e:=e) (K:=K) (by omega) l.length 0 N (by omega) (by omega)
    rw [List.drop_zero] at this;exact this
  · rw [show decide ((l.length:Int)>30)=true by simp;omega,ct,decide_eq_false h];rfl
theorem Buo {N:Nat} {K:Bool→Option R} {x1 x2 y1 y2 z1 z2:RatD} {E:Int} {b1 b2:Bool} {p q r:Rat} {m:Nat} (hf:fit 100000 N) (hm:m≤1000) (h1:x1.is p m) (h2:x2.is p m) (h3:y1.is q 2) (h4:y2.is q 2) (h5:z1.is r 2) (h6:z2.is r 2) :
    (Io N (fun dz=>(cond (dz==true) (cond ((cond true (E==E) false)==true) (cond (Nat.ble 3 (List.length x1.av)) (cond (Nat.ble 3 (List.length x2.av)) (A2 N (List.take 3 x1.av) false (List.take 3 x2.av) false (fun ea=>(cond ((cond true (ea==(0:Int)) false)==true) (cond ((cond true (b1==b1) false)==true) (cond ((cond true (b2==b2) false)==true) (cond (Nat.ble 3 (List.length y1.av)) (cond (Nat.ble 3 (List.length y2.av)) (A2 N (List.take 3 y1.av) false (List.take 3 y2.av) false (fun eb=>(cond ((cond true (eb==(0:Int)) false)==true) (cond (Nat.ble 3 (List.length z1.av)) (cond (Nat.ble 3 (List.length z2.av)) (A2 N (List.take 3 z1.av) false (List.take 3 z2.av) false (fun ec=>(K (cond true (ec==(0:Int)) false)))) none) none) (K false)))) none) none) (K false)) (K false)) (K false)))) none) none) (K false)) (K false))))=K true:=by
  rw [Bto hf]
  simp only [b3,tk3,ct,beq_self_eq_true]
  rw [Bdb h1 h2 (hf.le (by omega)),Ai1,Bdb h3 h4 (hf.le (by omega)),Ai1,Bdb h5 h6 (hf.le (by omega)),Ai1]
  rfl
theorem Bup {N:Nat} {K:Bool→Option R} {x:RatD} {p:Rat} {m:Nat} (hf:fit 100000 N) (hm:m≤20) (hx:x.is p m) {a:List UInt8} {b aq ax bi bj bk bl bm bn bo bp bq br bs bt bu bv bw bx:Int} {sg:List SegD} {aw:List Int} (ha:aw.length≤1000) :
    Dm N K a b aq ax sg.length bi bj bk bl bm bn bo bp bq br bs bt bu aw.length bv bw bx (sg.flatMap SegD.av) (G6 aw) x.av=K true:=by
  have hN:4000≤N:=by have:=hf.1;omega
  have hF:fit (200*(m+8)+12000) N:=hf.le (by omega)
  unfold Dm F0
  simp only [b3,tk3,ct,Brd,Brc]
  rw [Btq]
  refine Ac0 hx ha hF hN fun d1 h1=>?_
  rw [c3,ct]
  refine Ao6 hx ha hF hN fun d2 h2=>?_
  rw [c3,ct]
  refine At5 hx ha hF hN fun y1 z1 hy1 hz1=>?_
  rw [c3,ct,c3,ct]
  refine A5x hx ha hF hN fun y2 z2 hy2 hz2=>?_
  rw [c3,ct,c3,ct]
  exact Buo hf (by omega) h1 h2 hy1 hy2 hz1 hz2
theorem Byn {N:Nat} {K:Bool→Option R} {l1 l2:List Nat} {neg ox oy:Bool} {p:Rat} {m:Nat} (hf:fit 100000 N) (hm:m≤20) (hx:RatD.is ⟨neg,.of l1 false ox,.of l2 false oy⟩ p m) {an ao:Bool} {a:List UInt8} {b d e i j l m' n z aa ab o p' ac q r af ag t:Int} {sg:List SegD} {aw:List Int} {u c am w:Bool} (ha:aw.length≤1000) :
    Dn N K a b d e (sg.flatMap SegD.av) sg.length u c i j l m' n z aa ab o p' ac q r (G6 aw) aw.length am w af ag t neg (Ad l1) l1.length an ox (Ad l2) l2.length ao oy=K true:=by
  have hN:4000≤N:=by have:=hf.1;omega
  have hF:fit (200*(m+8)+12000) N:=hf.le (by omega)
  unfold Dn F1
  rw [Btq]
  refine Ac0 hx ha hF hN fun d1 h1=>?_
  rw [c3,ct]
  refine Ao6 hx ha hF hN fun d2 h2=>?_
  rw [c3,ct]
  refine At5 hx ha hF hN fun y1 z1 hy1 hz1=>?_
  rw [c3,ct,c3,ct]
  refine A5x hx ha hF hN fun y2 z2 hy2 hz2=>?_
  rw [c3,ct,c3,ct]
  exact Buo hf (by omega) h1 h2 hy1 hy2 hz1 hz2
theorem Bzm {v:Int} (h:-9223372036854775808≤v∧v≤9223372036854775807):qm (mkRat v 4)≤2:=Bxe v 4 2 (by omega) (by omega) (by omega)
theorem Apa {N:Nat} {K:Bool→Option R} (hf:fit 100000 N) {l1 l2:List Nat} (hl1:Af l1) (hl2:Af l2) {neg ox oy an ao:Bool} {a:List UInt8} {b d e i j l m n z aa ab o p ac q r af ag t:Int} {sg:List SegD} {aw:List Int} {u c am w:Bool} {av az:Int} {ba:Bool} :
    E1 N a b d e (sg.flatMap SegD.av) sg.length u c i j l m n z aa ab o p ac q r (G6 aw) aw.length am w af ag t neg (Ad l1) l1.length an ox (Ad l2) l2.length ao oy av az ba K=K true:=by
  have hN:4000≤N:=by have:=hf.1;omega
  rw [Lo];unfold Ic Ib
  rw [Btq,Btp]
  rw [show (mkU a b d e sg c i j l m n z aa ab o p ac q r aw w af ag t).away.l=aw from rfl,show (mkU a b d e sg c i j l m n z aa ab o p ac q r aw w af ag t).segs.l=sg from rfl]
  by_cases h1:aw.length≤40
  · by_cases h2:sg.length≤20
    · rw [decide_eq_true h1,decide_eq_true h2,show ((!(true&&true))==false)=true from rfl,ct]
      have hr:=Bxr (R:=R) (N:=N) (l:=[⟨neg,.of l1 an ox,.of l2 ao oy⟩]) (n:=1) (d:=false) (e:=true) (K:=fun ei=>cond (cond false true (!ei)) (K true) (Do N K av az ba a b d e (sg.flatMap SegD.av) sg.length u c i j l m n z aa ab o p ac q r (G6 aw) aw.length am w af ag t neg (Ad l1) l1.length an ox (Ad l2) l2.length ao oy)) rfl (by omega)
      rw [show List.flatMap RatD.av [⟨neg,.of l1 an ox,.of l2 ao oy⟩]=[(.bool neg),(.imm (Ad l1) l1.length 1 an ox),(.imm (Ad l2) l2.length 1 ao oy)] from rfl] at hr
      rw [hr]
      cases hb:Bym [⟨neg,.of l1 an ox,.of l2 ao oy⟩] with
      | false=>rfl
      | true =>
        rw [show (cond false true (!true))=false from rfl,cf]
        have hlen:l1.length≤4∧l2.length≤4:=by
          have:=hb;simp only [Bym,Bxq,LS.l,List.all_cons,List.all_nil,Bool.and_eq_true,decide_eq_true_eq] at this
          exact ⟨of_decide_eq_true this.2.1.1,of_decide_eq_true this.2.1.2⟩
        unfold Do F2
        cases ba with
        | false =>
          rw [cf]
          exact Byn (m:=4) hf (by omega) ⟨⟨hl1,hl2⟩,rfl,by show max l1.length l2.length≤4;omega⟩ (by omega)
        | true =>
          rw [ct]
          refine Bre (H:=12) (by omega) rfl (by omega) ?_
          intro mn mx s nl ru rd sr sp y' z' aa' hc cc ab' rs rp x' ac' out l' g1 g2 g3 g4 hs hl
          have e1:IntKind.wrap .i64 ((IntKind.wrap .i64 ((4:Int)*(IntKind.wrap .i64 (mx - mn))))+(5:Int))=4*(mx - mn)+5:=by
            rw [i64 (a:=mx - mn) (by omega),i64 (a:=4*(mx - mn)) (by omega),i64 (by omega)]
          have e2:IntKind.wrap .i64 ((IntKind.wrap .i64 (mx - mn))+(1:Int))=mx - mn+1:=by
            rw [i64 (a:=mx - mn) (by omega),i64 (by omega)]
          have hm1:=Bdp av (show (0:Int)<4*(mx - mn)+5 by omega)
          have hm2:=Bdp av (show (0:Int)<mx - mn+1 by omega)
          have e3:IntKind.wrap .i64 ((IntKind.wrap .i64 ((IntKind.wrap .i64 (mn*(4:Int))) - (2:Int)))+av%(4*(mx - mn)+5))=mn*4 - 2+av%(4*(mx - mn)+5):=by
            rw [i64 (a:=mn*4) (by omega),i64 (a:=mn*4 - 2) (by omega),i64 (by omega)]
          have e4:IntKind.wrap .i64 (mn+av%(mx - mn+1))=mn+av%(mx - mn+1):=i64 (by omega)
          rw [e1,Bc8 (by omega) (by omega),e3,Bxh (by omega) (by omega) hN,e2,Bc8 (by omega) (by omega),e4,Wp (by omega) hN]
          rw [show cq (mkRat (mn*4 - 2+av%(4*(mx - mn)+5)) (4:Int).natAbs)=(cqD (mkRat (mn*4 - 2+av%(4*(mx - mn)+5)) 4)).av from rfl,c3,ct,c4,ct,Btm]
          dsimp only
          rw [Bup (m:=2) hf (by omega) (qiI (by omega)) (by omega),Bup (m:=2) hf (by omega) (At3 (Bzm (by omega))) (by omega)]
          cases (Int.tmod az 2==0)<;>rfl
    · rw [decide_eq_false h2,Bool.and_false];rfl
  · rw [decide_eq_false h1,Bool.false_and];rfl
end
end Gx

namespace Gx
open Go Go.RowKit
theorem Bph {P:Program} {t:TypeId} (hu:P.underlying t=some .string) (hc:P.cellsOf t=1):Opens P t (α:={ s:List UInt8 // s.length≤maxLen }) (fun s=>[.str s.1]) 1:=by
  refine ⟨hc,by omega,fun _=>rfl,fun enc W fuel cs d ps h=>?_⟩
  obtain ⟨s,rfl,_,hw⟩:=DataW.trod_string hu h
  refine ⟨rfl,⟨s.data.toList,hw⟩,?_⟩
  simp [RepCs,RepC]
theorem Opens.map {P:Program} {t:TypeId} {α β:Type} {e:α→List AV} {n:Nat} (h:Opens P t e n) (e':β→List AV) (g:α→β) (hg:∀ a,e a=e' (g a)) (hl:∀ b,(e' b).length=n):Opens P t e' n:=by
  refine ⟨h.size,h.pos,hl,fun enc W fuel cs d ps ht=>?_⟩
  obtain ⟨h1,a,h2⟩:=h.read enc W fuel cs d ps ht
  exact ⟨h1,g a,by rw [← hg];exact h2⟩
structure OpensF (P:Program) (fs:List Field) (off:Nat) {α:Type} (e:α→List AV) (n:Nat):Prop where
  len:∀ a,(e a).length=n
  read:∀ {H:Type} (enc:TypeId×Value→H) (W:World) (fuel:Nat) (cs:List Value),(∀ (i:Nat) (f:Field),fs[i]?=some f→∃ d ps,DataW.trod enc P W 0 (fun _=>true) true fuel f.type ((cs.drop f.offset).take (P.cellsOf f.type))=some (d,ps)) →
    ∃ a,RepCs (fun k=>k<W.heap.size) W (e a) (fun j=>cs[j]?) off
theorem Anw {P:Program} {off:Nat}:OpensF P [] off (α:=Unit) (fun _=>[]) 0:=⟨fun _=>rfl,fun _ _ _ _ _=>⟨(),by simp [RepCs]⟩⟩
theorem A0 {P:Program} {f:Field} {fs:List Field} {off:Nat} {α β:Type} {e:α→List AV} {n:Nat} {e':β→List AV} {m:Nat} (ho:f.offset=off) (h1:Opens P f.type e n) (h2:OpensF P fs (off+n) e' m) :
    OpensF P (f::fs) off (α:=α×β) (fun p=>e p.1++e' p.2) (n+m):=by
  refine ⟨fun p=>by rw [List.length_append,h1.len,h2.len],fun enc W fuel cs h=>?_⟩
  obtain ⟨d,ps,hd⟩:=h 0 f rfl
  obtain ⟨hl,a,ha⟩:=h1.read enc W fuel _ _ _ hd
  obtain ⟨b,hb⟩:=h2.read enc W fuel cs fun i g hg=>h (i+1) g (by simpa using hg)
  refine ⟨(a,b),?_⟩
  rw [B6] at ha hb ⊢
  intro j x hj
  by_cases hjn:j<n
  · rw [List.getElem?_append_left (by rw [h1.len];exact hjn)] at hj
    obtain ⟨u,hu,hr⟩:=ha j x hj
    refine ⟨u,?_,hr⟩
    simp only [Nat.zero_add] at hu
    rw [h1.size,List.getElem?_take_of_lt hjn,List.getElem?_drop,ho] at hu
    exact hu
  · rw [List.getElem?_append_right (by rw [h1.len];omega),h1.len] at hj
    obtain ⟨u,hu,hr⟩:=hb (j - n) x hj
    refine ⟨u,?_,hr⟩
    rw [show off+n+(j - n)=off+j by omega] at hu
    exact hu
theorem Zj {P:Program} {t:TypeId} {fs:Array Field} {α:Type} {e:α→List AV} {n:Nat} (hu:P.underlying t=some (.struct fs)) (hc:P.cellsOf t=n) (hn:0<n) (h:OpensF P fs.toList 0 e n):Opens P t e n:=by
  refine ⟨hc,hn,h.len,fun enc W fuel cs d ps ht=>?_⟩
  obtain ⟨xs,g,_,_,hl,hlen,hf⟩:=DataW.trod_struct hu ht
  refine ⟨by rw [hl,hc],?_⟩
  exact h.read enc W g cs fun i f hi=>by
    have h1:fs[i]?=some f:=by simpa using hi
    have:=hf i f h1
    have hi2:i<xs.length:=by
      rw [hlen];exact (Array.getElem?_eq_some_iff.1 h1).1
    rw [List.getElem?_eq_getElem hi2] at this
    exact ⟨_,_,this⟩
end Gx
