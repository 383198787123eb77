/- A part of the proof: what it holds is said by each theorem. -/
import Derived.Test.YtlkhmflligkbkaaGreatP3
set_option linter.unusedVariables false
namespace Gx
open Go Go.Proofs
section
variable {R:Type}
theorem i0F {n:Nat} (h:n≠0):(((n:Nat):Int)==(0:Int))=false:=by rw [beq_eq_false_iff_ne];omega
theorem i0T {n:Nat} (h:n=0):(((n:Nat):Int)==(0:Int))=true:=by subst h;rfl
theorem Bqc:∀ {S:List Nat} {j:Nat} (h:j<S.length),4294967296 ^ j*S[j]≤val S
  | x::r,0,_=>by simp [val]
  | x::r,j+1,h=>by
    have:=Bqc (S:=r) (j:=j) (by simpa using h)
    simp only [List.getElem_cons_succ,val,Nat.pow_succ]
    rw [Nat.mul_comm (4294967296 ^ j),Nat.mul_assoc]
    omega
theorem Bts {S:List Nat} {k:Nat} (h:val S<4294967296 ^ k):zer S k:=fun j hj hk=>by
  have h1:=Bqc hj
  have h2:4294967296 ^ k≤4294967296 ^ j:=Nat.pow_le_pow_right (by omega) hk
  rcases Nat.eq_zero_or_pos S[j] with h0 | h0
  · exact h0
  · have:=Nat.le_mul_of_pos_right (4294967296 ^ j) h0
    omega
theorem Bof {p q y s:Nat} (hp:p<4294967296) (hq:q<4294967296) (hy:y<4294967296) (hs:s<4294967296):p+(q*y+s)<18446744073709551616:=by
  have:q*y≤4294967295*4294967295:=Nat.mul_le_mul (by omega) (by omega)
  omega
theorem Btt {N:Nat} {x y:List Nat} {c d:Bool} {f q J:Nat} (hy:Ag y) (hq:q<4294967296) (hf:f<x.length) (hs:x.length+y.length≤1000000000000):∀ (m l fuel:Nat) (S:List Nat) (p:Nat) (v:Nat),l+m=y.length→m<fuel→Ag S→S.length=x.length+y.length→zer S (f+y.length)→p<4294967296 →
    val S+4294967296 ^ (f+l)*p=v+4294967296 ^ f*(q*val (y.take l)) →
    ∃ S',Ag S'∧S'.length=x.length+y.length∧val S'=v+4294967296 ^ f*(q*val y)∧∀ (k1:Nat→Int→Int→LA→Option R) (K:Nat→LA→Option R),R3 N k1 K (Ad y) y.length d (x.length+y.length) (f:Int) (q:Int) (Ad x) x.length c (J:Int) fuel (p:Int) (y.length:Int) (l:Int) (Ad S)=k1 (x.length+y.length) J ((f+1:Nat):Int) (Ad S')
  | 0,l,fuel+1,S,p,v,hl,_,hS,hlen,hz,hp,hv=>by
    have hl':l=y.length:=by omega
    subst hl'
    rw [List.take_length] at hv
    refine ⟨S.set (f+y.length) p,B4 hS hp _,by simpa using hlen,by rw [Uw hz (by omega),hv],fun k1 K=>?_⟩
    rw [R3];unfold Ajg
    rw [ltF (Nat.le_refl _),cf,wA (by omega),Ah (by omega),ct,st1 (by omega),ct,w32 hp,Ar1,wS (by omega)]
  | m+1,l,fuel+1,S,p,v,hl,hfu,hS,hlen,hz,hp,hv=>by
    have hly:l<y.length:=by omega
    have yl:=Ay hy hly
    have hi:f+l<S.length:=by omega
    have sl:=Ay hS hi
    have hw:=Bof hp hq yl sl
    have hqy:q*y[l]<18446744073709551616:=by omega
    generalize hsd:p+(q*y[l]+S[f+l])=s at *
    have hset:=A3d (v:=s%4294967296) hi
    have key:val (S.set (f+l) (s%4294967296))+4294967296 ^ (f+(l+1))*(s/4294967296)=v+4294967296 ^ f*(q*val (y.take (l+1))):=by
      rw [At hly,← Nat.add_assoc f l 1,Nat.pow_succ]
      have e:=K4 (4294967296 ^ (f+l)) s
      have e2:4294967296 ^ (f+l)*s=4294967296 ^ (f+l)*p+(4294967296 ^ (f+l)*(q*y[l])+4294967296 ^ (f+l)*S[f+l]):=by rw [← hsd,Nat.mul_add,Nat.mul_add]
      have e3:4294967296 ^ f*(q*(val (y.take l)+4294967296 ^ l*y[l]))=4294967296 ^ f*(q*val (y.take l))+4294967296 ^ (f+l)*(q*y[l]):=by
        rw [Nat.mul_add,Nat.mul_add,Nat.pow_add]
        congr 1
        rw [Nat.mul_assoc];congr 1
        rw [← Nat.mul_assoc,← Nat.mul_assoc,Nat.mul_comm q]
      omega
    obtain ⟨S',q1,q2,q3,q4⟩:=Btt (N:=N) (x:=x) (c:=c) (d:=d) (J:=J) hy hq hf hs m (l+1) fuel (S.set (f+l) (s%4294967296)) (s/4294967296) v (by omega) (by omega) (B4 hS (by omega) _) (by simpa using hlen) (fun j hj hk=>by
      rw [List.getElem_set,if_neg (by omega)];exact hz j (by simpa using hj) hk) (by omega) key
    refine ⟨S',q1,q2,q3,fun k1 K=>?_⟩
    rw [R3];unfold Ajg
    rw [ltT hly,ct,Ah hly,ct,rdl hly,wA (by omega),Ah (by omega),ct,A29 hi,ct,st1 hi,ct,w64 (show q<18446744073709551616 by omega),w64 (show y[l]<18446744073709551616 by omega),w64 (show S[f+l]<18446744073709551616 by omega),Bga,w64 hqy,Ahi,w64 (by omega),Ahi,hsd,w64 hw,A6m,Azr,Ar1,wS (by omega)]
    exact q4 k1 K
theorem Bmc {N:Nat} {x y:List Nat} {c d:Bool} (hx:Ag x) (hy:Ag y) (hfit:fit (x.length+y.length) N):∀ (m f fuel:Nat) (S:List Nat),f+m=x.length→m<fuel→Ag S→S.length=x.length+y.length →
    val S=val (x.take f)*val y →
    ∃ S',Ag S'∧val S'=val x*val y∧∀ K:Nat→LA→Option R,Jh N K (Ad y) y.length d (Ad x) x.length c fuel (x.length+y.length) (x.length:Int) (f:Int) (Ad S)=K (dig (val x*val y)).length (Ad S')
  | 0,f,fuel+1,S,hf,_,hS,hlen,hv=>by
    have hf':f=x.length:=by omega
    subst hf'
    rw [List.take_length] at hv
    refine ⟨S,hS,hv,fun K=>?_⟩
    rw [Jh];unfold Aae
    rw [ltF (Nat.le_refl _),cf,Ahj hlen.symm hS (by rw [hlen];exact hfit),hv]
  | m+1,f,fuel+1,S,hf,hfu,hS,hlen,hv=>by
    have h1:=hfit.1;have h2:=hfit.2
    have hfx:f<x.length:=by omega
    have xf:=Ay hx hfx
    have b1:=A7 (Bw hx f)
    rw [List.length_take,Nat.min_eq_left (by omega)] at b1
    have b2:=A7 hy
    have hbound:val S<4294967296 ^ (f+y.length):=by
      rw [hv,Nat.pow_add];exact Nat.mul_lt_mul'' b1 b2
    have hnext:val (x.take (f+1))*val y=val S+4294967296 ^ f*(x[f]*val y):=by
      rw [At hfx,Nat.add_mul,hv,Nat.mul_assoc]
    by_cases h0:x[f]=0
    · obtain ⟨S',q1,q2,q3⟩:=Bmc (c:=c) (d:=d) hx hy hfit m (f+1) fuel S (by omega) (by omega) hS hlen (by rw [hnext,h0];simp)
      refine ⟨S',q1,q2,fun K=>?_⟩
      rw [Jh];unfold Aae
      rw [ltT hfx,ct,Ah hfx,ct,rdl hfx,show (((x[f]:Nat):Int)==0)=true by simp [h0],ct,wS (by omega)]
      exact q3 K
    · obtain ⟨S1,p1,p2,p3,p4⟩:=Btt (R:=R) (N:=N) (x:=x) (y:=y) (c:=c) (d:=d) (f:=f) (q:=x[f]) (J:=x.length) hy xf hfx (by omega) y.length 0 N S 0 (val S) (by omega) (by omega) hS hlen (Bts hbound) (by omega) (by simp [val])
      obtain ⟨S',q1,q2,q3⟩:=Bmc (c:=c) (d:=d) hx hy hfit m (f+1) fuel S1 (by omega) (by omega) p1 p2 (by rw [p3,hnext])
      refine ⟨S',q1,q2,fun K=>?_⟩
      rw [Jh];unfold Aae
      rw [ltT hfx,ct,Ah hfx,ct,rdl hfx,show (((x[f]:Nat):Int)==0)=false by simp;exact h0,cf]
      have:=p4 (Jh N K (Ad y) y.length d (Ad x) x.length c fuel) K
      simp only [Int.natCast_zero] at this
      dsimp only
      rw [this]
      exact q3 K
theorem Ar3 {N:Nat} {a b:List Nat} {n m:Nat} {t o t' o':Bool} (hn:n=a.length) (hm:m=b.length) (ha:Ag a) (hb:Ag b) (hf:fit (a.length+b.length) N) :
    ∃ S',Ag S'∧val S'=val a*val b∧∀ K:Nat→LA→Option R,Ajh N (Ad a) n t o (Ad b) m t' o' K=K (dig (val a*val b)).length (Ad S'):=by
  subst hn hm
  have h1:=hf.1;have h2:=hf.2
  have la:=(Bc ha).2
  have lb:=(Bc hb).2
  by_cases ha0:val a=0
  · refine ⟨[],S8,by rw [ha0];simp [val],fun K=>?_⟩
    rw [Aji];unfold A04 A03
    dsimp only
    rw [Bo rfl ha (hf.le (by omega)),Bo rfl hb (hf.le (by omega)),ha0,Nat.zero_mul,C3];rfl
  · by_cases hb0:val b=0
    · refine ⟨[],S8,by rw [hb0];simp [val],fun K=>?_⟩
      rw [Aji];unfold A04 A03
      dsimp only
      rw [Bo rfl ha (hf.le (by omega)),Bo rfl hb (hf.le (by omega)),hb0,Nat.mul_zero,C3]
      cases ((((dig (val a)).length:Nat):Int)==0)<;>rfl
    · obtain ⟨S',q1,q2,q3⟩:=Bmc (R:=R) (N:=N) (x:=dig (val a)) (y:=dig (val b)) (c:=o) (d:=o') (Ab _) (Ab _) (hf.le (by omega)) (dig (val a)).length 0 N (List.replicate ((dig (val a)).length+(dig (val b)).length) 0) (by omega) (by omega) (B0 _) (by simp) (by rw [C9];simp [val])
      rw [Af,Af] at q2
      refine ⟨S',q1,q2,fun K=>?_⟩
      rw [Aji];unfold A04 A03
      dsimp only
      have n1:(dig (val a)).length≠0:=fun h=>ha0 (Bd.1 h)
      have n2:(dig (val b)).length≠0:=fun h=>hb0 (Bd.1 h)
      rw [Bo rfl ha (hf.le (by omega)),Bo rfl hb (hf.le (by omega)),i0F n1,show ((false:Bool)==false)=true by rfl,ct,cfB,i0F n2,cf]
      unfold A4v Axz
      rw [wA (by omega),mk4 (by omega),ct,Int.toNat_natCast,Cf]
      have:=q3 K
      rw [Af,Af] at this
      exact this
end
end Gx

namespace Gx
open Go Go.Proofs
section
variable {R:Type}
theorem A3e {v:Nat} (h:(dig v).length≤2):v<18446744073709551616:=by
  have:=A7 (Ab v)
  rw [Af] at this
  have h2:4294967296 ^ (dig v).length≤4294967296 ^ 2:=Nat.pow_le_pow_right (by omega) h
  omega
theorem Al8 {v:Nat} (h:v<18446744073709551616):(dig v).length≤2:=Dd (by simpa using h)
theorem Ahm {N:Nat} {l:List Nat} {n:Nat} {t o:Bool} {K:Int→Option R} (hn:n=l.length) (hl:Ag l) (h2:l.length≤2) (hN:4≤N):Pl N (Ad l) n t o K=K (val l:Int):=by
  subst hn
  obtain ⟨M,rfl⟩:∃ M,N=M+4:=⟨N - 4,by omega⟩
  rw [A8e];unfold Bdp Bdo
  match l,hl,h2 with
  | [],_,_ =>
    dsimp only
    rw [Ih];unfold H0
    simp [val]
  | [x],hl,_ =>
    have hx:=(Cp.1 hl).1
    dsimp only
    rw [Ih];unfold H0
    simp only [List.length_cons,List.length_nil,Int.toNat_zero,Nat.zero_mul,List.drop_zero,Y6,Be]
    rw [show decide ((0:Int)<((0+1:Nat):Int))=true by decide,ct,show Aj 0 (0+1)=true by decide,ct,show IntKind.wrap .i64 ((32:Int)*0)=0 by decide,show decide ((0:Int)<0)=false by decide,cf]
    rw [Ih];unfold H0
    rw [show IntKind.wrap .i64 ((0:Int)+1)=1 by decide,show decide ((1:Int)<((0+1:Nat):Int))=false by decide,cf]
    have e:IntKind.wrap .u64 ((IntKind.wrap .u64 (x:Int))*2 ^ (min (Int.toNat 0) 64))=(x:Int):=by rw [w64 (by omega)];simp;exact w64 (by omega)
    rw [e,show (0:Int)=((0:Nat):Int) by rfl,Bp9 (by omega) (by omega)]
    simp [val]
  | [x,y],hl,_ =>
    have hx:=(Cp.1 hl).1
    have hy:=(Cp.1 (Cp.1 hl).2).1
    dsimp only
    rw [Ih];unfold H0
    simp only [List.length_cons,List.length_nil,Int.toNat_zero,Nat.zero_mul,List.drop_zero,Y6,Be]
    rw [show decide ((0:Int)<((0+1+1:Nat):Int))=true by decide,ct,show Aj 0 (0+1+1)=true by decide,ct,show IntKind.wrap .i64 ((32:Int)*0)=0 by decide,show decide ((0:Int)<0)=false by decide,cf]
    rw [Ih];unfold H0
    rw [show IntKind.wrap .i64 ((0:Int)+1)=1 by decide,show decide ((1:Int)<((0+1+1:Nat):Int))=true by decide,ct,show Aj 1 (0+1+1)=true by decide,ct,show IntKind.wrap .i64 ((32:Int)*1)=32 by decide,show decide ((32:Int)<0)=false by decide]
    simp only [show Int.toNat 1*1=1 by rfl,List.drop_succ_cons,List.drop_zero,Be,cf]
    rw [Ih];unfold H0
    rw [show IntKind.wrap .i64 ((1:Int)+1)=2 by decide,show decide ((2:Int)<((0+1+1:Nat):Int))=false by decide,cf]
    have e:IntKind.wrap .u64 ((IntKind.wrap .u64 (x:Int))*2 ^ (min (Int.toNat 0) 64))=(x:Int):=by rw [w64 (by omega)];simp;exact w64 (by omega)
    have e2:IntKind.wrap .u64 ((IntKind.wrap .u64 (y:Int))*2 ^ (min (Int.toNat 32) 64))=((y*2 ^ 32:Nat):Int):=by
      rw [w64 (by omega),show (2:Int) ^ (min (Int.toNat 32) 64)=((2 ^ 32:Nat):Int) by rfl,Bga,w64 (by omega)]
    rw [e,e2,show (0:Int)=((0:Nat):Int) by rfl,Bp9 (by omega) (by omega),Bp9 (by simp;omega) (by omega),Nat.zero_or,Nat.or_comm,A6n (by omega)]
    congr 1;simp only [val];omega
theorem Iw {N:Nat} {v:Nat} (hv:v<18446744073709551616) (hN:4≤N):∃ S,Ag S∧val S=v∧∀ K:Nat→LA→Option R,Bj N (v:Int) K=K (dig v).length (Ad S):=by
  have hl:Ag [v%4294967296,v/4294967296]:=Cp.2 ⟨by omega,Cp.2 ⟨by omega,S8⟩⟩
  have hval:val [v%4294967296,v/4294967296]=v:=by simp [val];omega
  refine ⟨_,hl,hval,fun K=>?_⟩
  rw [Acl];unfold Z3 Z2
  rw [Azr,A6m,w32 (show v/4294967296<4294967296 by omega)]
  have:=Bgb (R:=R) (N:=N) (l:=[v%4294967296,v/4294967296]) (K:=fun c=>K c (Ad [v%4294967296,v/4294967296])) hl (by simp) 2 N (by simp) (by omega)
  rw [show [v%4294967296,v/4294967296].take 2=[v%4294967296,v/4294967296] by rfl,hval] at this
  rw [Axf];unfold Baw Bav
  exact this
theorem K5 {N:Nat} {l:List Nat} {n:Nat} {t o:Bool} {K:Int→Bool→Option R} (hn:n=l.length) (hl:Ag l) (hf:fit l.length N):Yu N (Ad l) n t o K=if val l<18446744073709551616 then K (val l:Int) true else K 0 false:=by
  have h1:=hf.1
  rw [Avb];unfold Axx Axw
  rw [Bo hn hl hf]
  by_cases h:val l<18446744073709551616
  · have:=Al8 h
    rw [if_pos h,show decide ((((dig (val l)).length:Nat):Int)>2)=false by simp;omega,cf,Ahm rfl (Ab _) this (by omega),Af]
  · have:¬ (dig (val l)).length≤2:=fun h2=>h (A3e h2)
    rw [if_neg h,show decide ((((dig (val l)).length:Nat):Int)>2)=true by simp;omega,ct]
theorem At4 {N:Nat} {l:List Nat} {n:Nat} {t o:Bool} {K:Nat→LA→Option R} (hn:n=l.length) (hl:Ag l) (hf:fit l.length N):Xt N (Ad l) n t o K=K (dig (val l)).length (Ad (dig (val l))):=by
  have h1:=hf.1;have h2:=hf.2
  have:=(Bc hl).2
  rw [A8i];unfold Bdx Bdw
  rw [Bo hn hl hf,mk4 (by omega),ct,Aee,Bool.or_true,ct]
  congr 1
  unfold D9
  rw [Nat.min_self,Nat.mul_one,List.take_zero,List.nil_append,List.take_of_length_le (by rw [Bf];exact Nat.le_refl _),List.drop_eq_nil_of_le (by simp [Bf]),List.append_nil]
end
end Gx

namespace Gx
open Go Go.Proofs
section
variable {R:Type}
def Bwz:List UInt8:=[0,1,2,2,3,3,3,3,4,4,4,4,4,4,4,4,5,5,5,5,5,5,5,5,5,5,5,5,5,5,5,5,6,6,6,6,6,6,6,6,6,6,6,6,6,6,6,6,6,6,6,6,6,6,6,6,6,6,6,6,6,6,6,6,7,7,7,7,7,7,7,7,7,7,7,7,7,7,7,7,7,7,7,7,7,7,7,7,7,7,7,7,7,7,7,7,7,7,7,7,7,7,7,7,7,7,7,7,7,7,7,7,7,7,7,7,7,7,7,7,7,7,7,7,7,7,7,7,8,8,8,8,8,8,8,8,8,8,8,8,8,8,8,8,8,8,8,8,8,8,8,8,8,8,8,8,8,8,8,8,8,8,8,8,8,8,8,8,8,8,8,8,8,8,8,8,8,8,8,8,8,8,8,8,8,8,8,8,8,8,8,8,8,8,8,8,8,8,8,8,8,8,8,8,8,8,8,8,8,8,8,8,8,8,8,8,8,8,8,8,8,8,8,8,8,8,8,8,8,8,8,8,8,8,8,8,8,8,8,8,8,8,8,8,8,8,8,8,8,8,8,8,8,8,8,8]
theorem Bus:∀ i:Fin 256,0<i.1→2 ^ (Bwz.getD i.1 0).toNat≤2*i.1∧i.1<2 ^ (Bwz.getD i.1 0).toNat:=by decide +kernel
theorem Bgn {k y x m:Nat} (h:2 ^ k≤2*y∧y<2 ^ k) (hy:y=x/2 ^ m):2 ^ (k+m)≤2*x∧x<2 ^ (k+m):=by
  have hp:0<2 ^ m:=Nat.pow_pos (by omega)
  have h1:x<2 ^ m*(y+1):=by rw [hy];have:=Nat.div_add_mod x (2 ^ m);have:=Nat.mod_lt x hp;rw [Nat.mul_add];omega
  have h2:2 ^ m*y≤x:=by rw [hy];exact Nat.mul_div_le x _
  have h3:2 ^ m*(y+1)≤2 ^ m*2 ^ k:=Nat.mul_le_mul_left _ h.2
  have h4:2 ^ m*2 ^ k≤2 ^ m*(2*y):=Nat.mul_le_mul_left _ h.1
  rw [Nat.pow_add,Nat.mul_comm (2 ^ k)]
  have h5:2 ^ m*(2*y)=2*(2 ^ m*y):=by rw [Nat.mul_left_comm]
  omega
theorem Bvi {a:Nat} (h:a<256):IntKind.wrap .u8 (a:Int)=(a:Int):=by rw [wrap_u8];congr 1;omega
theorem Bvj {N:Nat} {a b:Nat} {K:Int→Option R} (h0:0<a) (h1:a<65536) (hb:b≤16):∃ k:Nat,2 ^ k≤2*a∧a<2 ^ k∧k≤16∧Fj N K (a:Int) (b:Int)=K ((b+k:Nat):Int):=by
  have small:∀ i:Nat,0<i→i<256→∃ k:Nat,(2 ^ k≤2*i∧i<2 ^ k)∧k≤8∧(Bwz.getD i 0).toNat=k:=by
    intro i hi hi2
    have:=Bus ⟨i,hi2⟩ hi
    refine ⟨_,this,?_,rfl⟩
    rcases Nat.lt_or_ge 8 (Bwz.getD i 0).toNat with h | h
    · have h3:=this.1
      have h4:2 ^ 9≤2 ^ (Bwz.getD i 0).toNat:=Nat.pow_le_pow_right (by omega) h
      simp only at h3
      omega
    · exact h
  by_cases h:a≥256
  · obtain ⟨k,p1,p2,p3⟩:=small (a/256) (by omega) (by omega)
    have p4:=Bgn (m:=8) p1 (show a/256=a/2 ^ 8 by rfl)
    refine ⟨k+8,p4.1,p4.2,by omega,?_⟩
    unfold Fj Gs
    rw [show decide (((a:Nat):Int)≥256)=true by simp;omega,ct,Q6 a 8,show a/2 ^ 8=a/256 by rfl,Bvi (by omega),Ah (by omega),ct,Int.toNat_natCast]
    change K (IntKind.wrap .i64 (IntKind.wrap .i64 ((b:Int)+8)+IntKind.wrap .i64 (((Bwz.getD (a/256) 0).toNat:Nat):Int)))=_
    rw [p3,i64 (a:=(b:Int)+8) (by omega),i64 (a:=(k:Int)) (by omega),i64 (by omega)]
    congr 1;omega
  · obtain ⟨k,p1,p2,p3⟩:=small a (by omega) (by omega)
    refine ⟨k,p1.1,p1.2,by omega,?_⟩
    unfold Fj Gs
    rw [show decide (((a:Nat):Int)≥256)=false by simp;omega,cf,Bvi (by omega),Ah (by omega),ct,Int.toNat_natCast]
    change K (IntKind.wrap .i64 ((b:Int)+IntKind.wrap .i64 (((Bwz.getD a 0).toNat:Nat):Int)))=_
    rw [p3,i64 (a:=(k:Int)) (by omega),i64 (by omega)]
    congr 1
theorem Bqd {N:Nat} {c:Nat} {K:Int→Option R} (h0:0<c) (h1:c<4294967296):∃ k:Nat,2 ^ k≤2*c∧c<2 ^ k∧k≤32∧I6 N (c:Int) K=K (k:Int):=by
  rw [Wj];unfold R7 R6
  by_cases h:c≥65536
  · obtain ⟨k,p1,p2,p3,p4⟩:=Bvj (R:=R) (N:=N) (a:=c/65536) (b:=16) (K:=K) (by omega) (by omega) (by omega)
    have p5:=Bgn (m:=16) ⟨p1,p2⟩ (show c/65536=c/2 ^ 16 by rfl)
    refine ⟨k+16,p5.1,p5.2,by omega,?_⟩
    rw [show decide (((c:Nat):Int)≥65536)=true by simp;omega,ct,Q6 c 16,show c/2 ^ 16=c/65536 by rfl]
    rw [Nat.add_comm k];exact p4
  · obtain ⟨k,p1,p2,p3,p4⟩:=Bvj (R:=R) (N:=N) (a:=c) (b:=0) (K:=K) (by omega) (by omega) (by omega)
    refine ⟨k,p1,p2,by omega,?_⟩
    rw [show decide (((c:Nat):Int)≥65536)=false by simp;omega,cf]
    rw [Nat.zero_add] at p4;exact p4
theorem Bre {N:Nat} {c:Nat} (h0:0<c) (h1:c<4294967296):∃ s:Nat,s≤31∧2147483648≤c*2 ^ s∧c*2 ^ s<4294967296∧∀ K:Int→Option R,Bq N (c:Int) K=K (s:Int):=by
  have key:∀ K:Int→Option R,∃ s:Nat,(s≤31∧2147483648≤c*2 ^ s∧c*2 ^ s<4294967296)∧Bq N (c:Int) K=K (s:Int):=by
    intro K
    rw [I7];unfold Fw Fv
    obtain ⟨k,p1,p2,p3,p4⟩:=Bqd (R:=R) (N:=N) (K:=fun c=>K (IntKind.wrap .i64 ((32:Int) - c))) h0 h1
    have e:2 ^ k*2 ^ (32 - k)=4294967296:=by rw [← Nat.pow_add,show k+(32 - k)=32 by omega]
    have hk:1≤k:=by
      rcases Nat.eq_zero_or_pos k with h | h
      · subst h;simp at p2;omega
      · exact h
    refine ⟨32 - k,⟨by omega,?_,?_⟩,?_⟩
    · have:=Nat.mul_le_mul_right (2 ^ (32 - k)) p1
      rw [e,Nat.mul_assoc] at this;omega
    · have:=(Nat.mul_lt_mul_right (show 0<2 ^ (32 - k) from Nat.pow_pos (by omega))).2 p2
      rw [e] at this;exact this
    · rw [p4,i64 (by omega)];congr 1;omega
  obtain ⟨s,hs,_⟩:=key fun _=>none
  refine ⟨s,hs.1,hs.2.1,hs.2.2,fun K=>?_⟩
  obtain ⟨s',hs',e⟩:=key K
  have:s'=s:=by
    rcases Nat.lt_trichotomy s s' with h | h | h
    · exfalso
      have h2:2 ^ (s+1)≤2 ^ s':=Nat.pow_le_pow_right (by omega) h
      have h3:=Nat.mul_le_mul_left c h2
      rw [Nat.pow_succ,← Nat.mul_assoc] at h3
      omega
    · exact h.symm
    · exfalso
      have h2:2 ^ (s'+1)≤2 ^ s:=Nat.pow_le_pow_right (by omega) h
      have h3:=Nat.mul_le_mul_left c h2
      rw [Nat.pow_succ,← Nat.mul_assoc] at h3
      omega
  rw [e,this]
theorem Bmd {s:Nat} (h:s≤31):2 ^ s≤2147483648:=Nat.pow_le_pow_right (n:=2) (by omega) h
theorem Btu {x c s:Nat} (hx:x<4294967296) (hc:c<2 ^ s) (hs:s≤31):Of .u64 (c:Int) (IntKind.wrap .u64 ((IntKind.wrap .u64 (x:Int))*2 ^ (min (Int.toNat (s:Int)) 64)))=((x*2 ^ s+c:Nat):Int)∧x*2 ^ s+c<4294967296*2 ^ s:=by
  have hp:=Bmd hs
  have h1:x*2 ^ s≤4294967295*2 ^ s:=Nat.mul_le_mul_right _ (by omega)
  have h2:(x+1)*2 ^ s≤4294967296*2 ^ s:=Nat.mul_le_mul_right _ (by omega)
  rw [Nat.add_mul] at h2
  refine ⟨?_,by omega⟩
  rw [w64 (by omega),Int.toNat_natCast,Nat.min_eq_left (by omega),show (2:Int) ^ s=((2 ^ s:Nat):Int) by simp,Bga,w64 (by omega),Bp9 (by omega) (by omega),Nat.or_comm,A6n hc]
theorem A3f {N:Nat} {a:List Nat} {t o:Bool} {s:Nat} (ha:Ag a) (hs:s≤31) (hz':a.length≤1000000000000):∀ (m d fuel:Nat) (S:List Nat) (c:Nat),d+m=a.length→m<fuel→Ag S→S.length=a.length+1→zer S d→c<2 ^ s →
    val S+4294967296 ^ d*c=val (a.take d)*2 ^ s →
    ∃ S',Ag S'∧S'.length=a.length+1∧val S'=val a*2 ^ s∧∀ K:Nat→LA→Option R,Jj N K (Ad a) a.length t o (s:Int) fuel (a.length+1) (c:Int) (a.length:Int) (d:Int) (Ad S)=K (a.length+1) (Ad S')
  | 0,d,fuel+1,S,c,hd,_,hS,hl,hz,hc,hv=>by
    have hd':d=a.length:=by omega
    subst hd'
    have hp:=Bmd hs
    rw [List.take_length] at hv
    refine ⟨S.set a.length c,B4 hS (by omega) _,by simpa using hl,by rw [Uw hz (by omega),hv],fun K=>?_⟩
    rw [Jj];unfold Pv
    rw [ltF (Nat.le_refl _),cf,Ah (by omega),ct,Bwl (by omega),ct,w32 (by omega),Bvh]
  | m+1,d,fuel+1,S,c,hd,hfu,hS,hl,hz,hc,hv=>by
    have hda:d<a.length:=by omega
    have ad:=Ay ha hda
    obtain ⟨w1,w2⟩:=Btu ad hc hs
    generalize hsd:a[d]*2 ^ s+c=w at *
    have hpos:0<2 ^ s:=Nat.pow_pos (by omega)
    have key:val (S.set d (w%4294967296))+4294967296 ^ (d+1)*(w/4294967296)=val (a.take (d+1))*2 ^ s:=by
      rw [Uw hz (by omega),At hda,Nat.pow_succ,Nat.add_mul,Nat.mul_assoc _ a[d]]
      have e:=K4 (4294967296 ^ d) w
      have e2:4294967296 ^ d*w=4294967296 ^ d*(a[d]*2 ^ s)+4294967296 ^ d*c:=by rw [← hsd,Nat.mul_add]
      omega
    obtain ⟨S',q1,q2,q3,q4⟩:=A3f (t:=t) (o:=o) ha hs hz' m (d+1) fuel (S.set d (w%4294967296)) (w/4294967296) (by omega) (by omega) (B4 hS (by omega) d) (by simpa using hl) (Aef hz) (Nat.div_lt_of_lt_mul w2) key
    refine ⟨S',q1,q2,q3,fun K=>?_⟩
    rw [Jj];unfold Pv
    rw [ltT hda,ct,Ah hda,ct,rdl hda,show decide (((s:Nat):Int)<0)=false by simp,cf,Ah (by omega),ct,st1 (by omega),ct,w1,A6m,Azr,Ar1,wS (by omega)]
    exact q4 K
theorem A3g {N:Nat} {a:List Nat} {n:Nat} {t o:Bool} {s:Nat} (hn:n=a.length) (ha:Ag a) (hs:s≤31) (hf:fit a.length N) :
    ∃ S',Ag S'∧S'.length=a.length+1∧val S'=val a*2 ^ s∧∀ K:Nat→LA→Option R,Sa N (Ad a) n t o (s:Int) K=K (a.length+1) (Ad S'):=by
  subst hn
  have h1:=hf.1;have h2:=hf.2
  obtain ⟨S',q1,q2,q3,q4⟩:=A3f (R:=R) (N:=N) (t:=t) (o:=o) ha hs (by omega) a.length 0 N (List.replicate (a.length+1) 0) 0 (by omega) (by omega) (B0 _) (by simp) (Jr _) (Nat.pow_pos (by omega)) (by rw [C9];simp [val])
  refine ⟨S',q1,q2,q3,fun K=>?_⟩
  rw [Apx];unfold Apw Apv
  rw [wmk (by omega),mk4 (by omega),ct,Int.toNat_natCast,Cf]
  exact q4 K
end
end Gx

namespace Gx
open Go Go.Proofs
section
variable {R:Type}
theorem rdw {P U Q:List Nat} {i:Nat} (h:i<U.length) {f:Int→Option R}:rdI .u32 (List.drop (P.length+((Int.toNat (i:Int))*1)) (Ad (P++(U++Q)))) f=f (U[i]:Nat):=by
  rw [Int.toNat_natCast,Nat.mul_one,Bn8 (by simp;omega)]
  congr 2
  rw [List.getElem_append_right (by omega)]
  simp only [Nat.add_sub_cancel_left]
  rw [List.getElem_append_left h]
theorem stw {P U Q:List Nat} {i:Nat} (h:i<U.length):((Nat.beq 1 1)&&((Nat.ble ((P.length+((Int.toNat (i:Int))*1))+1) (List.length (Ad (P++(U++Q)))))&&(!false)))=true:=by
  rw [Bf,Int.toNat_natCast];simp;omega
theorem Btv {P U Q:List Nat} {i v:Nat} (h:i<U.length):List.set (Ad (P++(U++Q))) (P.length+((Int.toNat (i:Int))*1)) (.int .u32 (v:Int))=Ad (P++(U.set i v++Q)):=by
  rw [Int.toNat_natCast,Nat.mul_one,A28,List.set_append_right _ _ (by omega),Nat.add_sub_cancel_left,List.set_append_left _ _ h]
theorem Bwv {P U Q:List Nat} {i:Nat} (h:i<U.length) {f:Int→Option R}:rdI .u32 (List.drop (P.length+(i*1)) (Ad (P++(U++Q)))) f=f (U[i]:Nat):=by
  have:=rdw (R:=R) (P:=P) (Q:=Q) (f:=f) h;rw [Int.toNat_natCast] at this;exact this
theorem A3h {X:List Nat} {p g:Nat} (h:p<X.length):val ((X.set p g).take (p+1))=val (X.take p)+4294967296 ^ p*g:=by
  rw [At (by simpa using h),List.getElem_set_self,List.take_set_of_le (Nat.le_refl _)]
theorem Ahn {X:List Nat} {n:Nat} (h:X.length=n+1):val X=val (X.take n)+4294967296 ^ n*X[n]:=by
  have:=At (l:=X) (c:=n) (by omega)
  rwa [List.take_of_length_le (by omega)] at this
theorem Brf {D:Nat} (h:1≤D) (h2:D<18446744073709551616):IntKind.wrap .u64 ((D:Int) - 1)=((D - 1:Nat):Int):=by rw [Azs];omega
theorem But {D y t:Nat} (hD:D<4294967296) (hy:y<4294967296) (ht:t≤4294967296):D*y+t<18446744073709551616∧(D*y+t)/4294967296+1≤4294967296:=by
  have:D*y≤4294967295*4294967295:=Nat.mul_le_mul (by omega) (by omega)
  omega
theorem Brg {N:Nat} {P Q X v:List Nat} {n D:Nat} {f g:Bool} (hv:Ag v) (hn:v.length=n) (hX:Ag X) (hXl:X.length=n+1) (hs:n≤1000000000000) (hD:D<4294967296) (hD1:1≤D) {r:Nat} (hr:val X+val v=4294967296 ^ (n+1)+r) (hrv:r<4294967296 ^ n) :
    ∀ (m o fuel:Nat) (Y:List Nat) (c:Nat),o+m=n→m<fuel→Ag Y→Y.length=n+1→(∀ j (h1:j<Y.length) (h2:j<X.length),o≤j→Y[j]=X[j])→c≤1→val (Y.take o)+4294967296 ^ o*c=val (X.take o)+val (v.take o) →
    ∃ Y',Ag Y'∧Y'.length=n+1∧val Y'=r∧∀ K:Int→LA→Option R,F0 N K P.length (n+1) (n:Int) (D:Int) (Ad v) n f g fuel (c:Int) (n:Int) (o:Int) (Ad (P++(Y++Q)))=K ((D - 1:Nat):Int) (Ad (P++(Y'++Q)))
  | 0,o,fuel+1,Y,c,ho,_,hY,hYl,hag,hc,hval=>by
    have ho':o=n:=by omega
    subst ho'
    rw [show v.take o=v by rw [← hn];exact List.take_length] at hval
    have e1:=Ahn hXl
    have eq:val (Y.take o)+4294967296 ^ o*(X[o]+c)=4294967296 ^ o*4294967296+r:=by
      rw [Nat.mul_add,← Nat.pow_succ];omega
    have yt:=A7 (Bw hY o)
    rw [List.length_take,Nat.min_eq_left (by omega)] at yt
    have hP:0<4294967296 ^ o:=Nat.pow_pos (by omega)
    have hw:X[o]+c=4294967296:=by
      have h1:(val (Y.take o)+4294967296 ^ o*(X[o]+c))/4294967296 ^ o=X[o]+c:=by rw [Nat.add_mul_div_left _ _ hP,Nat.div_eq_of_lt yt,Nat.zero_add]
      have h2:(4294967296 ^ o*4294967296+r)/4294967296 ^ o=4294967296:=by rw [Nat.mul_add_div hP,Nat.div_eq_of_lt hrv,Nat.add_zero]
      rw [← h1,eq,h2]
    have hyr:val (Y.take o)=r:=by rw [hw] at eq;omega
    have hyo:Y[o]=X[o]:=hag o (by omega) (by omega) (Nat.le_refl _)
    have hl2:(Y.set o 0).length=o+1:=by simpa using hYl
    refine ⟨Y.set o 0,B4 hY (by omega) o,hl2,?_,fun K=>?_⟩
    · have:=A3h (X:=Y) (p:=o) (g:=0) (by omega)
      rw [List.take_of_length_le (by omega),hyr] at this;simpa using this
    · rw [F0];unfold Lr
      have hXo:=Ay hX (show o<X.length by omega)
      rw [ltF (Nat.le_refl _),cf,Ah (by omega),ct,rdw (by omega),ct,stw (by omega),ct,hyo,w32 (show c<4294967296 by omega),Ahi,hw,Azr,Btv (by omega),Brf hD1 (by omega),w32 (by omega)]
  | m+1,o,fuel+1,Y,c,ho,hfu,hY,hYl,hag,hc,hval=>by
    have hon:o<n:=by omega
    have hov:o<v.length:=by omega
    have vo:=Ay hv hov
    have hoy:o<Y.length:=by omega
    have yo:=Ay hY hoy
    have hyo:Y[o]=X[o]:=hag o (by omega) (by omega) (Nat.le_refl _)
    have hs1:c+(Y[o]+v[o])<18446744073709551616:=by omega
    have hs2:(c+(Y[o]+v[o]))/4294967296≤1:=by omega
    generalize hsd:c+(Y[o]+v[o])=s at *
    have key:val ((Y.set o (s%4294967296)).take (o+1))+4294967296 ^ (o+1)*(s/4294967296)=val (X.take (o+1))+val (v.take (o+1)):=by
      rw [A3h hoy,At (l:=X) (by omega),At hov,Nat.pow_succ]
      have e:=K4 (4294967296 ^ o) s
      have e2:4294967296 ^ o*s=4294967296 ^ o*c+(4294967296 ^ o*X[o]+4294967296 ^ o*v[o]):=by rw [← hsd,Nat.mul_add,Nat.mul_add,hyo]
      omega
    obtain ⟨Y',q1,q2,q3,q4⟩:=Brg (N:=N) (P:=P) (Q:=Q) (f:=f) (g:=g) hv hn hX hXl hs hD hD1 hr hrv m (o+1) fuel (Y.set o (s%4294967296)) (s/4294967296) (by omega) (by omega) (B4 hY (by omega) o) (by simpa using hYl) (fun j h1 h2 hj=>by rw [List.getElem_set,if_neg (by omega)];exact hag j (by simpa using h1) h2 (by omega)) hs2 key
    refine ⟨Y',q1,q2,q3,fun K=>?_⟩
    rw [F0];unfold Lr
    rw [ltT hon,ct,Ah hon,ct,rdl hov,Ah (by omega),ct,rdw hoy,ct,stw hoy,ct,w64 (show v[o]<18446744073709551616 by omega),w64 (show Y[o]<18446744073709551616 by omega),Ahi,w64 (by omega),Ahi,hsd,w64 hs1,A6m,Azr,Btv hoy,wS (by omega)]
    exact q4 K
theorem Btw {N:Nat} {P Q U v:List Nat} {n D:Nat} {f g:Bool} (hv:Ag v) (hn:v.length=n) (hU:Ag U) (hUl:U.length=n+1) (hs:n≤1000000000000) (hN:n+2<N) (hD:D<4294967296) (hv0:0<val v) (hq1:val U/val v≤D) (hq2:D≤val U/val v+1) :
    ∀ (m p fuel:Nat) (X:List Nat) (t:Nat),p+m=n→m<fuel→Ag X→X.length=n+1→(∀ j (h1:j<X.length) (h2:j<U.length),p≤j→X[j]=U[j])→t≤4294967296→val (X.take p)+D*val (v.take p)=val (U.take p)+4294967296 ^ p*t →
    ∃ X',Ag X'∧X'.length=n+1∧val X'=val U%val v∧∀ K:Int→LA→Option R,Ea N K P.length (n+1) (Ad v) n f g (n:Int) (D:Int) fuel (t:Int) (n:Int) (p:Int) (Ad (P++(X++Q)))=K ((val U/val v:Nat):Int) (Ad (P++(X'++Q)))
  | 0,p,fuel+1,X,t,hp,_,hX,hXl,hag,ht,hval=>by
    have hp':p=n:=by omega
    subst hp'
    rw [show v.take p=v by rw [← hn];exact List.take_length] at hval
    have hXp:X[p]=U[p]:=hag p (by omega) (by omega) (Nat.le_refl _)
    have up:=Ay hU (show p<U.length by omega)
    obtain ⟨d,c,g1,g2,g3,g4,g5⟩:=At3 up ht
    have hl2:(X.set p d).length=p+1:=by simpa using hXl
    have hX2:=B4 hX g1 p
    have hv2:val (X.set p d)=val (X.take p)+4294967296 ^ p*d:=by
      have:=A3h (X:=X) (p:=p) (g:=d) (by omega)
      rwa [List.take_of_length_le (by omega)] at this
    have eU:=Ahn hUl
    have main:val (X.set p d)+D*val v=val U+4294967296 ^ (p+1)*c:=by
      have e:4294967296 ^ p*(U[p]+4294967296*c)=4294967296 ^ p*(d+t):=by rw [g3]
      rw [Nat.mul_add,Nat.mul_add,← Nat.mul_assoc] at e
      rw [hv2,eU,Nat.pow_succ];omega
    have hlt:=A7 hX2
    rw [hl2] at hlt
    have hdm:=Nat.div_add_mod (val U) (val v)
    have hmod:=Nat.mod_lt (val U) hv0
    have vlt:=A7 hv
    rw [hn] at vlt
    by_cases hc:c=0
    · subst hc
      have hDq:D=val U/val v:=by
        have:D≤val U/val v:=by rw [Nat.le_div_iff_mul_le hv0];omega
        omega
      refine ⟨X.set p d,hX2,hl2,?_,fun K=>?_⟩
      · rw [hDq,Nat.mul_comm] at main;omega
      · rw [Ea];unfold Hl
        rw [ltF (Nat.le_refl _),cf,Ah (by omega),ct,rdw (by omega),ct,stw (by omega),ct,hXp,w64 (show U[p]<18446744073709551616 by omega),g4,g5,show (((0:Nat):Int)==0)=true by rfl,ct,w32 hD,Btv (by omega),hDq]
    · have hc1:c=1:=by omega
      subst hc1
      have hDq:D=val U/val v+1:=by
        have:¬ D≤val U/val v:=fun h=>by
          have:=Nat.mul_le_mul_left (val v) h
          rw [Nat.mul_comm] at this
          omega
        omega
      have hr:val (X.set p d)+val v=4294967296 ^ (p+1)+val U%val v:=by
        rw [hDq,Nat.add_mul,Nat.mul_comm (val U/val v)] at main;omega
      obtain ⟨Y',q1,q2,q3,q4⟩:=Brg (R:=R) (N:=N) (P:=P) (Q:=Q) (f:=f) (g:=g) (X:=X.set p d) hv hn hX2 hl2 hs hD (by rw [hDq];exact Nat.le_add_left 1 _) hr (by omega) p 0 N (X.set p d) 0 (by omega) (by omega) hX2 hl2 (fun _ _ _ _=>rfl) (by omega) (by simp [val])
      refine ⟨Y',q1,q2,q3,fun K=>?_⟩
      rw [Ea];unfold Hl
      rw [ltF (Nat.le_refl _),cf,Ah (by omega),ct,rdw (by omega),ct,stw (by omega),ct,hXp,w64 (show U[p]<18446744073709551616 by omega),g4,g5,show (((1:Nat):Int)==0)=false by rfl,cf,Btv (by omega)]
      have:=q4 K
      rw [show D - 1=val U/val v by rw [hDq];rfl] at this
      exact this
  | m+1,p,fuel+1,X,t,hp,hfu,hX,hXl,hag,ht,hval=>by
    have hpn:p<n:=by omega
    have hpv:p<v.length:=by omega
    have vp:=Ay hv hpv
    have hpx:p<X.length:=by omega
    have hXp:X[p]=U[p]:=hag p (by omega) (by omega) (Nat.le_refl _)
    have up:=Ay hU (show p<U.length by omega)
    obtain ⟨hw1,hw2⟩:=But hD vp ht
    have hDv:D*v[p]<18446744073709551616:=by omega
    generalize hpp:D*v[p]+t=w at *
    obtain ⟨d,c,g1,g2,g3,g4,g5⟩:=At3 up (show w%4294967296≤4294967296 by omega)
    have key:val ((X.set p d).take (p+1))+D*val (v.take (p+1))=val (U.take (p+1))+4294967296 ^ (p+1)*(w/4294967296+c):=by
      rw [A3h hpx,At hpv,At (l:=U) (by omega),Nat.pow_succ]
      have e:=K4 (4294967296 ^ p) w
      have e2:4294967296 ^ p*w=4294967296 ^ p*(D*v[p])+4294967296 ^ p*t:=by rw [← hpp,Nat.mul_add]
      have e3:4294967296 ^ p*(U[p]+4294967296*c)=4294967296 ^ p*(d+w%4294967296):=by rw [g3]
      rw [Nat.mul_add,Nat.mul_add,← Nat.mul_assoc] at e3
      have e4:D*(val (v.take p)+4294967296 ^ p*v[p])=D*val (v.take p)+4294967296 ^ p*(D*v[p]):=by rw [Nat.mul_add,Nat.mul_left_comm]
      rw [e4,Nat.mul_add]
      omega
    obtain ⟨X',q1,q2,q3,q4⟩:=Btw (N:=N) (P:=P) (Q:=Q) (f:=f) (g:=g) hv hn hU hUl hs hN hD hv0 hq1 hq2 m (p+1) fuel (X.set p d) (w/4294967296+c) (by omega) (by omega) (B4 hX g1 p) (by simpa using hXl) (fun j h1 h2 hj=>by rw [List.getElem_set,if_neg (by omega)];exact hag j (by simpa using h1) h2 (by omega)) (by omega) key
    refine ⟨X',q1,q2,q3,fun K=>?_⟩
    rw [Ea];unfold Hl
    rw [ltT hpn,ct,Ah hpn,ct,rdl hpv,Ah (by omega),ct,rdw hpx,ct,stw hpx,ct,hXp,w64 (show v[p]<18446744073709551616 by omega),Bga,w64 hDv,Ahi,hpp,w64 hw1,Azr,w64 (show w%4294967296<18446744073709551616 by omega),w64 (show U[p]<18446744073709551616 by omega),g4,g5,A6m,Ahi,w64 (by omega),Btv hpx,wS (by omega)]
    exact q4 K
end
end Gx

namespace Gx
open Go Go.Proofs
section
variable {R:Type}
theorem Av9 (a b:Nat):Int.tdiv (a:Int) (b:Int)=((a/b:Nat):Int):=rfl
theorem Ar4 (a b:Nat):Int.tmod (a:Int) (b:Int)=((a%b:Nat):Int):=rfl
theorem Bvk {l:Nat} (h:l<4294967296):(((Int.fdiv (l:Int) (2 ^ 32)) != (0:Int)))=false:=by rw [A6m,Nat.div_eq_of_lt h];rfl
theorem Bvl {l:Nat} (h:4294967296≤l):(((Int.fdiv (l:Int) (2 ^ 32)) != (0:Int)))=true:=by
  have h1:l/4294967296≠0:=by omega
  rw [A6m];rw [bne_iff_ne];omega
theorem orw {a b:Nat} (ha:a<4294967296) (hb:b<4294967296):Of .u64 (IntKind.wrap .u64 ((a:Int)*2 ^ 32)) (b:Int)=((a*4294967296+b:Nat):Int):=by
  rw [show (2:Int) ^ 32=((2 ^ 32:Nat):Int) by rfl,Bga,w64 (by omega),Bp9 (by omega) (by omega),A6n (by omega)]
theorem Bvy {B l v1 v2 m u2:Nat} (h:m*B+u2<l*v2):(l*v1+m)*B+u2<l*(v1*B+v2):=by rw [Nat.add_mul,Nat.mul_add,← Nat.mul_assoc l v1];omega
theorem Bvz {B l v1 v2 m u2:Nat} (h:l*v2≤m*B+u2):l*(v1*B+v2)≤(l*v1+m)*B+u2:=by rw [Nat.add_mul,Nat.mul_add,← Nat.mul_assoc l v1];omega
theorem Bv0 {B u0 u1 u2 v1 v2:Nat} (h2:v2<B) (h:(u0*B+u1)*B+u2<(v1*B+v2+1)*B):u0*B+u1<v1*B+B:=by
  have:u0*B+u1<v1*B+v2+1:=Nat.lt_of_mul_lt_mul_right (Nat.lt_of_le_of_lt (Nat.le_add_right _ u2) h)
  omega
theorem pw1 (P x:Nat):P*4294967296*x=P*(x*4294967296):=by rw [Nat.mul_assoc,Nat.mul_comm 4294967296]
theorem Btx {N:Nat} {P Q U v:List Nat} {n:Nat} {f g:Bool} {K:Int→LA→Option R} (hn:v.length=n+2) (hv:Ag v) (hU:Ag U) (hUl:U.length=n+3) (hs:n≤1000000000000) {v1 v2 u2 top:Nat}
    (e1:v[n+1]'(by omega)=v1) (e2:v[n]'(by omega)=v2) (e3:U[n]'(by omega)=u2) (hv1:2147483648≤v1) (htop:top<v1*4294967296+4294967296)
    (hV:(v1*4294967296+v2)*4294967296 ^ n≤val v) (hV':val v<(v1*4294967296+v2+1)*4294967296 ^ n) (hUU:(top*4294967296+u2)*4294967296 ^ n≤val U) (hUU':val U<(top*4294967296+u2+1)*4294967296 ^ n) (hq:val U/val v<4294967296) :
    ∀ (k fuel l m:Nat),k<fuel→4294967296≤m+k*2147483648→m<4294967296→l*v1+m=top→val U/val v≤l→∃ D,D<4294967296∧val U/val v≤D∧D≤val U/val v+1 ∧
      Dj N K P.length (n+3) (Ad v) (n+2) f g (Ad (P++(U++Q))) fuel ((n+2:Nat):Int) (l:Int) (m:Int)=Di N K P.length (n+3) (Ad v) (n+2) f g ((n+2:Nat):Int) (Ad (P++(U++Q))) (D:Int):=by
  have b1:=Ay hv (show n+1<v.length by omega)
  have b2:=Ay hv (show n<v.length by omega)
  have b3:=Ay hU (show n<U.length by omega)
  rw [e1] at b1;rw [e2] at b2;rw [e3] at b3
  have hP:0<4294967296 ^ n:=Nat.pow_pos (by omega)
  have hv0:0<val v:=Nat.lt_of_lt_of_le (Nat.mul_pos (by omega) hP) hV
  intro k
  induction k with
  | zero=>intro fuel l m _ h1 h2;omega
  | succ k ih =>
    intro fuel l m hf hm hm2 htm hql
    obtain ⟨fuel,rfl⟩:∃ F,fuel=F+1:=⟨fuel - 1,by omega⟩
    generalize hqq:val U/val v=q at *
    have wi1:IntKind.wrap .i64 (((n+2:Nat):Int) - 1)=((n+1:Nat):Int):=by rw [i64 (by omega)];omega
    have wi2:IntKind.wrap .i64 (((n+2:Nat):Int) - 2)=((n:Nat):Int):=by rw [i64 (by omega)];omega
    have lower : q < l → l < 18446744073709551616 → ∃ D, D < 4294967296 ∧ q ≤ D ∧ D ≤ q + 1 ∧
        I8 N (Dj N K P.length (n+3) (Ad v) (n+2) f g (Ad (P++(U++Q))) fuel) K P.length (n+3) (Ad v) (n+2) f g ((n+2:Nat):Int) (l:Int) (m:Int) (Ad (P++(U++Q)))=Di N K P.length (n+3) (Ad v) (n+2) f g ((n+2:Nat):Int) (Ad (P++(U++Q))) (D:Int):=by
      intro hlt hl64
      have hsum:(l - 1)*v1+(m+v1)=top:=by
        have:l*v1=(l - 1)*v1+v1:=by
          obtain ⟨l',rfl⟩:∃ l',l=l'+1:=⟨l - 1,by omega⟩
          rw [Nat.add_mul];simp
        omega
      unfold I8 Sc
      rw [wi1,Ah (by omega),ct,rdl (show n+1<v.length by omega),e1,w64 (show v1<18446744073709551616 by omega),Ahi,w64 (show m+v1<18446744073709551616 by omega),Brf (by omega) hl64]
      by_cases hbig:4294967296≤m+v1
      · have hDB : l - 1 < 4294967296 := by
          apply Nat.lt_of_not_le;intro hge
          have:=Nat.mul_le_mul_right v1 hge
          rw [Nat.mul_comm 4294967296] at this
          omega
        have hest:(l - 1)*(v1*4294967296+v2)≤top*4294967296+u2:=by
          have x1:(l - 1)*v2≤4294967295*4294967295:=Nat.mul_le_mul (by omega) (by omega)
          rw [← hsum,Nat.add_mul,Nat.mul_add,← Nat.mul_assoc]
          omega
        have hlo:=Bjv hV' hUU hest (by omega) hv0
        rw [hqq] at hlo
        exact ⟨l - 1,hDB,by omega,hlo,by rw [Bvl hbig,ct]⟩
      · obtain ⟨D,d1,d2,d3,d4⟩:=ih fuel (l - 1) (m+v1) (by omega) (by omega) (by omega) hsum (by omega)
        exact ⟨D,d1,d2,d3,by rw [Bvk (by omega),cf,d4]⟩
    rw [Dj];unfold Sd
    by_cases hlB:l<4294967296
    · rw [Bvk hlB,show ((false:Bool)==false)=true by rfl,ct,wi2,Ah (by omega),ct,rdl (show n<v.length by omega),Ah (by omega),ct,rdw (show n<U.length by omega),cfB,e2,e3,w64 (show v2<18446744073709551616 by omega),w64 (show u2<18446744073709551616 by omega),Bga]
      have x1:l*v2≤4294967295*4294967295:=Nat.mul_le_mul (by omega) (by omega)
      rw [w64 (show l*v2<18446744073709551616 by omega),orw hm2 b3]
      by_cases hgt:m*4294967296+u2<l*v2
      · rw [show decide (((l*v2:Nat):Int)>((m*4294967296+u2:Nat):Int))=true by rw [decide_eq_true_eq];omega,ct]
        have hup:val U/val v<l:=Bju hV hUU' (by rw [← htm];exact Bvy hgt) hv0
        rw [hqq] at hup
        exact lower hup (by omega)
      · rw [show decide (((l*v2:Nat):Int)>((m*4294967296+u2:Nat):Int))=false by rw [decide_eq_false_iff_not];omega,cf]
        have hest:l*(v1*4294967296+v2)≤top*4294967296+u2:=by
          rw [← htm];exact Bvz (Nat.le_of_not_lt hgt)
        have hlo:=Bjv hV' hUU hest (by omega) hv0
        rw [hqq] at hlo
        exact ⟨l,hlB,hql,hlo,rfl⟩
    · rw [Bvl (by omega),show ((true:Bool)==false)=false by rfl,cf]
      have hl64:l<18446744073709551616:=by
        have:l*2147483648≤l*v1:=Nat.mul_le_mul_left _ hv1
        omega
      exact lower (by omega) hl64
theorem Bgo {N:Nat} {P Q U v:List Nat} {n:Nat} {f g:Bool} (hn:v.length=n+2) (hv:Ag v) (hU:Ag U) (hUl:U.length=n+3) (hs:n≤1000000000) (hN:n+8<N) (hv1:2147483648≤v[n+1]'(by omega)) (hlt:val U<val v*4294967296) :
    ∃ U',Ag U'∧U'.length=n+3∧val U'=val U%val v∧∀ K:Int→LA→Option R,Ls N P.length (n+3) (Ad v) (n+2) f g (Ad (P++(U++Q))) K=K ((val U/val v:Nat):Int) (Ad (P++(U'++Q))):=by
  have b1:=Ay hv (show n+1<v.length by omega)
  have b2:=Ay hv (show n<v.length by omega)
  have b3:=Ay hU (show n<U.length by omega)
  have b4:=Ay hU (show n+1<U.length by omega)
  have b5:=Ay hU (show n+2<U.length by omega)
  have hP:0<4294967296 ^ n:=Nat.pow_pos (by omega)
  have vv:val v=val (v.take n)+4294967296 ^ n*(v[n+1]'(by omega)*4294967296+v[n]'(by omega)):=by
    have h1:=At (l:=v) (c:=n+1) (by omega)
    have h2:=At (l:=v) (c:=n) (by omega)
    rw [List.take_of_length_le (by omega)] at h1
    rw [h1,h2,Nat.pow_succ,Nat.mul_add,Nat.mul_assoc,Nat.mul_comm 4294967296 v[n+1]];omega
  have uu:val U=val (U.take n)+4294967296 ^ n*((U[n+2]'(by omega)*4294967296+U[n+1]'(by omega))*4294967296+U[n]'(by omega)):=by
    have h0:=At (l:=U) (c:=n+2) (by omega)
    have h1:=At (l:=U) (c:=n+1) (by omega)
    have h2:=At (l:=U) (c:=n) (by omega)
    rw [List.take_of_length_le (by omega)] at h0
    have x1:4294967296 ^ (n+2)*U[n+2]=4294967296 ^ n*(U[n+2]*4294967296*4294967296):=by rw [Nat.pow_succ (n:=4294967296) (m:=n+1),Nat.pow_succ,pw1,pw1]
    have x2:4294967296 ^ (n+1)*U[n+1]=4294967296 ^ n*(U[n+1]*4294967296):=by rw [Nat.pow_succ,pw1]
    rw [h0,h1,h2,x1,x2,Nat.add_mul,Nat.mul_add,Nat.mul_add];omega
  have tv:=A7 (Bw hv n)
  have tu:=A7 (Bw hU n)
  rw [List.length_take,Nat.min_eq_left (by omega)] at tv tu
  generalize e1:v[n+1]'(by omega)=v1 at *
  generalize e2:v[n]'(by omega)=v2 at *
  generalize e3:U[n]'(by omega)=u2 at *
  generalize e4:U[n+1]'(by omega)=u1 at *
  generalize e5:U[n+2]'(by omega)=u0 at *
  have hv0:0<val v:=by
    have:0<4294967296 ^ n*(v1*4294967296+v2):=Nat.mul_pos hP (by omega)
    omega
  have hV:(v1*4294967296+v2)*4294967296 ^ n≤val v:=by rw [Nat.mul_comm];omega
  have hV':val v<(v1*4294967296+v2+1)*4294967296 ^ n:=by rw [Nat.mul_comm,Nat.mul_add];omega
  have hUU:((u0*4294967296+u1)*4294967296+u2)*4294967296 ^ n≤val U:=by rw [Nat.mul_comm];omega
  have hUU':val U<((u0*4294967296+u1)*4294967296+u2+1)*4294967296 ^ n:=by rw [Nat.mul_comm,Nat.mul_add];omega
  have hq:val U/val v<4294967296:=Nat.div_lt_of_lt_mul hlt
  have htop:u0*4294967296+u1<v1*4294967296+4294967296:=by
    have h1:((u0*4294967296+u1)*4294967296+u2)*4294967296 ^ n<(v1*4294967296+v2+1)*4294967296 ^ n*4294967296:=by
      have:=(Nat.mul_lt_mul_right (show 0<4294967296 by omega)).2 hV'
      omega
    rw [Nat.mul_right_comm] at h1
    exact Bv0 b2 (Nat.lt_of_mul_lt_mul_right h1)
  obtain ⟨top,htp⟩:∃ top,u0*4294967296+u1=top:=⟨_,rfl⟩
  rw [htp] at hUU hUU' htop
  have hdm:=Nat.div_add_mod top v1
  have hmod:=Nat.mod_lt top (show 0<v1 by omega)
  have hq0:val U/val v≤top/v1:=by
    have h1:val U/val v<top/v1+1:=by
      apply Bju hV hUU' _ hv0
      have h2:top<v1*(top/v1+1):=by rw [Nat.mul_add];omega
      have h3:(top+1)*4294967296≤v1*(top/v1+1)*4294967296:=Nat.mul_le_mul_right _ h2
      rw [Nat.mul_add,← Nat.mul_assoc,Nat.mul_comm _ v1]
      omega
    omega
  have key:∀ K:Int→LA→Option R,∃ D,D<4294967296∧val U/val v≤D∧D≤val U/val v+1∧Ls N P.length (n+3) (Ad v) (n+2) f g (Ad (P++(U++Q))) K=Di N K P.length (n+3) (Ad v) (n+2) f g ((n+2:Nat):Int) (Ad (P++(U++Q))) (D:Int):=by
    intro K
    obtain ⟨D,d1,d2,d3,d4⟩:=Btx (R:=R) (N:=N) (P:=P) (Q:=Q) (f:=f) (g:=g) (K:=K) hn hv hU hUl (by omega) e1 e2 e3 hv1 htop hV hV' hUU hUU' hq 2 N (top/v1) (top%v1) (by omega) (by omega) (by omega) (by rw [Nat.mul_comm];exact hdm) hq0
    refine ⟨D,d1,d2,d3,?_⟩
    rw [← d4,Agr];unfold Afe Afd
    have wi1:IntKind.wrap .i64 (((n+2:Nat):Int) - 1)=((n+1:Nat):Int):=by rw [i64 (by omega)];omega
    rw [Ah (by omega),ct,Bwv (show n+2<U.length by omega),wi1,Ah (by omega),ct,rdw (show n+1<U.length by omega),Ah (by omega),ct,rdl (show n+1<v.length by omega),e1,e4,e5,w64 (show v1<18446744073709551616 by omega),i0F (by omega),cf,ct,rdl (show n+1<v.length by omega),e1,w64 (show v1<18446744073709551616 by omega),i0F (by omega),cf,w64 (show u0<18446744073709551616 by omega),w64 (show u1<18446744073709551616 by omega),orw b5 b4,htp,Av9,Ar4,w64 (show top/v1<18446744073709551616 from Nat.lt_of_le_of_lt (Nat.div_le_self _ _) (by omega))]
  have fin:∀ D,D<4294967296→val U/val v≤D→D≤val U/val v+1→∃ U',Ag U'∧U'.length=n+3∧val U'=val U%val v∧∀ K:Int→LA→Option R,Di N K P.length (n+3) (Ad v) (n+2) f g ((n+2:Nat):Int) (Ad (P++(U++Q))) (D:Int)=K ((val U/val v:Nat):Int) (Ad (P++(U'++Q))):=by
    intro D d1 d2 d3
    obtain ⟨X',q1,q2,q3,q4⟩:=Btw (R:=R) (N:=N) (P:=P) (Q:=Q) (U:=U) (v:=v) (n:=n+2) (D:=D) (f:=f) (g:=g) hv hn hU hUl (by omega) (by omega) d1 hv0 d2 d3 (n+2) 0 N U 0 (by omega) (by omega) hU hUl (fun _ _ _ _=>rfl) (by omega) (by simp [val])
    exact ⟨X',q1,q2,q3,fun K=>by unfold Di Sb;exact q4 K⟩
  by_cases hz:val U/val v+1<4294967296
  · obtain ⟨U1,a1,a2,a3,a4⟩:=fin (val U/val v) hq (Nat.le_refl _) (by omega)
    obtain ⟨U2,c1,c2,c3,c4⟩:=fin (val U/val v+1) hz (by omega) (Nat.le_refl _)
    have:U1=U2:=by
      have h1:=(Bc a1).1;have h2:=(Bc c1).1
      rw [a3] at h1;rw [c3] at h2;rw [h1,h2,a2,c2]
    subst this
    refine ⟨U1,a1,a2,a3,fun K=>?_⟩
    obtain ⟨D,d1,d2,d3,d4⟩:=key K
    have:D=val U/val v∨D=val U/val v+1:=by
      generalize val U/val v=q at *;omega
    rcases this with rfl | rfl
    · rw [d4,a4 K]
    · rw [d4,c4 K]
  · obtain ⟨U1,a1,a2,a3,a4⟩:=fin (val U/val v) hq (Nat.le_refl _) (by omega)
    refine ⟨U1,a1,a2,a3,fun K=>?_⟩
    obtain ⟨D,d1,d2,d3,d4⟩:=key K
    have:D=val U/val v:=by
      generalize val U/val v=q at *;omega
    subst this
    rw [d4,a4 K]
end
end Gx

namespace Gx
open Go Go.Proofs
section
variable {R:Type}
theorem Ar5 {l:List Nat} {d:Nat} (h:d<l.length):val (l.drop d)=l[d]+4294967296*val (l.drop (d+1)):=by
  rw [List.drop_eq_getElem_cons h,val]
theorem Bog {S:List Nat} {d v:Nat} (h:d<S.length):(S.set d v).drop d=v::S.drop (d+1):=by
  rw [List.drop_eq_getElem_cons (by simpa using h),List.getElem_set_self,List.drop_set_of_lt (by omega)]
theorem A9y {N:Nat} {a:List Nat} {t o:Bool} {b:Nat} (ha:Ag a) (hb0:0<b) (hb:b<4294967296) (hf:fit a.length N):∀ (c fuel:Nat) (S:List Nat) (r:Nat),c<fuel→c≤a.length→Ag S→S.length=a.length→r<b→val (S.drop c)*b+r=val (a.drop c) →
    ∃ S' S2,Ag S'∧val S'=val a/b∧Ag S2∧val S2=val a%b∧∀ K:Nat→Nat→LA→LA→Option R,Dp N K (Ad a) a.length t o (b:Int) fuel (r:Int) ((c:Int) - 1) (Ad S)=K (dig (val a/b)).length (dig (val a%b)).length (Ad S') (Ad S2)
  | 0,fuel+1,S,r,_,_,hS,hl,hr,hv=>by
    have h1:=hf.1
    rw [List.drop_zero,List.drop_zero] at hv
    have hq:val a/b=val S:=by
      rw [← hv,Nat.mul_comm,Nat.mul_add_div hb0,Nat.div_eq_of_lt hr,Nat.add_zero]
    have hm:val a%b=r:=by rw [← hv,Nat.mul_comm,Nat.mul_add_mod,Nat.mod_eq_of_lt hr]
    obtain ⟨S2,s1,s2,s3⟩:=Iw (R:=R) (N:=N) (v:=r) (by omega) (by omega)
    refine ⟨S,S2,hS,hq.symm,s1,by rw [hm,s2],fun K=>?_⟩
    rw [Dp];unfold Gu
    rw [show decide ((((0:Nat):Int) - 1)≥0)=false by simp,cf,Ahj hl.symm hS (by rw [hl];exact hf),s3,hq,hm]
  | c+1,fuel+1,S,r,hfu,hc,hS,hl,hr,hv=>by
    have h1:=hf.1;have h2:=hf.2
    have hca:c<a.length:=by omega
    have ac:=Ay ha hca
    have hrB:r<4294967296:=by omega
    have hw:r*4294967296+a[c]<b*4294967296:=by
      have:(r+1)*4294967296≤b*4294967296:=Nat.mul_le_mul_right _ hr
      rw [Nat.add_mul] at this;omega
    have hw2:r*4294967296+a[c]<18446744073709551616:=by omega
    obtain ⟨w,hwd⟩:∃ w,r*4294967296+a[c]=w:=⟨_,rfl⟩
    rw [hwd] at hw hw2
    have hqB:w/b<4294967296:=Nat.div_lt_of_lt_mul hw
    have hdm:=Nat.div_add_mod w b
    obtain ⟨S',S2,q1,q2,q3,q4,q5⟩:=A9y (t:=t) (o:=o) ha hb0 hb hf c fuel (S.set c (w/b)) (w%b) (by omega) (by omega) (B4 hS hqB c) (by simpa using hl) (Nat.mod_lt _ hb0) (by
      rw [Bog (by omega),val,Ar5 hca,Nat.add_mul,Nat.mul_assoc,← hv,Nat.mul_add,Nat.mul_comm (w/b)]
      omega)
    refine ⟨S',S2,q1,q2,q3,q4,fun K=>?_⟩
    rw [Dp];unfold Gu
    rw [show (((c+1:Nat):Int) - 1)=(c:Int) by omega,show decide ((c:Int)≥0)=true by simp,ct,Ah hca,ct,rdl hca,w64 (show b<18446744073709551616 by omega),i0F (by omega),cf,ct,st1 (by omega),ct,cf,w64 (show a[c]<18446744073709551616 by omega),orw hrB ac,hwd,Av9,Ar4,w64 (show w/b<18446744073709551616 by omega),w32 hqB,Ar1,i64 (by omega)]
    exact q5 K
theorem Boh {N:Nat} {a:List Nat} {n:Nat} {t o:Bool} {b:Nat} (hn:n=a.length) (ha:Ag a) (hb0:0<b) (hb:b<4294967296) (hf:fit a.length N) :
    ∃ S' S2,Ag S'∧val S'=val a/b∧Ag S2∧val S2=val a%b∧∀ K:Nat→Nat→LA→LA→Option R,Fz N (Ad a) n t o (b:Int) K=K (dig (val a/b)).length (dig (val a%b)).length (Ad S') (Ad S2):=by
  subst hn
  have h1:=hf.1;have h2:=hf.2
  obtain ⟨S',S2,q1,q2,q3,q4,q5⟩:=A9y (R:=R) (t:=t) (o:=o) ha hb0 hb hf a.length N (List.replicate a.length 0) 0 (by omega) (Nat.le_refl _) (B0 _) (by simp) hb0 (by rw [List.drop_eq_nil_of_le (by simp),List.drop_eq_nil_of_le (by simp)];simp [val])
  refine ⟨S',S2,q1,q2,q3,q4,fun K=>?_⟩
  rw [Wk];unfold R9 R8
  rw [mk4 (by omega),ct,i64 (by omega),Cf]
  exact q5 K
theorem Bty {x V s:Nat} (hx:x<4294967296) (hs:s≤31):(x+4294967296*V)/2 ^ s=(x+4294967296*(V%4294967296))/2 ^ s%4294967296+4294967296*(V/2 ^ s):=by
  have hp:0<2 ^ s:=Nat.pow_pos (by omega)
  have hd:2 ^ s∣4294967296:=⟨2 ^ (32 - s),by rw [← Nat.pow_add,show s+(32 - s)=32 by omega]⟩
  have key:∀ W,(x+4294967296*W)/2 ^ s=(x+4294967296*(W%2 ^ s))/2 ^ s+4294967296*(W/2 ^ s):=by
    intro W
    have e:x+4294967296*W=x+4294967296*(W%2 ^ s)+2 ^ s*(4294967296*(W/2 ^ s)):=by
      have h:=Nat.div_add_mod W (2 ^ s)
      have:4294967296*W=4294967296*(2 ^ s*(W/2 ^ s)+W%2 ^ s):=by rw [h]
      rw [this,Nat.mul_add,Nat.mul_left_comm];omega
    rw [e,Nat.add_mul_div_left _ _ hp]
  have hlt:(x+4294967296*(V%2 ^ s))/2 ^ s<4294967296:=by
    rw [Nat.div_lt_iff_lt_mul hp]
    have:V%2 ^ s+1≤2 ^ s:=Nat.mod_lt _ hp
    have:=Nat.mul_le_mul_left 4294967296 this
    rw [Nat.mul_add] at this
    omega
  rw [key V,key (V%4294967296),Nat.mod_mod_of_dvd _ hd,Nat.add_mul_mod_self_left,Nat.mod_eq_of_lt hlt]
theorem Buu:∀ {l:List Nat},Ag l→val l%4294967296=l.getD 0 0
  | [],_=>rfl
  | x::r,h=>by
    have:=(Cp.1 h).1
    simp [val];omega
theorem Boi {N:Nat} {a:List Nat} {o:Bool} {s:Nat} (ha:Ag a) (hs:s≤31) (hf:fit a.length N):∀ (m d fuel:Nat) (S:List Nat),d+m=a.length→m<fuel→Ag S→S.length=a.length→zer S d→val S+4294967296 ^ d*(val (a.drop d)/2 ^ s)=val a/2 ^ s →
    ∃ S',Ag S'∧val S'=val a/2 ^ s∧∀ K:Nat→Bool→LA→Option R,C0 N K o fuel (Ad a) a.length (s:Int) a.length (Ad a) a.length (a.length:Int) (d:Int) (Ad S)=K (dig (val a/2 ^ s)).length true (Ad S')
  | 0,d,fuel+1,S,hd,_,hS,hl,hz,hv=>by
    have hd':d=a.length:=by omega
    subst hd'
    rw [List.drop_length] at hv
    simp [val] at hv
    refine ⟨S,hS,hv,fun K=>?_⟩
    rw [C0];unfold Ga
    rw [ltF (Nat.le_refl _),cf,Ahj hl.symm hS (by rw [hl];exact hf),hv]
  | m+1,d,fuel+1,S,hd,hfu,hS,hl,hz,hv=>by
    have h1:=hf.1;have h2:=hf.2
    have hda:d<a.length:=by omega
    have ad:=Ay ha hda
    have step:=Bty (V:=val (a.drop (d+1))) ad hs
    rw [Buu (Al3 ha _),← Ar5 hda] at step
    have hg:(a.drop (d+1)).getD 0 0=a.getD (d+1) 0:=by simp [List.getD_eq_getElem?_getD,List.getElem?_drop]
    rw [hg] at step
    have go:∀ w,(a[d]+4294967296*a.getD (d+1) 0)/2 ^ s=w→∃ S',Ag S'∧val S'=val a/2 ^ s∧∀ K:Nat→Bool→LA→Option R,C0 N K o fuel (Ad a) a.length (s:Int) a.length (Ad a) a.length (a.length:Int) ((d+1:Nat):Int) (Ad (S.set d (w%4294967296)))=K (dig (val a/2 ^ s)).length true (Ad S'):=by
      intro w hw
      refine Boi (o:=o) ha hs hf m (d+1) fuel (S.set d (w%4294967296)) (by omega) (by omega) (B4 hS (by omega) d) (by simpa using hl) (Aef hz) ?_
      rw [Uw hz (by omega),← hv,step,hw,Nat.pow_succ,Nat.mul_add,Nat.mul_assoc];omega
    by_cases hn:d+1<a.length
    · have an:=Ay ha hn
      have hg2:a.getD (d+1) 0=a[d+1]:=by rw [List.getD_eq_getElem?_getD,List.getElem?_eq_getElem hn];rfl
      rw [hg2] at go
      obtain ⟨S',q1,q2,q3⟩:=go _ rfl
      refine ⟨S',q1,q2,fun K=>?_⟩
      rw [C0];unfold Ga
      have e:Of .u64 ((a[d]:Nat):Int) (IntKind.wrap .u64 (((a[d+1]:Nat):Int)*2 ^ 32))=((a[d]+4294967296*a[d+1]:Nat):Int):=by
        rw [show (2:Int) ^ 32=((2 ^ 32:Nat):Int) by rfl,Bga,w64 (by omega),Bp9 (by omega) (by omega),Nat.or_comm,A6n (by omega)]
        congr 1;omega
      rw [ltT hda,ct,Ah hda,ct,rdl hda,wS (by omega),ltT hn,ct,Ah hn,ct,rdl hn,show decide (((s:Nat):Int)<0)=false by simp,cf,ct,st1 (by omega),ct,w64 (show a[d]<18446744073709551616 by omega),w64 (show a[d+1]<18446744073709551616 by omega),e,Int.toNat_natCast s,Nat.min_eq_left (by omega),Q6,Azr,Ar1]
      exact q3 K
    · have hg2:a.getD (d+1) 0=0:=by rw [List.getD_eq_getElem?_getD,List.getElem?_eq_none (by omega)];rfl
      rw [hg2,Nat.mul_zero,Nat.add_zero] at go
      obtain ⟨S',q1,q2,q3⟩:=go _ rfl
      refine ⟨S',q1,q2,fun K=>?_⟩
      rw [C0];unfold Ga
      rw [ltT hda,ct,Ah hda,ct,rdl hda,wS (by omega),ltF (by omega),cf,show decide (((s:Nat):Int)<0)=false by simp,cf,ct,st1 (by omega),ct,w64 (show a[d]<18446744073709551616 by omega),Int.toNat_natCast s,Nat.min_eq_left (by omega),Q6,Azr,Ar1]
      exact q3 K
theorem Btz {N:Nat} {a:List Nat} {n:Nat} {t o:Bool} {s:Nat} (hn:n=a.length) (ha:Ag a) (hs:s≤31) (hf:fit a.length N) :
    ∃ S',Ag S'∧val S'=val a/2 ^ s∧∀ K:Nat→Bool→LA→Option R,Mx N (Ad a) n t o (s:Int) K=K (dig (val a/2 ^ s)).length true (Ad S'):=by
  have h1:=hf.1;have h2:=hf.2
  have la:=(Bc ha).2
  have e0:IntKind.wrap .i64 (Int.tdiv ((s:Nat):Int) 32)=((0:Nat):Int):=by
    rw [show (32:Int)=((32:Nat):Int) by rfl,Av9,Nat.div_eq_of_lt (by omega)];decide
  have e1:Int.tmod ((s:Nat):Int) 32=(s:Int):=by rw [show (32:Int)=((32:Nat):Int) by rfl,Ar4,Nat.mod_eq_of_lt (by omega)]
  by_cases h0:val a=0
  · refine ⟨[],S8,by rw [h0];simp [val],fun K=>?_⟩
    rw [P0];unfold Pz Py
    rw [show decide (((s:Nat):Int)<0)=false by simp,cf,Bo hn ha hf,h0,e0,Nat.zero_div,C3];rfl
  · obtain ⟨S',q1,q2,q3⟩:=Boi (R:=R) (o:=o) (a:=dig (val a)) (Ab _) hs (hf.le la) (dig (val a)).length 0 N (List.replicate (dig (val a)).length 0) (by omega) (by omega) (B0 _) (by simp) (Jr _) (by rw [C9];simp)
    rw [Af] at q2
    refine ⟨S',q1,q2,fun K=>?_⟩
    rw [P0];unfold Pz Py
    have hne:(dig (val a)).length≠0:=fun h=>h0 (Bd.1 h)
    rw [show decide (((s:Nat):Int)<0)=false by simp,cf,Bo hn ha hf,e0,e1,show decide (((0:Nat):Int)≥(((dig (val a)).length:Nat):Int))=false by rw [decide_eq_false_iff_not];omega,cf]
    have c1:((decide ((0:Int)≤((0:Nat):Int)))&&((decide (((0:Nat):Int)≤(((dig (val a)).length:Nat):Int)))&&((decide ((((dig (val a)).length:Nat):Int)≤(((dig (val a)).length:Nat):Int)))&&(decide ((((dig (val a)).length:Nat):Int)≤(((dig (val a)).length:Nat):Int))))))=true:=by simp
    rw [c1,ct,Int.toNat_natCast,Nat.sub_zero,mk4 (by omega),ct,Nat.zero_mul,List.drop_zero,Nat.mul_one,S9,List.take_length,Cf]
    have:=q3 K
    rw [Af] at this
    exact this
end
end Gx

namespace Gx
open Go Go.Proofs
section
variable {R:Type}
theorem Al9 {S:List Nat} {k:Nat} (h:val S<4294967296 ^ k):val (S.take k)=val S:=by
  by_cases hk:k≤S.length
  · have h1:=Oc (S.take k) (S.drop k)
    rw [List.take_append_drop,List.length_take,Nat.min_eq_left hk] at h1
    rcases Nat.eq_zero_or_pos (val (S.drop k)) with h0 | h0
    · rw [h0] at h1;simpa using h1.symm
    · have:=Nat.le_mul_of_pos_right (4294967296 ^ k) h0
      omega
  · rw [List.take_of_length_le (by omega)]
theorem Ama {S:List Nat} {n:Nat} (hS:Ag S) (h:S.length=n+1):val S<(S[n]+1)*4294967296 ^ n:=by
  have h1:=Ahn h
  have h2:=A7 (Bw hS n)
  rw [List.length_take,Nat.min_eq_left (by omega)] at h2
  rw [Nat.add_mul,Nat.mul_comm S[n]];omega
theorem sl3 {a b c:Nat} (h1:a≤b) (h2:b≤c):((decide ((0:Int)≤(a:Int)))&&((decide ((a:Int)≤(b:Int)))&&((decide ((b:Int)≤(c:Int)))&&(decide ((c:Int)≤(c:Int))))))=true:=by simp;omega
theorem Bj1 {N:Nat} {v u0 Sv:List Nat} {n D s:Nat} (hn:v.length=n+2) (hv:Ag v) (hv1:2147483648≤v[n+1]'(by omega)) (hSv:List.take ((n+2)*1) (Ad Sv)=Ad v) (hu:Ag u0) (hul:u0.length=D+(n+2)) (hs:s≤31) (hf:fit (D+n+4) N) :
    ∀ (j fuel c:Nat) (W q:List Nat),j<fuel→c+j=D→Ag W→W.length=u0.length→Ag q→q.length=D→W.take j=u0.take j→val (W.drop j)<val v→val (q.drop j)*val v+val (W.drop j)=val (u0.drop j) →
    ∃ Sq Sr,Ag Sq∧val Sq=val u0/val v∧Ag Sr∧val Sr=val u0%val v/2 ^ s∧∀ K:Nat→Nat→LA→LA→Option R,Dr N K (s:Int) (n+2) u0.length (Ad Sv) fuel D ((n+2:Nat):Int) (D:Int) (D:Int) (c:Int) (Ad q) (Ad W)=K (dig (val u0/val v)).length (dig (val u0%val v/2 ^ s)).length (Ad Sq) (Ad Sr)
  | 0,fuel+1,c,W,q,_,hc,hW,hWl,hq,hql,htk,hr,hval=>by
    have h1:=hf.1;have h2:=hf.2
    simp only [List.drop_zero] at hval hr
    have hv0:0<val v:=by omega
    have vlt:=A7 hv
    rw [hn] at vlt
    have hq2:val u0/val v=val q:=by rw [← hval,Nat.mul_comm,Nat.mul_add_div hv0,Nat.div_eq_of_lt hr,Nat.add_zero]
    have hm:val u0%val v=val W:=by rw [← hval,Nat.mul_comm,Nat.mul_add_mod,Nat.mod_eq_of_lt hr]
    have ht:val (W.take (n+2))=val W:=Al9 (by omega)
    have htl:(W.take (n+2)).length=n+2:=by rw [List.length_take];omega
    obtain ⟨S',q1,q3,q4⟩:=Btz (R:=R) (N:=N) (a:=W.take (n+2)) (n:=n+2) (t:=false) (o:=true) (s:=s) htl.symm (Bw hW _) hs (hf.le (by rw [htl];omega))
    rw [ht,← hm] at q3 q4
    refine ⟨q,S',hq,hq2.symm,q1,q3,fun K=>?_⟩
    have hcD:c=D:=by omega
    subst hcD
    rw [Dr];unfold J7
    rw [ltF (Nat.le_refl _),cf,sl0 (by omega),ct,Int.toNat_natCast,Nat.mul_one,S9,q4,Ahj hql.symm hq (by rw [hql];exact hf.le (by omega)),← hq2]
  | j+1,fuel+1,c,W,q,hfu,hc,hW,hWl,hq,hql,htk,hr,hval=>by
    have h1:=hf.1;have h2:=hf.2
    have vlt:=A7 hv
    rw [hn] at vlt
    have hjW:j<W.length:=by omega
    have hju:j<u0.length:=by omega
    have hjq:j<q.length:=by omega
    have hWj:W[j]=u0[j]:=by
      have:=congrArg (fun l=>l[j]?) htk
      simp only [List.getElem?_take_of_lt (show j<j+1 by omega),List.getElem?_eq_getElem hjW,List.getElem?_eq_getElem hju] at this
      exact Option.some.inj this
    have wj:=Ay hW hjW
    have eW:=Ar5 hjW
    have eu:=Ar5 hju
    have hUl:((W.drop j).take (n+3)).length=n+3:=by rw [List.length_take,List.length_drop];omega
    have hbound:val (W.drop j)<val v*4294967296:=by rw [eW];omega
    have hB:val (W.drop j)<4294967296 ^ (n+3):=by
      have:=(Nat.mul_lt_mul_right (show 0<4294967296 by omega)).2 vlt
      rw [← Nat.pow_succ] at this;exact Nat.lt_trans hbound this
    have hU:val ((W.drop j).take (n+3))=val (W.drop j):=Al9 hB
    have hsplit:W=W.take j++((W.drop j).take (n+3)++(W.drop j).drop (n+3)):=by rw [List.take_append_drop,List.take_append_drop]
    have hPl:(W.take j).length=j:=by rw [List.length_take];omega
    obtain ⟨U',u1,u2,u3,u4⟩:=Bgo (R:=R) (N:=N) (P:=W.take j) (Q:=(W.drop j).drop (n+3)) (U:=(W.drop j).take (n+3)) (v:=v) (n:=n) (f:=false) (g:=true) hn hv (Bw (Al3 hW _) _) hUl (by omega) (by omega) hv1 (by rw [hU];exact hbound)
    rw [hU] at u3 u4
    have hQ0:val ((W.drop j).drop (n+3))=0:=by
      have:=Oc ((W.drop j).take (n+3)) ((W.drop j).drop (n+3))
      rw [List.take_append_drop,hU,hUl] at this
      have hp:0<4294967296 ^ (n+3):=Nat.pow_pos (by omega)
      rcases Nat.eq_zero_or_pos (val ((W.drop j).drop (n+3))) with h | h
      · exact h
      · have:=Nat.le_mul_of_pos_right (4294967296 ^ (n+3)) h;omega
    have hv0:0<val v:=by omega
    have hqd:val (W.drop j)/val v<4294967296:=Nat.div_lt_of_lt_mul hbound
    have hdm:=Nat.div_add_mod (val (W.drop j)) (val v)
    have hmd:=Nat.mod_lt (val (W.drop j)) hv0
    have hW':Ag (W.take j++(U'++(W.drop j).drop (n+3))):=A27.2 ⟨Bw hW _,A27.2 ⟨u1,Al3 (Al3 hW _) _⟩⟩
    have hWl':(W.take j++(U'++(W.drop j).drop (n+3))).length=u0.length:=by
      rw [List.length_append,List.length_append,hPl,u2,List.length_drop,List.length_drop];omega
    have hWd:(W.take j++(U'++(W.drop j).drop (n+3))).drop j=U'++(W.drop j).drop (n+3):=by
      rw [List.drop_append,hPl,Nat.sub_self,List.drop_zero,List.drop_eq_nil_of_le (by omega),List.nil_append]
    have hWt:(W.take j++(U'++(W.drop j).drop (n+3))).take j=u0.take j:=by
      rw [List.take_append,hPl,Nat.sub_self,List.take_zero,List.append_nil,List.take_take,Nat.min_self]
      have:=congrArg (List.take j) htk
      rwa [List.take_take,List.take_take,Nat.min_eq_left (by omega)] at this
    have hWv:val (U'++(W.drop j).drop (n+3))=val (W.drop j)%val v:=by rw [Oc,hQ0,u3];simp
    obtain ⟨Sq,Sr,a1,a2,a3,a4,a5⟩:=Bj1 (N:=N) hn hv hv1 hSv hu hul hs hf j fuel (c+1) (W.take j++(U'++(W.drop j).drop (n+3))) (q.set j (val (W.drop j)/val v)) (by omega) (by omega) hW' hWl' (B4 hq hqd j) (by simpa using hql) hWt (by rw [hWd,hWv];exact hmd) (by
      rw [hWd,hWv,Bog hjq,val,eu,← hval,← hWj,Nat.add_mul,Nat.mul_assoc,Nat.mul_add,Nat.mul_comm (val (W.drop j)/val v)]
      omega)
    refine ⟨Sq,Sr,a1,a2,a3,a4,fun K=>?_⟩
    have w0:IntKind.wrap .i64 (IntKind.wrap .i64 (((D:Nat):Int) - 1) - (c:Int))=(j:Int):=by
      rw [i64 (a:=((D:Nat):Int) - 1) (by omega),i64 (by omega)];omega
    have w1:IntKind.wrap .i64 (IntKind.wrap .i64 ((j:Int)+((n+2:Nat):Int))+1)=((j+(n+3):Nat):Int):=by
      rw [i64 (a:=(j:Int)+((n+2:Nat):Int)) (by omega),i64 (by omega)];omega
    have:=u4 fun z aa=>cond (Aj (j:Int) D) (cond ((Nat.beq 1 1)&&((Nat.ble ((0+((Int.toNat (j:Int))*1))+1) (List.length (Ad q)))&&(!false))) (Dr N K (s:Int) (n+2) u0.length (Ad Sv) fuel D ((n+2:Nat):Int) (D:Int) (D:Int) (IntKind.wrap .i64 ((c:Int)+1)) (List.set (Ad q) (0+((Int.toNat (j:Int))*1)) (.int .u32 z)) aa) none) none
    rw [← hsplit,hPl] at this
    rw [Dr];unfold J7
    rw [ltT (by omega),ct,w0,w1,sl3 (by omega) (by omega),ct,hSv,Int.toNat_natCast,Int.toNat_natCast,Nat.mul_one,Nat.zero_add,show j+(n+3) - j=n+3 by omega]
    rw [Int.toNat_natCast,Nat.mul_one,Nat.zero_add] at this
    rw [this,Ah (by omega),ct,show ((Nat.beq 1 1)&&((Nat.ble (j+1) (List.length (Ad q)))&&(!false)))=true by (rw [Bf];simp;omega),ct,A28,wS (by omega)]
    exact a5 K
theorem Bsj {N:Nat} {a b:List Nat} {n m:Nat} {t o t' o':Bool} (hn:n=a.length) (hm:m=b.length) (ha:Ag a) (hb:Ag b) (hb2:2≤b.length) (hlen:b.length≤a.length) (hbl:b.getLast (by intro h;rw [h] at hb2;simp at hb2)≠0) (hf:fit (a.length+b.length+4) N) :
    ∃ Sq Sr,Ag Sq∧val Sq=val a/val b∧Ag Sr∧val Sr=val a%val b∧∀ K:Nat→Nat→LA→LA→Option R,Jl N (Ad a) n t o (Ad b) m t' o' K=K (dig (val a/val b)).length (dig (val a%val b)).length (Ad Sq) (Ad Sr):=by
  subst hn hm
  have h1:=hf.1;have h2:=hf.2
  obtain ⟨k,hk⟩:∃ k,b.length=k+2:=⟨b.length - 2,by omega⟩
  have hbl2:b[k+1]'(by omega)≠0:=by
    rw [List.getLast_eq_getElem] at hbl
    simp only [hk] at hbl
    exact hbl
  have bk:=Ay hb (show k+1<b.length by omega)
  obtain ⟨s,s1,s2,s3,s4⟩:=Bre (R:=R) (N:=N) (c:=b[k+1]'(by omega)) (by omega) bk
  obtain ⟨Sv,v1,v2,v3,v4⟩:=A3g (R:=R) (N:=N) (a:=b) (t:=false) (o:=o') (s:=s) rfl hb s1 (hf.le (by omega))
  obtain ⟨Su,p1,p2,p3,p4⟩:=A3g (R:=R) (N:=N) (a:=a) (t:=false) (o:=o) (s:=s) rfl ha s1 (hf.le (by omega))
  have hp:0<2 ^ s:=Nat.pow_pos (by omega)
  have hP:0<4294967296 ^ (k+1):=Nat.pow_pos (by omega)
  have bt:=Ama hb hk
  have bf:=Ahn hk
  have hVlt:val b*2 ^ s<4294967296 ^ (k+2):=by
    have x1:val b*2 ^ s<(b[k+1]+1)*4294967296 ^ (k+1)*2 ^ s:=(Nat.mul_lt_mul_right hp).2 bt
    have hd:2 ^ s∣4294967296:=⟨2 ^ (32 - s),by rw [← Nat.pow_add,show s+(32 - s)=32 by omega]⟩
    have x2:(b[k+1]+1)*2 ^ s≤4294967296:=by
      obtain ⟨r,hr⟩:=hd
      have x3:b[k+1]<r:=by
        rw [hr,Nat.mul_comm] at s3
        exact Nat.lt_of_mul_lt_mul_left s3
      have x4:(b[k+1]+1)*2 ^ s≤r*2 ^ s:=Nat.mul_le_mul_right _ x3
      have x5:r*2 ^ s=4294967296:=by rw [Nat.mul_comm];exact hr.symm
      omega
    have x6:=Nat.mul_le_mul_right (4294967296 ^ (k+1)) x2
    rw [Nat.mul_right_comm] at x1
    rw [Nat.pow_succ,Nat.mul_comm _ 4294967296]
    exact Nat.lt_of_lt_of_le x1 x6
  have hvl:(Sv.take (k+2)).length=k+2:=by rw [List.length_take];omega
  have hvv:val (Sv.take (k+2))=val b*2 ^ s:=by rw [Al9 (by rw [v3];exact hVlt),v3]
  have hvlow:2147483648*4294967296 ^ (k+1)≤val b*2 ^ s:=by
    have x1:4294967296 ^ (k+1)*b[k+1]≤val b:=by omega
    have x2:=Nat.mul_le_mul_right (2 ^ s) x1
    rw [Nat.mul_assoc,Nat.mul_comm (4294967296 ^ (k+1))] at x2
    have x3:=Nat.mul_le_mul_right (4294967296 ^ (k+1)) s2
    omega
  have hvtop:2147483648≤(Sv.take (k+2))[k+1]'(by omega):=by
    have x1:=Ama (Bw v1 (k+2)) hvl
    rw [hvv] at x1
    have x2:=Nat.lt_of_mul_lt_mul_right (Nat.lt_of_le_of_lt hvlow x1)
    omega
  have hDl:Su.length=(a.length+1 - (k+2))+(k+2):=by omega
  have hinit:val (Su.drop (a.length+1 - (k+2)))<val (Sv.take (k+2)):=by
    have x1:=Oc (Su.take (a.length+1 - (k+2))) (Su.drop (a.length+1 - (k+2)))
    rw [List.take_append_drop,p3,List.length_take,Nat.min_eq_left (by omega)] at x1
    have x2:=A7 ha
    have x3:val a*2 ^ s<4294967296 ^ a.length*2 ^ s:=(Nat.mul_lt_mul_right hp).2 x2
    have x4:a.length=(a.length+1 - (k+2))+(k+1):=by omega
    generalize hE:a.length+1 - (k+2)=E at *
    have x5:4294967296 ^ a.length=4294967296 ^ E*4294967296 ^ (k+1):=by rw [← Nat.pow_add];congr 1
    rw [x5,Nat.mul_assoc] at x3
    have x6:4294967296 ^ E*val (Su.drop E)<4294967296 ^ E*(4294967296 ^ (k+1)*2 ^ s):=by omega
    have x7:=Nat.lt_of_mul_lt_mul_left x6
    have x8:4294967296 ^ (k+1)*2 ^ s≤2147483648*4294967296 ^ (k+1):=by rw [Nat.mul_comm];exact Nat.mul_le_mul_right _ (Bmd s1)
    rw [hvv];omega
  obtain ⟨Sq,Sr,a1,a2,a3,a4,a5⟩:=Bj1 (R:=R) (N:=N) (v:=Sv.take (k+2)) (u0:=Su) (Sv:=Sv) (n:=k) (D:=a.length+1 - (k+2)) (s:=s) hvl (Bw v1 _) hvtop (by rw [Nat.mul_one,S9]) p1 hDl s1 (hf.le (by omega)) (a.length+1 - (k+2)) N 0 Su (List.replicate (a.length+1 - (k+2)) 0) (by omega) (by omega) p1 rfl (B0 _) (by simp) rfl hinit (by
    rw [List.drop_eq_nil_of_le (show (List.replicate (a.length+1 - (k+2)) 0).length≤a.length+1 - (k+2) by simp)];simp [val])
  have hq:val Su/val (Sv.take (k+2))=val a/val b:=by rw [p3,hvv,Nat.mul_div_mul_right _ _ hp]
  have hr:val Su%val (Sv.take (k+2))/2 ^ s=val a%val b:=by rw [p3,hvv,Nat.mul_mod_mul_right,Nat.mul_div_cancel _ hp]
  rw [hq] at a2;rw [hr] at a4
  refine ⟨Sq,Sr,a1,a2,a3,a4,fun K=>?_⟩
  rw [Ac0];unfold Aaz Aay
  have w1:IntKind.wrap .i64 (((b.length:Nat):Int) - 1)=((k+1:Nat):Int):=by rw [i64 (by omega)];omega
  have w2:IntKind.wrap .i64 (((a.length+1:Nat):Int) - ((b.length:Nat):Int))=((a.length+1 - (k+2):Nat):Int):=by rw [i64 (by omega)];omega
  rw [w1,Ah (by omega),ct,rdl (by omega),s4,v4,sl0 (by omega),ct,p4,w2,mk4 (by omega),ct,Int.toNat_natCast,Cf]
  have:=a5 K
  rw [hq,hr,p2] at this
  rw [hk]
  exact this
theorem Ar6 {N:Nat} {a b:List Nat} {n m:Nat} {t o t' o':Bool} (hn:n=a.length) (hm:m=b.length) (ha:Ag a) (hb:Ag b) (hb0:val b≠0) (hf:fit (a.length+b.length+4) N) :
    ∃ Sq Sr,Ag Sq∧val Sq=val a/val b∧Ag Sr∧val Sr=val a%val b∧∀ K:Nat→Nat→Bool→LA→LA→Option R,Ds N (Ad a) n t o (Ad b) m t' o' K=K (dig (val a/val b)).length (dig (val a%val b)).length true (Ad Sq) (Ad Sr):=by
  have h1:=hf.1;have h2:=hf.2
  have la:=(Bc ha).2
  have lb:=(Bc hb).2
  have hbl:(dig (val b)).length≠0:=fun h=>hb0 (Bd.1 h)
  have start:∀ K:Nat→Nat→Bool→LA→LA→Option R,Ds N (Ad a) n t o (Ad b) m t' o' K=cond (decide (Fu (val a) (val b)<0)) (Xt N (Ad (dig (val a))) (dig (val a)).length false o (fun s t=>(K 0 s true [] t))) (cond (decide ((((dig (val a)).length:Nat):Int)≤(2:Int))) (Pl N (Ad (dig (val a))) (dig (val a)).length false o (fun p=>(Pl N (Ad (dig (val b))) (dig (val b)).length false o' (fun o=>(cond (o==(0:Int)) none (Bj N (IntKind.wrap .u64 (Int.tdiv p o)) (fun u w=>(cond (o==(0:Int)) none (Bj N (Int.tmod p o) (fun x y=>(K u x true w y))))))))))) (cond ((((dig (val b)).length:Nat):Int)==(1:Int)) (cond (Aj (0:Int) (dig (val b)).length) (rdI .u32 (Ad (dig (val b))) fun z=>(Fz N (Ad (dig (val a))) (dig (val a)).length false o z (fun aa ab ac ad=>(K aa ab true ac ad)))) none) (Jl N (Ad (dig (val a))) (dig (val a)).length false o (Ad (dig (val b))) (dig (val b)).length false o' (fun ae af ag ah=>(K ae af true ag ah))))):=by
    intro K
    rw [Avp];unfold Ayd Ayc
    rw [Bo hn ha (hf.le (by omega)),Bo hm hb (hf.le (by omega)),i0F hbl,cf,Ow rfl rfl (Ab _) (Ab _) (hf.le (by omega)),Af,Af]
  by_cases hlt:val a<val b
  · refine ⟨[],dig (val a),S8,by rw [Nat.div_eq_of_lt hlt];rfl,Ab _,by rw [Nat.mod_eq_of_lt hlt,Af],fun K=>?_⟩
    rw [start,show decide (Fu (val a) (val b)<0)=true by (unfold Fu;rw [if_pos hlt];rfl),ct,At4 rfl (Ab _) (hf.le (by omega)),Af,Nat.div_eq_of_lt hlt,Nat.mod_eq_of_lt hlt,C3];rfl
  · have hcmp:decide (Fu (val a) (val b)<0)=false:=by unfold Fu;rw [if_neg hlt];split<;>rfl
    have hll:=Bk (Nat.le_of_not_lt hlt)
    by_cases ha2:(dig (val a)).length≤2
    · have av:=A3e ha2
      have bv:=A3e (Nat.le_trans hll ha2)
      have q64:val a/val b<18446744073709551616:=Nat.lt_of_le_of_lt (Nat.div_le_self _ _) av
      have r64:val a%val b<18446744073709551616:=Nat.lt_of_le_of_lt (Nat.mod_le _ _) av
      obtain ⟨Sq,a1,a2,a3⟩:=Iw (R:=R) (N:=N) q64 (by omega)
      obtain ⟨Sr,b1,b2,b3⟩:=Iw (R:=R) (N:=N) r64 (by omega)
      refine ⟨Sq,Sr,a1,a2,b1,b2,fun K=>?_⟩
      rw [start,hcmp,cf,show decide ((((dig (val a)).length:Nat):Int)≤2)=true by simp;omega,ct,Ahm rfl (Ab _) ha2 (by omega),Ahm rfl (Ab _) (by omega) (by omega),Af,Af,i0F hb0,cf,Av9,w64 q64,a3,cf,Ar4,b3]
    · have hd2:decide ((((dig (val a)).length:Nat):Int)≤2)=false:=by simp;omega
      by_cases hb1:(dig (val b)).length=1
      · obtain ⟨x, hx⟩ : ∃ x, dig (val b) = [x] := by
          match h:dig (val b),hb1 with
          | [x],_=>exact ⟨x,rfl⟩
        have hxv:x=val b:=by have:=Af (val b);rw [hx] at this;simpa [val] using this
        have xl:x<4294967296:=by have:=Ab (val b);rw [hx] at this;exact (Cp.1 this).1
        obtain ⟨Sq,Sr,a1,a2,a3,a4,a5⟩:=Boh (R:=R) (N:=N) (a:=dig (val a)) (t:=false) (o:=o) (b:=x) rfl (Ab _) (by omega) xl (hf.le (by omega))
        rw [Af,hxv] at a2 a4 a5
        refine ⟨Sq,Sr,a1,a2,a3,a4,fun K=>?_⟩
        rw [start,hcmp,cf,hd2,cf,hx]
        simp only [List.length_cons,List.length_nil,Y6,Be]
        rw [show ((((0+1:Nat)):Int)==1)=true by rfl,ct,show Aj 0 (0+1)=true by decide,ct,hxv,a5]
      · obtain ⟨Sq,Sr,a1,a2,a3,a4,a5⟩:=Bsj (R:=R) (N:=N) (a:=dig (val a)) (b:=dig (val b)) (t:=false) (o:=o) (t':=false) (o':=o') rfl rfl (Ab _) (Ab _) (by omega) hll (Bf9 _ _) (hf.le (by omega))
        rw [Af,Af] at a2 a4 a5
        refine ⟨Sq,Sr,a1,a2,a3,a4,fun K=>?_⟩
        rw [start,hcmp,cf,hd2,cf,show ((((dig (val b)).length:Nat):Int)==1)=false by rw [beq_eq_false_iff_ne];omega,cf,a5]
end
end Gx

namespace Gx
open Go Go.Proofs
section
variable {R:Type}
def Cof (A B u0 u1 v0 v1:Nat) (e:Bool):Prop:=v0=0∨(1≤u1∧1≤v1∧match e with
  | true=>v0*B≤u0*A∧u1*A≤v1*B∧(v0+v1)*B≤(u0+u1)*A∧u0*v1=v0*u1+1
  | false=>u0*A≤v0*B∧v1*B≤u1*A∧(u0+u1)*A≤(v0+v1)*B∧u1*v0=v1*u0+1)
structure Lead (X Y x y u1 u2 v1 v2:Nat) (e:Bool):Prop where
  le:y≤x
  idV:x*v2+y*v1=X
  idU:x*u2+y*u1=Y
  pos:1≤v2
  par:match e with
    | false=>x+v1*Y=u1*X∧y+u2*X=v2*Y∧u1*v2=v1*u2+1
    | true=>x+u1*X=v1*Y∧y+v2*Y=u2*X∧u2*v1=v2*u1+1
  small:(v1=0∧u1=1∧u2=0∧v2=1∧e=false)∨(1≤v1∧u1≤v1∧u2≤v2∧1≤u2)
theorem Lead.init {X Y:Nat} (h:Y≤X):Lead X Y X Y 1 0 0 1 false:=⟨h,by simp,by simp,by omega,by simp,.inl ⟨rfl,rfl,rfl,rfl,rfl⟩⟩
theorem Lead.step {X Y x y u1 u2 v1 v2:Nat} {e:Bool} (L:Lead X Y x y u1 u2 v1 v2 e) (hy:1≤y):Lead X Y y (x%y) u2 (u1+x/y*u2) v2 (v1+x/y*v2) (!e):=by
  have hdm:=Nat.div_add_mod x y
  have hmod:=Nat.mod_lt x (show 0<y by omega)
  have hq:1≤x/y:=by rw [Nat.le_div_iff_mul_le (by omega)];have:=L.le;omega
  generalize x/y=q at *
  generalize x%y=r at *
  have hv2:=L.pos
  refine ⟨by omega,?_,?_,?_,?_,?_⟩
  · rw [← L.idV,← hdm,Nat.mul_add,Nat.add_mul,Nat.mul_assoc];omega
  · rw [← L.idU,← hdm,Nat.mul_add,Nat.add_mul,Nat.mul_assoc];omega
  · have:=Nat.mul_le_mul hq hv2;omega
  · have p:=L.par
    cases e with
    | false =>
      obtain ⟨p1,p2,p3⟩:=p
      refine ⟨p2,?_,?_⟩
      · have e1:q*(y+u2*X)=q*(v2*Y):=by rw [p2]
        rw [Nat.mul_add,← Nat.mul_assoc,← Nat.mul_assoc] at e1
        rw [Nat.mul_comm y q] at hdm
        rw [Nat.add_mul,Nat.add_mul];omega
      · rw [Nat.add_mul,Nat.add_mul,Nat.mul_right_comm q u2,p3];omega
    | true =>
      obtain ⟨p1,p2,p3⟩:=p
      refine ⟨p2,?_,?_⟩
      · have e1:q*(y+v2*Y)=q*(u2*X):=by rw [p2]
        rw [Nat.mul_add,← Nat.mul_assoc,← Nat.mul_assoc] at e1
        rw [Nat.mul_comm y q] at hdm
        rw [Nat.add_mul,Nat.add_mul];omega
      · rw [Nat.mul_add,Nat.mul_add,p3,Nat.mul_left_comm u2 q,Nat.mul_left_comm v2 q,Nat.mul_comm u2 v2];omega
  · right
    rcases L.small with ⟨s1,s2,s3,s4,_⟩ | ⟨s1,s2,s3,s4⟩
    · subst s1 s2 s3 s4;exact ⟨by omega,by omega,by omega,by omega⟩
    · have h1:q*u2≤q*v2:=Nat.mul_le_mul_left _ s3
      exact ⟨hv2,s3,by omega,by have:=Nat.mul_le_mul hq s4;omega⟩
theorem Lead.cof {X Y x y u1 u2 v1 v2 A B P:Nat} {e:Bool} (L:Lead X Y x y u1 u2 v1 v2 e) (hA:X*P≤A) (hA':A<(X+1)*P) (hB:Y*P≤B) (hB':B<(Y+1)*P) (c1:v2≤y) (c2:v1+v2≤x - y):Cof A B u1 u2 v1 v2 (!e):=by
  have p:=L.par
  have hle:=L.le
  rcases L.small with ⟨s1,_⟩ | ⟨s1,s2,s3,s4⟩
  · exact .inl s1
  · refine .inr ⟨s4,L.pos,?_⟩
    cases e with
    | false =>
      obtain ⟨p1,p2,p3⟩:=p
      have n1:u2*A≤v2*B:=Aed hB hA' (w:=y) (by omega) (by omega)
      have n2:(v1+v2)*B≤(u1+u2)*A:=Aed hA hB' (w:=x - y) (by rw [Nat.add_mul,Nat.add_mul];omega) c2
      refine ⟨?_,n1,n2,p3⟩
      rw [Nat.add_mul,Nat.add_mul] at n2;omega
    | true =>
      obtain ⟨p1,p2,p3⟩:=p
      have n1:v2*B≤u2*A:=Aed hA hB' (w:=y) (by omega) (by omega)
      have n2:(u1+u2)*A≤(v1+v2)*B:=Aed hB hA' (w:=x - y) (by rw [Nat.add_mul,Nat.add_mul];omega) (by omega)
      refine ⟨?_,n1,n2,p3⟩
      rw [Nat.add_mul,Nat.add_mul] at n2;omega
theorem Ar7 {x y:Nat} (hy:1≤y) (h:y≤x):2*(y*(x%y))≤x*y:=by
  have h1:=Nat.div_add_mod x y
  have h2:=Nat.mod_lt x (show 0<y by omega)
  have hq:1≤x/y:=by rw [Nat.le_div_iff_mul_le (by omega)];omega
  have h3:y*1≤y*(x/y):=Nat.mul_le_mul_left _ hq
  have h4:2*(x%y)≤x:=by omega
  have:=Nat.mul_le_mul_left y h4
  rw [Nat.mul_comm x y,Nat.mul_left_comm];exact this
def Brh (u0 u1 v0 v1:Nat) (e:Bool):List AV:=[.int .u64 (u0:Int),.int .u64 (u1:Int),.int .u64 (v0:Int),.int .u64 (v1:Int),.bool e]
theorem Bsk {N:Nat} {X Y A B P:Nat} (hX:X<18446744073709551616) (hYX:Y≤X) (hA:X*P≤A) (hA':A<(X+1)*P) (hB:Y*P≤B) (hB':B<(Y+1)*P):∀ (k fuel x y u0 u1 u2 v0 v1 v2:Nat) (e:Bool),k<fuel→x*y<2 ^ k→Lead X Y x y u1 u2 v1 v2 e→Cof A B u0 u1 v0 v1 e→u0<18446744073709551616→u1<18446744073709551616→v0<18446744073709551616→v1<18446744073709551616 →
    ∃ (a1 a2 b1 b2:Nat) (e':Bool),Cof A B a1 a2 b1 b2 e'∧a1<18446744073709551616∧a2<18446744073709551616∧b1<18446744073709551616∧b2<18446744073709551616∧∀ K:LA→Option R,C8 N K fuel (x:Int) (y:Int) (u0:Int) (u1:Int) (u2:Int) (v0:Int) (v1:Int) (v2:Int) e=K (Brh a1 a2 b1 b2 e'):=by
  intro k
  induction k with
  | zero =>
    intro fuel x y u0 u1 u2 v0 v1 v2 e hf hxy L C b1 b2 b3 b4
    obtain ⟨fuel,rfl⟩:∃ F,fuel=F+1:=⟨fuel - 1,by omega⟩
    have hy:y=0:=by
      rcases Nat.eq_zero_or_pos y with h | h
      · exact h
      · have h3:=Nat.mul_le_mul_left x (show 1≤y by omega)
        have h4:=L.le
        rw [Nat.pow_zero] at hxy
        omega
    refine ⟨u0,u1,v0,v1,e,C,b1,b2,b3,b4,fun K=>?_⟩
    rw [C8];unfold Hk
    have:=L.pos
    rw [show decide ((y:Int)≥(v2:Int))=false by simp;omega];rfl
  | succ k ih =>
    intro fuel x y u0 u1 u2 v0 v1 v2 e hf hxy L C b1 b2 b3 b4
    obtain ⟨fuel,rfl⟩:∃ F,fuel=F+1:=⟨fuel - 1,by omega⟩
    have hv2:=L.pos
    have hle:=L.le
    by_cases c1:v2≤y
    · have hy:1≤y:=by omega
      have hxX:x≤X:=by
        have:=Nat.mul_le_mul_left x hv2
        have:=L.idV;omega
      have hsum:v1+v2≤X:=by
        have h1:=Nat.mul_le_mul_right v2 (show 1≤x by omega)
        have h2:=Nat.mul_le_mul_right v1 hy
        have:=L.idV;omega
      by_cases c2:v1+v2≤x - y
      · have L':=L.step hy
        have C':=L.cof hA hA' hB hB' c1 c2
        have i1:=L'.idV
        have i2:=L'.idU
        have w1:v1+x/y*v2≤X:=by
          have:=Nat.mul_le_mul_right (v1+x/y*v2) hy;omega
        have w2:u1+x/y*u2≤Y:=by
          have:=Nat.mul_le_mul_right (u1+x/y*u2) hy;omega
        have hu2:u2<18446744073709551616:=by
          have h1:=Nat.mul_le_mul_right u2 (show 1≤x by omega)
          have:=L.idU;omega
        have hv2':v2<18446744073709551616:=by omega
        have hlt:y*(x%y)<2 ^ k:=by
          have:=Ar7 hy hle
          rw [Nat.pow_succ] at hxy;omega
        obtain ⟨a1,a2,d1,d2,e',r1,r2,r3,r4,r5,r6⟩:=ih fuel y (x%y) u1 u2 (u1+x/y*u2) v1 v2 (v1+x/y*v2) (!e) (by omega) hlt L' C' b2 hu2 b4 hv2'
        refine ⟨a1,a2,d1,d2,e',r1,r2,r3,r4,r5,fun K=>?_⟩
        rw [C8];unfold Hk
        have hxy64:x<18446744073709551616:=by omega
        have hdiv:x/y<18446744073709551616:=Nat.lt_of_le_of_lt (Nat.div_le_self _ _) hxy64
        rw [show decide ((y:Int)≥(v2:Int))=true by simp;omega,show ((true:Bool)==true)=true by rfl,ct,A6l hxy64 hle,Ahi,w64 (show v1+v2<18446744073709551616 by omega),show decide (((x - y:Nat):Int)≥((v1+v2:Nat):Int))=true by rw [decide_eq_true_eq];omega,ctB,ct]
        unfold T5 Aas
        dsimp only
        rw [i0F (by omega),cf,cf,Av9,Ar4,w64 hdiv,Bga,Bga,w64 (show x/y*u2<18446744073709551616 by omega),w64 (show x/y*v2<18446744073709551616 by omega),Ahi,Ahi,w64 (show u1+x/y*u2<18446744073709551616 by omega),w64 (show v1+x/y*v2<18446744073709551616 by omega)]
        exact r6 K
      · refine ⟨u0,u1,v0,v1,e,C,b1,b2,b3,b4,fun K=>?_⟩
        rw [C8];unfold Hk
        rw [show decide ((y:Int)≥(v2:Int))=true by simp;omega,show ((true:Bool)==true)=true by rfl,ct,A6l (by omega) hle,Ahi,w64 (show v1+v2<18446744073709551616 by omega),show decide (((x - y:Nat):Int)≥((v1+v2:Nat):Int))=false by rw [decide_eq_false_iff_not];omega,ctB,cf]
        rfl
    · refine ⟨u0,u1,v0,v1,e,C,b1,b2,b3,b4,fun K=>?_⟩
      rw [C8];unfold Hk
      rw [show decide ((y:Int)≥(v2:Int))=false by simp;omega];rfl
end
end Gx

namespace Gx
open Go Go.Proofs
section
variable {R:Type}
theorem A6t {N:Nat} {a:List Nat} {n:Nat} {t o:Bool} {i:Nat} {K:Int→Option R} (hn:n=a.length) (ha:Ag a):Ik N (i:Int) (Ad a) n t o K=K ((a.getD i 0:Nat):Int):=by
  subst hn
  rw [Agq];unfold Afa Ae9
  by_cases h:i<a.length
  · have:=Ay ha h
    rw [ltT h,ct,Ah h,ct,rdl h,w64 (by omega),List.getD_eq_getElem?_getD,List.getElem?_eq_getElem h];rfl
  · rw [ltF (by omega),cf,List.getD_eq_getElem?_getD,List.getElem?_eq_none (by omega)];rfl
theorem Y8 {a:List Nat} (ha:Ag a) (i:Nat):a.getD i 0<4294967296:=by
  by_cases h:i<a.length
  · rw [List.getD_eq_getElem?_getD,List.getElem?_eq_getElem h];exact Ay ha h
  · rw [List.getD_eq_getElem?_getD,List.getElem?_eq_none (by omega)];simp
theorem Bt0 {a:List Nat} {n:Nat} (hl:a.length≤n+3):val a=val (a.take n)+4294967296 ^ n*((a.getD (n+2) 0*4294967296+a.getD (n+1) 0)*4294967296+a.getD n 0):=by
  have h0:=Ox a (n+2)
  have h1:=Ox a (n+1)
  have h2:=Ox a n
  rw [List.take_of_length_le (by omega)] at h0
  have x1:4294967296 ^ (n+2)*a.getD (n+2) 0=4294967296 ^ n*(a.getD (n+2) 0*4294967296*4294967296):=by rw [Nat.pow_succ (n:=4294967296) (m:=n+1),Nat.pow_succ,pw1,pw1]
  have x2:4294967296 ^ (n+1)*a.getD (n+1) 0=4294967296 ^ n*(a.getD (n+1) 0*4294967296):=by rw [Nat.pow_succ,pw1]
  rw [h0,h1,h2,x1,x2,Nat.add_mul,Nat.mul_add,Nat.mul_add];omega
theorem A9z {N:Nat} {a:List Nat} {m n s:Nat} {t o:Bool} {K:Int→Option R} (hm:m=a.length) (ha:Ag a) (hl:a.length≤n+3) (hs:s≤31) (htop:a.getD (n+2) 0*2 ^ s<4294967296) (hn:n≤1000000000000) :
    Yx N (Ad a) m t o ((n+3:Nat):Int) (s:Int) K=K ((val a/(4294967296 ^ n*2 ^ (32 - s)):Nat):Int)∧val a/(4294967296 ^ n*2 ^ (32 - s))<18446744073709551616:=by
  have hp:0<2 ^ s:=Nat.pow_pos (by omega)
  have hp2:0<2 ^ (32 - s):=Nat.pow_pos (by omega)
  have hP:0<4294967296 ^ n:=Nat.pow_pos (by omega)
  have hpp:2 ^ s*2 ^ (32 - s)=4294967296:=by rw [← Nat.pow_add,show s+(32 - s)=32 by omega]
  have b0:=Y8 ha (n+2)
  have b1:=Y8 ha (n+1)
  have b2:=Y8 ha n
  have tk:=A7 (Bw ha n)
  have tk2:val (a.take n)<4294967296 ^ n:=by
    refine Nat.lt_of_lt_of_le tk (Nat.pow_le_pow_right (by omega) ?_)
    rw [List.length_take];omega
  have hv:=Bt0 hl
  generalize ha0:a.getD (n+2) 0=a0 at *
  generalize ha1:a.getD (n+1) 0=a1 at *
  generalize ha2:a.getD n 0=a2 at *
  have hd0:a0<2 ^ (32 - s):=by
    rw [← hpp,Nat.mul_comm] at htop;exact Nat.lt_of_mul_lt_mul_left htop
  have hk:(a0*4294967296+a1)*2 ^ s<18446744073709551616:=by
    have x1:(a0+1)*4294967296≤2 ^ (32 - s)*4294967296:=Nat.mul_le_mul_right _ hd0
    have x2:a0*4294967296+a1<2 ^ (32 - s)*4294967296:=by rw [Nat.add_mul] at x1;omega
    have x3:=(Nat.mul_lt_mul_right hp).2 x2
    rw [Nat.mul_right_comm,Nat.mul_comm (2 ^ (32 - s)),hpp] at x3
    exact x3
  have hsh:a2/2 ^ (32 - s)<2 ^ s:=by
    rw [Nat.div_lt_iff_lt_mul hp2,hpp];exact b2
  have hq:val a/(4294967296 ^ n*2 ^ (32 - s))=(a0*4294967296+a1)*2 ^ s+a2/2 ^ (32 - s):=by
    rw [← Nat.div_div_eq_div_mul,hv,Nat.add_mul_div_left _ _ hP,Nat.div_eq_of_lt tk2,Nat.zero_add]
    have:(a0*4294967296+a1)*4294967296+a2=a2+2 ^ (32 - s)*((a0*4294967296+a1)*2 ^ s):=by
      rw [Nat.mul_left_comm,Nat.mul_comm (2 ^ (32 - s)),hpp];omega
    rw [this,Nat.add_mul_div_left _ _ hp2];omega
  have hb:(a0*4294967296+a1)*2 ^ s+a2/2 ^ (32 - s)<18446744073709551616:=by
    have hdv:2 ^ s*2 ^ (64 - s)=18446744073709551616:=by rw [← Nat.pow_add,show s+(64 - s)=64 by omega]
    obtain ⟨r,hr⟩:∃ r,18446744073709551616=2 ^ s*r:=⟨2 ^ (64 - s),hdv.symm⟩
    rw [hr,Nat.mul_comm] at hk
    have x1:=Nat.lt_of_mul_lt_mul_left hk
    have x2:(a0*4294967296+a1+1)*2 ^ s≤r*2 ^ s:=Nat.mul_le_mul_right _ x1
    rw [Nat.add_mul,Nat.mul_comm r,← hr] at x2
    omega
  rw [hq]
  refine ⟨?_,hb⟩
  rw [Avh];unfold Ax6 Ax5
  have w1:IntKind.wrap .i64 (((n+3:Nat):Int) - 1)=((n+2:Nat):Int):=by rw [i64 (by omega)];omega
  have w2:IntKind.wrap .i64 (((n+3:Nat):Int) - 2)=((n+1:Nat):Int):=by rw [i64 (by omega)];omega
  have w3:IntKind.wrap .i64 (((n+3:Nat):Int) - 3)=((n:Nat):Int):=by rw [i64 (by omega)];omega
  have w4:IntKind.wrap .i64 ((32:Int) - (s:Int))=((32 - s:Nat):Int):=by rw [i64 (by omega)];omega
  rw [w1,w2,w3,w4,A6t hm ha,A6t hm ha,show decide (((s:Nat):Int)<0)=false by simp,cf,A6t hm ha,show decide (((32 - s:Nat):Int)<0)=false by simp,cf]
  rw [ha0,ha1,ha2,orw b0 b1,Int.toNat_natCast,Int.toNat_natCast,Nat.min_eq_left (by omega),Nat.min_eq_left (by omega),Q6,show (2:Int) ^ s=((2 ^ s:Nat):Int) by simp,Bga,w64 hk,Bp9 hk (by omega),A6n hsh]
theorem Bme {N:Nat} {a b:List Nat} {n m:Nat} {t o t' o':Bool} (hn:n=a.length) (hm:m=b.length) (ha:Ag a) (hb:Ag b) (ha3:3≤a.length) (hla:a.getLast (by intro h;rw [h] at ha3;simp at ha3)≠0) (hlb:b.length≤a.length) (hle:val b≤val a) (hf:fit a.length N) :
    ∃ (a1 a2 b1 b2:Nat) (e:Bool),Cof (val a) (val b) a1 a2 b1 b2 e∧a1<18446744073709551616∧a2<18446744073709551616∧b1<18446744073709551616∧b2<18446744073709551616∧∀ K:LA→Option R,Aat N (Ad a) n t o (Ad b) m t' o' K=K (Brh a1 a2 b1 b2 e):=by
  subst hn hm
  have h1:=hf.1;have h2:=hf.2
  obtain ⟨k,hk⟩:∃ k,a.length=k+3:=⟨a.length - 3,by omega⟩
  have hla2:a[k+2]'(by omega)≠0:=by
    rw [List.getLast_eq_getElem] at hla
    simp only [hk] at hla
    exact hla
  have ak:=Ay ha (show k+2<a.length by omega)
  obtain ⟨s,s1,s2,s3,s4⟩:=Bre (R:=R) (N:=N) (c:=a[k+2]'(by omega)) (by omega) ak
  have hag:a.getD (k+2) 0=a[k+2]'(by omega):=by rw [List.getD_eq_getElem?_getD,List.getElem?_eq_getElem (by omega)];rfl
  have hbtop:b.getD (k+2) 0≤a[k+2]'(by omega):=by
    apply Nat.le_of_not_lt;intro hlt
    have hbl:k+2<b.length:=by
      apply Nat.lt_of_not_le;intro hge
      rw [List.getD_eq_getElem?_getD,List.getElem?_eq_none hge] at hlt;simp at hlt
    have hbg:b.getD (k+2) 0=b[k+2]:=by rw [List.getD_eq_getElem?_getD,List.getElem?_eq_getElem hbl];rfl
    rw [hbg] at hlt
    have x1:=Ama ha (n:=k+2) (by omega)
    have x2:=Bqc hbl
    have x3:(a[k+2]+1)*4294967296 ^ (k+2)≤b[k+2]*4294967296 ^ (k+2):=Nat.mul_le_mul_right _ hlt
    rw [Nat.mul_comm] at x2
    omega
  have hbt:b.getD (k+2) 0*2 ^ s<4294967296:=Nat.lt_of_le_of_lt (Nat.mul_le_mul_right _ hbtop) s3
  have hPP:0<4294967296 ^ k*2 ^ (32 - s):=Nat.mul_pos (Nat.pow_pos (by omega)) (Nat.pow_pos (by omega))
  have wa:=fun K=>A9z (R:=R) (N:=N) (a:=a) (m:=a.length) (n:=k) (s:=s) (t:=false) (o:=o) (K:=K) rfl ha (by omega) s1 (by rw [hag];exact s3) (by omega)
  have wb:=fun K=>A9z (R:=R) (N:=N) (a:=b) (m:=b.length) (n:=k) (s:=s) (t:=false) (o:=o') (K:=K) rfl hb (by omega) s1 hbt (by omega)
  have hX:=(wa fun _=>none).2
  generalize hP:4294967296 ^ k*2 ^ (32 - s)=P at *
  have hYX:val b/P≤val a/P:=Nat.div_le_div_right hle
  have q1:∀ z,z/P*P≤z:=fun z=>Nat.div_mul_le_self z P
  have q2:∀ z,z<(z/P+1)*P:=fun z=>by
    have:=Nat.div_add_mod z P;have:=Nat.mod_lt z hPP
    rw [Nat.add_mul,Nat.mul_comm];omega
  obtain ⟨a1,a2,b1,b2,e,r1,r2,r3,r4,r5,r6⟩:=Bsk (R:=R) (N:=N) (X:=val a/P) (Y:=val b/P) (A:=val a) (B:=val b) (P:=P) hX hYX (q1 _) (q2 _) (q1 _) (q2 _) 128 N (val a/P) (val b/P) 0 1 0 0 0 1 false (by omega) (by
    have:=Nat.mul_lt_mul'' hX (Nat.lt_of_le_of_lt hYX hX)
    exact this) (Lead.init hYX) (.inl rfl) (by omega) (by omega) (by omega) (by omega)
  refine ⟨a1,a2,b1,b2,e,r1,r2,r3,r4,r5,fun K=>?_⟩
  rw [Apu];unfold Apt Aps
  have w1:IntKind.wrap .i64 (((a.length:Nat):Int) - 1)=((k+2:Nat):Int):=by rw [i64 (by omega)];omega
  rw [w1,Ah (by omega),ct,rdl (by omega),s4,show ((a.length:Nat):Int)=((k+3:Nat):Int) by rw [hk],(wa _).1,(wb _).1]
  exact r6 K
theorem Yj {N:Nat} {a b:List Nat} {n m:Nat} {x y:Nat} {t o t' o':Bool} (hn:n=a.length) (hm:m=b.length) (ha:Ag a) (hb:Ag b) (hx:x<18446744073709551616) (hy:y<18446744073709551616) (hle:val b*y≤val a*x) (hf:fit (a.length+b.length+4) N) :
    ∃ S,Ag S∧val S=val a*x - val b*y∧∀ K:Nat→LA→Option R,Ec N (Ad a) n t o (x:Int) (Ad b) m t' o' (y:Int) K=K (dig (val a*x - val b*y)).length (Ad S):=by
  subst hn hm
  have h1:=hf.1;have h2:=hf.2
  obtain ⟨Sx,x1,x2,x3⟩:=Iw (R:=R) (N:=N) hx (by omega)
  obtain ⟨Sy,y1,y2,y3⟩:=Iw (R:=R) (N:=N) hy (by omega)
  have lx:=Al8 hx
  have ly:=Al8 hy
  obtain ⟨P1,p1,p2,p3⟩:=Ar3 (R:=R) (N:=N) (a:=a) (b:=dig x) (t:=false) (o:=o) (t':=false) (o':=true) rfl rfl ha (Ab _) (hf.le (by omega))
  obtain ⟨P2,q1,q2,q3⟩:=Ar3 (R:=R) (N:=N) (a:=b) (b:=dig y) (t:=false) (o:=o') (t':=false) (o':=true) rfl rfl hb (Ab _) (hf.le (by omega))
  rw [Af] at p2 p3 q2 q3
  have l1:(dig (val a*x)).length≤a.length+2:=Dd (by
    have:=Nat.mul_lt_mul'' (A7 ha) hx
    rw [Nat.pow_add];exact this)
  have l2:(dig (val b*y)).length≤b.length+2:=Dd (by
    have:=Nat.mul_lt_mul'' (A7 hb) hy
    rw [Nat.pow_add];exact this)
  obtain ⟨S,s1,s2,s3⟩:=Bgm (R:=R) (N:=N) (a:=dig (val a*x)) (b:=dig (val b*y)) (t:=false) (o:=true) (t':=false) (o':=true) rfl rfl (Ab _) (Ab _) (hf.le (by omega)) (by rw [Af,Af];exact hle)
  rw [Af,Af] at s2 s3
  refine ⟨S,s1,s2,fun K=>?_⟩
  rw [Ap2];unfold Ap1 Ap0
  have tx:List.take ((dig x).length*1) (Ad Sx)=Ad (dig x):=by rw [← x2,Jq x1]
  have ty:List.take ((dig y).length*1) (Ad Sy)=Ad (dig y):=by rw [← y2,Jq y1]
  have t1:List.take ((dig (val a*x)).length*1) (Ad P1)=Ad (dig (val a*x)):=by rw [← p2,Jq p1]
  have t2:List.take ((dig (val b*y)).length*1) (Ad P2)=Ad (dig (val b*y)):=by rw [← q2,Jq q1]
  rw [x3,tx,p3,y3,ty,q3,t1,t2,s3]
end
end Gx

namespace Gx
open Go Go.Proofs
section
variable {R:Type}
theorem Bsl {N:Nat} (hN:4≤N):∀ (k fuel x y:Nat),k<fuel→x*y<2 ^ k→y≤x→x<18446744073709551616→∃ S,Ag S∧val S=Nat.gcd x y∧∀ (k1:LA→Nat→Bool→LA→Nat→Bool→Option R) (K:Nat→LA→Option R),On N k1 K fuel (x:Int) (y:Int)=K (dig (Nat.gcd x y)).length (Ad S):=by
  have base:∀ (fuel x:Nat),x<18446744073709551616→∃ S,Ag S∧val S=Nat.gcd x 0∧∀ (k1:LA→Nat→Bool→LA→Nat→Bool→Option R) (K:Nat→LA→Option R),On N k1 K (fuel+1) (x:Int) ((0:Nat):Int)=K (dig (Nat.gcd x 0)).length (Ad S):=by
    intro fuel x hx
    obtain ⟨S,s1,s2,s3⟩:=Iw (R:=R) (N:=N) hx hN
    refine ⟨S,s1,by rw [s2,Nat.gcd_zero_right],fun k1 K=>?_⟩
    rw [On];unfold Ajx
    rw [show (((0:Nat):Int) != 0)=false by rfl,cf,s3,Nat.gcd_zero_right]
  intro k
  induction k with
  | zero =>
    intro fuel x y hf hxy hle hx
    obtain ⟨fuel,rfl⟩:∃ F,fuel=F+1:=⟨fuel - 1,by omega⟩
    have hy:y=0:=by
      rcases Nat.eq_zero_or_pos y with h | h
      · exact h
      · have h3:=Nat.mul_le_mul_left x (show 1≤y by omega)
        rw [Nat.pow_zero] at hxy;omega
    subst hy
    exact base fuel x hx
  | succ k ih =>
    intro fuel x y hf hxy hle hx
    obtain ⟨fuel,rfl⟩:∃ F,fuel=F+1:=⟨fuel - 1,by omega⟩
    rcases Nat.eq_zero_or_pos y with h | h
    · subst h;exact base fuel x hx
    · have hh:=Ar7 (show 1≤y by omega) hle
      have hm:=Nat.mod_lt x h
      obtain ⟨S,s1,s2,s3⟩:=ih fuel y (x%y) (by omega) (by rw [Nat.pow_succ] at hxy;omega) (by omega) (by omega)
      have hg:Nat.gcd y (x%y)=Nat.gcd x y:=by rw [Nat.gcd_comm,← Nat.gcd_rec,Nat.gcd_comm]
      rw [hg] at s2 s3
      refine ⟨S,s1,s2,fun k1 K=>?_⟩
      rw [On];unfold Ajx
      rw [show ((y:Int) != 0)=true by rw [bne_iff_ne];omega,ct,i0F (by omega),cf,Ar4]
      exact s3 k1 K
theorem Bj2 {a b u v s t x y:Nat} (hx:x+v*b=u*a) (hy:y+s*a=t*b) (hdet:u*t=v*s+1):t*x+v*y=a∧s*x+u*y=b:=by
  constructor
  · have h1:t*x+t*v*b=t*u*a:=by rw [Nat.mul_assoc,Nat.mul_assoc,← Nat.mul_add,hx]
    have h2:v*y+v*s*a=v*t*b:=by rw [Nat.mul_assoc,Nat.mul_assoc,← Nat.mul_add,hy]
    have h3:t*u*a=v*s*a+a:=by rw [Nat.mul_comm t u,hdet,Nat.add_mul,Nat.one_mul]
    have h4:t*v*b=v*t*b:=by rw [Nat.mul_comm t v]
    omega
  · have h1:s*x+s*v*b=s*u*a:=by rw [Nat.mul_assoc,Nat.mul_assoc,← Nat.mul_add,hx]
    have h2:u*y+u*s*a=u*t*b:=by rw [Nat.mul_assoc,Nat.mul_assoc,← Nat.mul_add,hy]
    have h3:u*t*b=v*s*b+b:=by rw [hdet,Nat.add_mul,Nat.one_mul]
    have h4:s*u*a=u*s*a:=by rw [Nat.mul_comm s u]
    have h5:s*v*b=v*s*b:=by rw [Nat.mul_comm s v]
    omega
theorem Bj3 {A B a b p q r s:Nat} (hA:p*a+q*b=A) (hB:r*a+s*b=B) (hp:1≤p) (hq:1≤q) (hr:1≤r) (hba:b≤a):2*(a*b)≤A*B∧a≤A:=by
  have h1:=Nat.mul_le_mul_right a hp
  have h2:=Nat.mul_le_mul_right b hq
  have h3:=Nat.mul_le_mul_right a hr
  have h4:2*b≤A:=by omega
  have h5:a≤B:=by omega
  have:=Nat.mul_le_mul h4 h5
  refine ⟨?_,by omega⟩
  rw [Nat.mul_comm a b,← Nat.mul_assoc];exact this
theorem Bv1 {u0 u1 v0 v1:Nat} {e:Bool}:setCells [(.int .u64 0),(.int .u64 0),(.int .u64 0),(.int .u64 0),(.bool false)] 0 (Brh u0 u1 v0 v1 e)=Brh u0 u1 v0 v1 e:=rfl
theorem Boj {N:Nat}:∀ (k fuel A B:Nat) (d f:Bool),k<fuel→A*B<2 ^ k→B≤A→fit (2*(dig A).length+4) N→∃ S,Ag S∧val S=Nat.gcd A B∧∀ K:Nat→LA→Option R,Df N K fuel (Ad (dig A)) (dig A).length d (Ad (dig B)) (dig B).length f=K (dig (Nat.gcd A B)).length (Ad S):=by
  have base:∀ (fuel A:Nat) (d f:Bool),fit (2*(dig A).length+4) N→∃ S,Ag S∧val S=Nat.gcd A 0∧∀ K:Nat→LA→Option R,Df N K (fuel+1) (Ad (dig A)) (dig A).length d (Ad (dig 0)) (dig 0).length f=K (dig (Nat.gcd A 0)).length (Ad S):=by
    intro fuel A d f hf
    refine ⟨dig A,Ab _,by rw [Af,Nat.gcd_zero_right],fun K=>?_⟩
    rw [Df];unfold Aa1
    rw [C3,show decide ((((([]:List Nat).length:Nat)):Int)>0)=false by decide,cf,At4 rfl (Ab _) (hf.le (by omega)),Af,Nat.gcd_zero_right]
  intro k
  induction k with
  | zero =>
    intro fuel A B d f hfu hxy hle hf
    obtain ⟨fuel,rfl⟩:∃ F,fuel=F+1:=⟨fuel - 1,by omega⟩
    have hy:B=0:=by
      rcases Nat.eq_zero_or_pos B with h | h
      · exact h
      · have h3:=Nat.mul_le_mul_left A (show 1≤B by omega)
        rw [Nat.pow_zero] at hxy;omega
    subst hy
    exact base fuel A d f hf
  | succ k ih =>
    intro fuel A B d f hfu hxy hle hf
    have h1:=hf.1;have h2:=hf.2
    obtain ⟨fuel,rfl⟩:∃ F,fuel=F+1:=⟨fuel - 1,by omega⟩
    rcases Nat.eq_zero_or_pos B with h | h
    · subst h;exact base fuel A d f hf
    have hll:=Bk hle
    have hbl:(dig B).length≠0:=fun h0=>by have:=Bd.1 h0;omega
    have hd0:decide ((((dig B).length:Nat):Int)>0)=true:=by rw [decide_eq_true_eq];omega
    by_cases ha2:(dig A).length≤2
    · have av:=A3e ha2
      obtain ⟨S,s1,s2,s3⟩:=Bsl (R:=R) (N:=N) (by omega) 128 N A B (by omega) (by have:=Nat.mul_lt_mul'' av (Nat.lt_of_le_of_lt hle av);exact this) hle av
      refine ⟨S,s1,s2,fun K=>?_⟩
      rw [Df];unfold Aa1
      rw [hd0,ct,show decide ((((dig A).length:Nat):Int)≤2)=true by rw [decide_eq_true_eq];omega,ct,Ahm rfl (Ab _) ha2 (by omega),Ahm rfl (Ab _) (by omega) (by omega),Af,Af]
      exact s3 _ K
    · have hd2:decide ((((dig A).length:Nat):Int)≤2)=false:=by rw [decide_eq_false_iff_not];omega
      obtain ⟨a1,a2,b1,b2,e,r1,r2,r3,r4,r5,r6⟩:=Bme (R:=R) (N:=N) (a:=dig A) (b:=dig B) (t:=false) (o:=d) (t':=false) (o':=f) rfl rfl (Ab _) (Ab _) (by omega) (Bf9 _ _) hll (by rw [Af,Af];exact hle) (hf.le (by omega))
      rw [Af,Af] at r1
      have start:∀ K:Nat→LA→Option R,Df N K (fuel+1) (Ad (dig A)) (dig A).length d (Ad (dig B)) (dig B).length f=cond ((b1:Int)==0) (Ds N (Ad (dig A)) (dig A).length false d (Ad (dig B)) (dig B).length false f (fun bm ag bn bo ar=>(Df N K fuel (Ad (dig B)) (dig B).length f (List.take (ag*1) ar) ag false))) (cond e (Ec N (Ad (dig A)) (dig A).length false d (a1:Int) (Ad (dig B)) (dig B).length false f (b1:Int) (fun ah ax=>Ec N (Ad (dig B)) (dig B).length false f (b2:Int) (Ad (dig A)) (dig A).length false d (a2:Int) (fun ai ba=>(Df N K fuel (List.take (ah*1) ax) ah false (List.take (ai*1) ba) ai false)))) (Ec N (Ad (dig B)) (dig B).length false f (b1:Int) (Ad (dig A)) (dig A).length false d (a1:Int) (fun aj bd=>Ec N (Ad (dig A)) (dig A).length false d (a2:Int) (Ad (dig B)) (dig B).length false f (b2:Int) (fun ak bg=>(Df N K fuel (List.take (aj*1) bd) aj false (List.take (ak*1) bg) ak false))))):=by
        intro K
        rw [Df];unfold Aa1
        rw [hd0,ct,hd2,cf,r6,Bv1]
        rfl
      by_cases hb1:b1=0
      · obtain ⟨Sq,Sr,q1,q2,q3,q4,q5⟩:=Ar6 (R:=R) (N:=N) (a:=dig A) (b:=dig B) (t:=false) (o:=d) (t':=false) (o':=f) rfl rfl (Ab _) (Ab _) (by rw [Af];omega) (hf.le (by omega))
        rw [Af,Af] at q2 q4 q5
        have hm:=Nat.mod_lt A h
        have hh:=Ar7 (show 1≤B by omega) hle
        obtain ⟨S,s1,s2,s3⟩:=ih fuel B (A%B) f false (by omega) (by rw [Nat.pow_succ] at hxy;omega) (by omega) (hf.le (by omega))
        have hg:Nat.gcd B (A%B)=Nat.gcd A B:=by rw [Nat.gcd_comm,← Nat.gcd_rec,Nat.gcd_comm]
        rw [hg] at s2 s3
        refine ⟨S,s1,s2,fun K=>?_⟩
        have tk:List.take ((dig (A%B)).length*1) (Ad Sr)=Ad (dig (A%B)):=by rw [← q4,Jq q3]
        rw [start,i0T hb1,ct,q5,tk,s3]
      · rcases r1 with r1 | ⟨p1,p2,r1⟩
        · exact absurd r1 hb1
        cases e with
        | true =>
          obtain ⟨c1,c2,c3,c4⟩:=r1
          obtain ⟨S1,t1,t2,t3⟩:=Yj (R:=R) (N:=N) (a:=dig A) (b:=dig B) (x:=a1) (y:=b1) (t:=false) (o:=d) (t':=false) (o':=f) rfl rfl (Ab _) (Ab _) r2 r4 (by rw [Af,Af,Nat.mul_comm,Nat.mul_comm A];exact c1) (hf.le (by omega))
          obtain ⟨S2,w1,w2,w3⟩:=Yj (R:=R) (N:=N) (a:=dig B) (b:=dig A) (x:=b2) (y:=a2) (t:=false) (o:=f) (t':=false) (o':=d) rfl rfl (Ab _) (Ab _) r5 r3 (by rw [Af,Af,Nat.mul_comm,Nat.mul_comm B];exact c2) (hf.le (by omega))
          rw [Af,Af] at t2 t3 w2 w3
          have g1:(A*a1 - B*b1)+b1*B=a1*A:=by rw [Nat.mul_comm A,Nat.mul_comm B];omega
          have g2:(B*b2 - A*a2)+a2*A=b2*B:=by rw [Nat.mul_comm A,Nat.mul_comm B];omega
          have hba:B*b2 - A*a2≤A*a1 - B*b1:=by rw [Nat.add_mul,Nat.add_mul] at c3;omega
          obtain ⟨i1,i2⟩:=Bj2 g1 g2 c4
          have hg:=Bn7 g1 g2 c4
          obtain ⟨i3,i4⟩:=Bj3 i1 i2 p2 (by omega) p1 hba
          have hl:=Bk i4
          obtain ⟨S,s1,s2,s3⟩:=ih fuel (A*a1 - B*b1) (B*b2 - A*a2) false false (by omega) (by rw [Nat.pow_succ] at hxy;omega) hba (hf.le (by omega))
          rw [hg] at s2 s3
          refine ⟨S,s1,s2,fun K=>?_⟩
          have tk1:List.take ((dig (A*a1 - B*b1)).length*1) (Ad S1)=Ad (dig (A*a1 - B*b1)):=by rw [← t2,Jq t1]
          have tk2:List.take ((dig (B*b2 - A*a2)).length*1) (Ad S2)=Ad (dig (B*b2 - A*a2)):=by rw [← w2,Jq w1]
          rw [start,i0F hb1,cf,ct,t3,w3,tk1,tk2,s3]
        | false =>
          obtain ⟨c1,c2,c3,c4⟩:=r1
          obtain ⟨S1,t1,t2,t3⟩:=Yj (R:=R) (N:=N) (a:=dig B) (b:=dig A) (x:=b1) (y:=a1) (t:=false) (o:=f) (t':=false) (o':=d) rfl rfl (Ab _) (Ab _) r4 r2 (by rw [Af,Af,Nat.mul_comm,Nat.mul_comm B];exact c1) (hf.le (by omega))
          obtain ⟨S2,w1,w2,w3⟩:=Yj (R:=R) (N:=N) (a:=dig A) (b:=dig B) (x:=a2) (y:=b2) (t:=false) (o:=d) (t':=false) (o':=f) rfl rfl (Ab _) (Ab _) r3 r5 (by rw [Af,Af,Nat.mul_comm,Nat.mul_comm A];exact c2) (hf.le (by omega))
          rw [Af,Af] at t2 t3 w2 w3
          have g1:(B*b1 - A*a1)+a1*A=b1*B:=by rw [Nat.mul_comm A,Nat.mul_comm B];omega
          have g2:(A*a2 - B*b2)+b2*B=a2*A:=by rw [Nat.mul_comm A,Nat.mul_comm B];omega
          have hba:A*a2 - B*b2≤B*b1 - A*a1:=by rw [Nat.add_mul,Nat.add_mul] at c3;omega
          obtain ⟨i1,i2⟩:=Bj2 g2 g1 c4
          have hg:=Bn7 g2 g1 c4
          rw [Nat.gcd_comm] at hg
          rw [Nat.add_comm] at i1 i2
          obtain ⟨i3,i4⟩:=Bj3 i1 i2 p2 (by omega) p1 hba
          have hl:=Bk i4
          obtain ⟨S,s1,s2,s3⟩:=ih fuel (B*b1 - A*a1) (A*a2 - B*b2) false false (by omega) (by rw [Nat.pow_succ] at hxy;omega) hba (hf.le (by omega))
          rw [hg] at s2 s3
          refine ⟨S,s1,s2,fun K=>?_⟩
          have tk1:List.take ((dig (B*b1 - A*a1)).length*1) (Ad S1)=Ad (dig (B*b1 - A*a1)):=by rw [← t2,Jq t1]
          have tk2:List.take ((dig (A*a2 - B*b2)).length*1) (Ad S2)=Ad (dig (A*a2 - B*b2)):=by rw [← w2,Jq w1]
          rw [start,i0F hb1,cf,cf,t3,w3,tk1,tk2,s3]
theorem Bok (n m:Nat):4294967296 ^ n*4294967296 ^ m=2 ^ (32*(n+m)):=by
  rw [← Nat.pow_add,show (4294967296:Nat)=2 ^ 32 by rfl,← Nat.pow_mul]
theorem Bt1 {N:Nat} {a b:List Nat} {n m:Nat} {t o t' o':Bool} (hn:n=a.length) (hm:m=b.length) (ha:Ag a) (hb:Ag b) (hf:fit (2*(a.length+b.length)+4) N) :
    ∃ S,Ag S∧val S=Nat.gcd (val a) (val b)∧∀ K:Nat→LA→Option R,Ayg N (Ad a) n t o (Ad b) m t' o' K=K (dig (Nat.gcd (val a) (val b))).length (Ad S):=by
  have h1:=hf.1;have h2:=hf.2
  have la:=(Bc ha).2
  have lb:=(Bc hb).2
  have hprod:val a*val b<2 ^ (32*(a.length+b.length)):=by rw [← Bok];exact Nat.mul_lt_mul'' (A7 ha) (A7 hb)
  have start:∀ K:Nat→LA→Option R,Ayg N (Ad a) n t o (Ad b) m t' o' K=cond (decide (Fu (val a) (val b)<0)) (Df N K N (Ad (dig (val b))) (dig (val b)).length o' (Ad (dig (val a))) (dig (val a)).length o) (Df N K N (Ad (dig (val a))) (dig (val a)).length o (Ad (dig (val b))) (dig (val b)).length o'):=by
    intro K
    rw [Bd5];unfold Blm Bll A5b Ayf
    dsimp only
    rw [Bo hn ha (hf.le (by omega)),Bo hm hb (hf.le (by omega)),Ow rfl rfl (Ab _) (Ab _) (hf.le (by omega)),Af,Af]
  by_cases hlt:val a<val b
  · obtain ⟨S,s1,s2,s3⟩:=Boj (R:=R) (N:=N) (32*(a.length+b.length)) N (val b) (val a) o' o (by omega) (by rw [Nat.mul_comm];exact hprod) (by omega) (hf.le (by omega))
    rw [Nat.gcd_comm] at s2
    refine ⟨S,s1,s2,fun K=>?_⟩
    rw [start,show decide (Fu (val a) (val b)<0)=true by (unfold Fu;rw [if_pos hlt];rfl),ct,s3,Nat.gcd_comm]
  · obtain ⟨S,s1,s2,s3⟩:=Boj (R:=R) (N:=N) (32*(a.length+b.length)) N (val a) (val b) o o' (by omega) hprod (by omega) (hf.le (by omega))
    refine ⟨S,s1,s2,fun K=>?_⟩
    rw [start,show decide (Fu (val a) (val b)<0)=false by (unfold Fu;rw [if_neg hlt];split<;>rfl),cf,s3]
end
end Gx

namespace Gx
open Go Go.Proofs
section
variable {R:Type}
theorem Bwm {c:Nat} (h:c≤1000000000000):((Nat.ble (0+c) 140737488355328)&&(Nat.ble ((0+c)*4) 140737488355328))=true:=by simp;omega
theorem Azt {N:Nat} {l:List Nat} {t o:Bool} {K:Nat→LA→Option R} (hl:Ag l) (hs:l.length≤1000000000000):∀ (c fuel:Nat),c≤l.length→c<fuel →
    Og N K (Ad l) l.length t o fuel (c:Int)=K (dig (val (l.take c))).length (Ad (dig (val (l.take c))))
  | 0,fuel+1,hc,_=>by
    rw [Og];unfold W0
    rw [show decide (((0:Nat):Int)>0)=false by simp]
    rw [show ((false:Bool)==true)=false by rfl,cf,sl0 (by omega),ct,Int.toNat_natCast,Nat.mul_one,S9,Aee,Bool.or_true,ct,Bwm (by omega),ct];rfl
  | c+1,fuel+1,hc,hf=>by
    rw [Og];unfold W0
    rw [Bqa,ct,wP (by omega),Ah (by omega),ct,rdl (by omega),ctB,sl0 (by omega),ct,Azt hl hs c fuel (by omega) (by omega),Int.toNat_natCast,Nat.mul_one,S9,Aee,Bool.or_true,ct,Bwm (by omega),ct,Nat.zero_add]
    by_cases h0:l[c]=0
    · rw [At (by omega),h0];simp
    · rw [Bl9 hl (by omega) h0,List.length_take,Nat.min_eq_left hc]
      rw [i0F h0,cf]
theorem Cq {N:Nat} {l:List Nat} {n:Nat} {t o:Bool} {K:Nat→LA→Option R} (hn:n=l.length) (hl:Ag l) (hf:fit l.length N):Cy N (Ad l) n t o K=K (dig (val l)).length (Ad (dig (val l))):=by
  subst hn
  have h1:=hf.1;have h2:=hf.2
  rw [Ah6];unfold Asq Asp
  dsimp only
  rw [Azt hl (by omega) l.length N (Nat.le_refl _) (by omega),List.take_length]
theorem Bol {N:Nat} {a b:List Nat} {t o t' o':Bool} {K:Bool→Option R} (hs:a.length≤1000000000000) (he:a.length=b.length):∀ (m j fuel:Nat),j+m=a.length→m<fuel →
    Lh N K (Ad a) a.length t o (Ad b) b.length t' o' fuel (j:Int)=K (decide (a.drop j=b.drop j))
  | 0,j,fuel+1,hj,_=>by
    rw [Lh];unfold Tg
    rw [ltF (by omega),cf,List.drop_eq_nil_of_le (by omega),List.drop_eq_nil_of_le (by omega)];simp
  | m+1,j,fuel+1,hj,hf=>by
    have h1:j<a.length:=by omega
    have h2:j<b.length:=by omega
    rw [Lh];unfold Tg
    rw [ltT h1,ct,Ah h1,ct,rdl h1,Ah h2,ct,rdl h2,wS (by omega),Bol hs he m (j+1) fuel (by omega) (by omega),List.drop_eq_getElem_cons h1,List.drop_eq_getElem_cons h2]
    by_cases h:a[j]=b[j]
    · rw [show ((((a[j]:Nat):Int) != ((b[j]:Nat):Int)))=false by simp [h],cf];congr 1;rw [decide_eq_decide,List.cons.injEq];exact ⟨fun hh=>⟨h,hh⟩,fun hh=>hh.2⟩
    · rw [show ((((a[j]:Nat):Int) != ((b[j]:Nat):Int)))=true by rw [bne_iff_ne];omega,ct];congr 1;symm;rw [decide_eq_false_iff_not,List.cons.injEq];exact fun hh=>h hh.1
theorem Bt2 {N:Nat} {a b:List Nat} {n m:Nat} {t o t' o':Bool} {K:Bool→Option R} (hn:n=a.length) (hm:m=b.length) (hf:fit a.length N):Agg N (Ad a) n t o (Ad b) m t' o' K=K (decide (a=b)):=by
  subst hn hm
  have h1:=hf.1;have h2:=hf.2
  rw [Aup];unfold Awv Awu
  by_cases he:a.length=b.length
  · rw [show (((a.length:Nat):Int) != ((b.length:Nat):Int))=false by simp [he],cf]
    have:=Bol (R:=R) (N:=N) (t:=t) (o:=o) (t':=t') (o':=o') (K:=K) (by omega) he a.length 0 N (by omega) (by omega)
    simpa using this
  · rw [show (((a.length:Nat):Int) != ((b.length:Nat):Int))=true by rw [bne_iff_ne];omega,ct]
    congr 1;symm;rw [decide_eq_false_iff_not];intro h;exact he (by rw [h])
theorem Aeg {N:Nat} {v:Nat} {K:Nat→LA→Option R} (hv:v<18446744073709551616) (hN:4≤N):Dz N (v:Int) K=K (dig v).length (Ad (dig v)):=by
  have hl:Ag [v%4294967296,v/4294967296]:=Cp.2 ⟨by omega,Cp.2 ⟨by omega,S8⟩⟩
  have hval:val [v%4294967296,v/4294967296]=v:=by simp [val];omega
  rw [Zo];unfold Vv Vu
  rw [Azr,A6m,w32 (show v/4294967296<4294967296 by omega)]
  have:=Azt (R:=R) (N:=N) (l:=[v%4294967296,v/4294967296]) (t:=false) (o:=true) (K:=K) hl (by simp) 2 N (by simp) (by omega)
  rw [show [v%4294967296,v/4294967296].take 2=[v%4294967296,v/4294967296] by rfl,hval] at this
  rw [Ah6];unfold Asq Asp
  exact this
theorem Amb {N:Nat} {l:List Nat} {n:Nat} {t o:Bool} {K:Int→Bool→Option R} (hn:n=l.length) (hl:Ag l) (hf:fit l.length N):Rm N (Ad l) n t o K=if val l<18446744073709551616 then K (val l:Int) true else K 0 false:=by
  have h1:=hf.1
  rw [Aok];unfold Aoj Aoi
  rw [Cq hn hl hf]
  by_cases h:val l<18446744073709551616
  · have hd:=Al8 h
    rw [if_pos h,show decide ((((dig (val l)).length:Nat):Int)>2)=false by simp;omega,cf]
    have hv:=Af (val l)
    have hb:=Ab (val l)
    obtain ⟨M,hM⟩:∃ M,N=M+4:=⟨N - 4,by omega⟩
    rw [hM]
    generalize dig (val l)=d at *
    match d,hd,hv,hb with
    | [],_,hv,_ =>
      dsimp only
      rw [Du];unfold D0
      rw [← hv,i64 (by simp)];rfl
    | [x],_,hv,hb =>
      have hx:=(Cp.1 hb).1
      have hxv:val l=x:=by rw [← hv];simp [val]
      dsimp only
      rw [Du];unfold D0
      rw [i64 (by simp),show ((([x]:List Nat).length:Nat):Int) - 1=((0:Nat):Int) by rfl,show decide (((0:Nat):Int)≥0)=true by rfl,ct,Ah (by simp),ct,A29 (by simp)]
      rw [Du];unfold D0
      rw [i64 (by simp),show decide ((((0:Nat):Int) - 1)≥0)=false by rfl,cf]
      have:=orw (a:=0) (b:=x) (by omega) hx
      simp only [List.getElem_cons_zero]
      rw [w64 (show x<18446744073709551616 by omega),show (0:Int)=((0:Nat):Int) by rfl,this,hxv];simp
    | [x,y],_,hv,hb =>
      have hx:=(Cp.1 hb).1
      have hy:=(Cp.1 (Cp.1 hb).2).1
      have hxv:val l=y*4294967296+x:=by rw [← hv];simp [val];omega
      dsimp only
      rw [Du];unfold D0
      rw [i64 (by simp),show ((([x,y]:List Nat).length:Nat):Int) - 1=((1:Nat):Int) by rfl,show decide (((1:Nat):Int)≥0)=true by rfl,ct,Ah (by simp),ct,A29 (by simp)]
      rw [Du];unfold D0
      rw [i64 (by simp),show (((1:Nat):Int) - 1)=((0:Nat):Int) by rfl,show decide (((0:Nat):Int)≥0)=true by rfl,ct,Ah (by simp),ct,A29 (by simp)]
      rw [Du];unfold D0
      rw [i64 (by simp),show decide ((((0:Nat):Int) - 1)≥0)=false by rfl,cf]
      have o1:=orw (a:=0) (b:=y) (by omega) hy
      have o2:=orw (a:=y) (b:=x) hy hx
      simp only [List.getElem_cons_zero,List.getElem_cons_succ]
      rw [w64 (show y<18446744073709551616 by omega),w64 (show x<18446744073709551616 by omega),show (0:Int)=((0:Nat):Int) by rfl,o1,Nat.zero_mul,Nat.zero_add,o2,hxv]
  · have:¬ (dig (val l)).length≤2:=fun h2=>h (A3e h2)
    rw [if_neg h,show decide ((((dig (val l)).length:Nat):Int)>2)=true by simp;omega,ct]
theorem Bj4 {N:Nat} {x y:List Nat} {K:Int→Option R} (hx:Ag x) (hy:Ag y) (hs:x.length≤1000000000000) (he:x.length=y.length):∀ (i fuel:Nat),i≤x.length→i<fuel →
    Hd N K x.length y.length (Ad x) (Ad y) fuel ((i:Int) - 1)=K (Fu (val (x.take i)) (val (y.take i)))
  | 0,fuel+1,_,_=>by
    rw [Hd];unfold M8
    rw [show decide ((((0:Nat):Int) - 1)≥0)=false by simp,cf]
    simp [Y7]
  | i+1,fuel+1,hi,hf=>by
    rw [Hd];unfold M8
    rw [show (((i+1:Nat):Int) - 1)=(i:Int) by omega,show decide ((i:Int)≥0)=true by simp,ct,Ah (by omega),ct,A29 (by omega),Ah (by omega),ct,A29 (by omega),ct,A29 (by omega),ct,A29 (by omega),i64 (by omega),
      Bj4 hx hy hs he i fuel (by omega) (by omega),At (by omega),At (by omega)]
    have h1:=A7 (Bw hx i)
    have h2:=A7 (Bw hy i)
    rw [List.length_take,Nat.min_eq_left (by omega)] at h1 h2
    by_cases c1:x[i]<y[i]
    · have:=Ba4 h1 h2 c1
      rw [show decide (((x[i]:Nat):Int)<((y[i]:Nat):Int))=true by simp;exact c1,ct]
      unfold Fu;rw [if_pos this]
    · by_cases c2:y[i]<x[i]
      · have:=Ba4 h2 h1 c2
        rw [show decide (((x[i]:Nat):Int)<((y[i]:Nat):Int))=false by simp;omega,cf,show decide (((x[i]:Nat):Int)>((y[i]:Nat):Int))=true by simp;exact c2,ct]
        unfold Fu;rw [if_neg (by omega),if_pos this]
      · have:x[i]=y[i]:=by omega
        rw [show decide (((x[i]:Nat):Int)<((y[i]:Nat):Int))=false by simp;omega,cf,show decide (((x[i]:Nat):Int)>((y[i]:Nat):Int))=false by simp;omega,cf,this]
        unfold Fu
        congr 1
        by_cases a1:val (x.take i)<val (y.take i)
        · rw [if_pos a1,if_pos (by omega)]
        · by_cases a2:val (y.take i)<val (x.take i)
          · rw [if_neg a1,if_pos a2,if_neg (by omega),if_pos (by omega)]
          · rw [if_neg a1,if_neg a2,if_neg (by omega),if_neg (by omega)]
theorem Bsm {N:Nat} {a b:List Nat} {n m:Nat} {t o t' o':Bool} {K:Int→Option R} (hn:n=a.length) (hm:m=b.length) (ha:Ag a) (hb:Ag b) (hf:fit (a.length+b.length) N) :
    U5 N (Ad a) n t o (Ad b) m t' o' K=K (Fu (val a) (val b)):=by
  subst hn hm
  have h1:=hf.1;have h2:=hf.2
  rw [Amp];unfold Aik Aij
  dsimp only
  rw [Cq rfl ha (hf.le (by omega)),Cq rfl hb (hf.le (by omega))]
  have la:=(Bc ha).2
  have lb:=(Bc hb).2
  by_cases he:(dig (val a)).length=(dig (val b)).length
  · rw [show ((((dig (val a)).length:Nat):Int) != (((dig (val b)).length:Nat):Int))=false by simp;omega,cf,i64 (by omega),Bj4 (Ab _) (Ab _) (by omega) he _ N (Nat.le_refl _) (by omega),List.take_length,he,List.take_length,Af,Af]
  · rw [show ((((dig (val a)).length:Nat):Int) != (((dig (val b)).length:Nat):Int))=true by simp;omega,ct]
    by_cases hl:(dig (val a)).length<(dig (val b)).length
    · have:=Al7 hl
      rw [ltT hl,ct]
      unfold Fu;rw [if_pos this]
    · have:=Al7 (show (dig (val b)).length<(dig (val a)).length by omega)
      rw [ltF (by omega),cf]
      unfold Fu;rw [if_neg (by omega),if_pos this]
end
end Gx

namespace Gx
open Go Go.Proofs
section
variable {R:Type}
theorem Bwn (a b:Nat):Zd (a:Int) (b:Int)=((max a b:Nat):Int):=by
  unfold Zd
  by_cases h:(b:Int)>(a:Int)
  · rw [decide_eq_true h];show (b:Int)=_;omega
  · rw [decide_eq_false h];show (a:Int)=_;omega
theorem Bj5 {N:Nat} {a b:List Nat} {t o t' o':Bool} {n:Nat} (ha:Ag a) (hb:Ag b) (hla:a.length<n) (hlb:b.length<n) (hn:n≤max a.length b.length+1) (hf:fit n N):∀ (m d fuel:Nat) (S:List Nat) (c:Nat),d+m=n→m<fuel→Ag S→S.length=n→zer S d→c≤1 →
    val S+4294967296 ^ d*c=val (a.take d)+val (b.take d) →
    ∀ K:Nat→LA→Option R,Gg N K (Ad a) a.length t o (Ad b) b.length t' o' fuel n (c:Int) (d:Int) (Ad S)=K (dig (val a+val b)).length (Ad (dig (val a+val b)))
  | 0,d,fuel+1,S,c,hd,_,hS,hl,hz,hc,hv=>by
    intro K
    have hd':d=n:=by omega
    subst hd'
    rw [List.take_of_length_le (by omega),List.take_of_length_le (by omega)] at hv
    have hc0:c=0:=by
      rcases Nat.eq_zero_or_pos c with h | h
      · exact h
      · exfalso
        have hc1:c=1:=by omega
        subst hc1
        obtain ⟨e,rfl⟩:∃ e,d=e+1:=⟨d - 1,by omega⟩
        have x1:=A7 ha
        have x2:=A7 hb
        have y1:4294967296 ^ a.length≤4294967296 ^ e:=Nat.pow_le_pow_right (by omega) (by omega)
        have y2:4294967296 ^ b.length≤4294967296 ^ e:=Nat.pow_le_pow_right (by omega) (by omega)
        rw [Nat.pow_succ] at hv
        omega
    subst hc0
    have hv2:val S=val a+val b:=by omega
    rw [Gg];unfold Ab7
    rw [ltF (Nat.le_refl _),cf,Nat.mul_one,List.take_of_length_le (by rw [Bf];omega),Cq hl.symm hS (by rw [hl];exact hf),hv2]
  | m+1,d,fuel+1,S,c,hd,hfu,hS,hl,hz,hc,hv=>by
    intro K
    have h1:=hf.1;have h2:=hf.2
    have ga:=Y8 ha d
    have gb:=Y8 hb d
    have step:∀ s:Nat,s=c+a.getD d 0+b.getD d 0→val (S.set d (s%4294967296))+4294967296 ^ (d+1)*(s/4294967296)=val (a.take (d+1))+val (b.take (d+1)):=by
      intro s hs
      rw [Uw hz (by omega),Ox a d,Ox b d,Nat.pow_succ]
      have e:=K4 (4294967296 ^ d) s
      have e2:4294967296 ^ d*s=4294967296 ^ d*c+4294967296 ^ d*a.getD d 0+4294967296 ^ d*b.getD d 0:=by rw [hs,Nat.mul_add,Nat.mul_add]
      omega
    have next:∀ s:Nat,s=c+a.getD d 0+b.getD d 0→Gg N K (Ad a) a.length t o (Ad b) b.length t' o' fuel n ((s/4294967296:Nat):Int) ((d+1:Nat):Int) (Ad (S.set d (s%4294967296)))=K (dig (val a+val b)).length (Ad (dig (val a+val b))):=by
      intro s hs
      exact Bj5 ha hb hla hlb hn hf m (d+1) fuel (S.set d (s%4294967296)) (s/4294967296) (by omega) (by omega) (B4 hS (by omega) d) (by simpa using hl) (Aef hz) (by omega) (step s hs) K
    have second:∀ w:Nat,w=c+a.getD d 0→Zu N (Gg N K (Ad a) a.length t o (Ad b) b.length t' o' fuel) K (Ad a) a.length t o (Ad b) b.length t' o' n (Ad S) (w:Int) (d:Int)=K (dig (val a+val b)).length (Ad (dig (val a+val b))):=by
      intro w hw
      unfold Zu Aon
      by_cases hdb:d<b.length
      · have hg:b.getD d 0=b[d]:=by rw [List.getD_eq_getElem?_getD,List.getElem?_eq_getElem hdb];rfl
        rw [ltT hdb,ct,Ah hdb,ct,rdl hdb,Ah (by omega),ct,st1 (by omega),ct,w64 (show b[d]<18446744073709551616 by omega),Ahi,w64 (show w+b[d]<18446744073709551616 by omega),A6m,Azr,Ar1,wS (by omega)]
        exact next _ (by rw [hw,hg])
      · have hg:b.getD d 0=0:=by rw [List.getD_eq_getElem?_getD,List.getElem?_eq_none (by omega)];rfl
        rw [ltF (by omega),cf,Ah (by omega),ct,st1 (by omega),ct,A6m,Azr,Ar1,wS (by omega)]
        exact next _ (by rw [hw,hg];rfl)
    rw [Gg];unfold Ab7
    rw [ltT (by omega),ct]
    by_cases hda:d<a.length
    · have hg:a.getD d 0=a[d]:=by rw [List.getD_eq_getElem?_getD,List.getElem?_eq_getElem hda];rfl
      rw [ltT hda,ct,Ah hda,ct,rdl hda,w64 (show a[d]<18446744073709551616 by omega),Ahi,w64 (show c+a[d]<18446744073709551616 by omega)]
      exact second _ (by rw [hg])
    · have hg:a.getD d 0=0:=by rw [List.getD_eq_getElem?_getD,List.getElem?_eq_none (by omega)];rfl
      rw [ltF (by omega),cf]
      exact second _ (by rw [hg];rfl)
theorem A6u {N:Nat} {a b:List Nat} {n m:Nat} {t o t' o':Bool} {K:Nat→LA→Option R} (hn:n=a.length) (hm:m=b.length) (ha:Ag a) (hb:Ag b) (hf:fit (a.length+b.length+1) N) :
    Aif N (Ad a) n t o (Ad b) m t' o' K=K (dig (val a+val b)).length (Ad (dig (val a+val b))):=by
  subst hn hm
  have h1:=hf.1;have h2:=hf.2
  rw [A71];unfold Bce Bcd
  rw [Bwn,wS (by omega),mk4 (by omega),ct,Int.toNat_natCast,Cf]
  exact Bj5 ha hb (n:=max a.length b.length+1) (by omega) (by omega) (Nat.le_refl _) (hf.le (by omega)) (max a.length b.length+1) 0 N (List.replicate (max a.length b.length+1) 0) 0 (by omega) (by omega) (B0 _) (by simp) (Jr _) (by omega) (by rw [C9];simp [val]) K
theorem Bj6 {N:Nat} {a b:List Nat} (ha:Ag a) (hb:Ag b) (hf:fit a.length N) (hab:b.length≤a.length) (hle:val b≤val a):∀ (m d fuel:Nat) (S:List Nat) (c:Nat),d+m=a.length→m<fuel→Ag S→S.length=a.length→zer S d→c≤1 →
    val S+val (b.take d)=val (a.take d)+4294967296 ^ d*c →
    ∀ K:Nat→Bool→LA→Option R,Gh N K a.length b.length (Ad a) (Ad b) fuel (c:Int) (d:Int) (Ad S)=K (dig (val a - val b)).length true (Ad (dig (val a - val b)))
  | 0,d,fuel+1,S,c,hd,_,hS,hl,hz,hc,hv=>by
    intro K
    have hd':d=a.length:=by omega
    subst hd'
    rw [List.take_length,List.take_of_length_le hab] at hv
    have hlt:=A7 hS
    rw [hl] at hlt
    have hc0:c=0:=by
      rcases Nat.lt_or_ge 0 c with h | h
      · exfalso
        have:c=1:=by omega
        subst this
        omega
      · omega
    subst hc0
    have hv2:val S=val a - val b:=by omega
    rw [Gh];unfold Aca
    rw [ltF (Nat.le_refl _),cf,Nat.mul_one,List.take_of_length_le (by rw [Bf];omega),Cq hl.symm hS (by rw [hl];exact hf),hv2]
  | m+1,d,fuel+1,S,c,hd,hfu,hS,hl,hz,hc,hv=>by
    intro K
    have h1:=hf.1;have h2:=hf.2
    have hda:d<a.length:=by omega
    have ad:=Ay ha hda
    have gb:=Y8 hb d
    have step:∀ y g c':Nat,y=c+b.getD d 0→a[d]+4294967296*c'=g+y→val (S.set d g)+val (b.take (d+1))=val (a.take (d+1))+4294967296 ^ (d+1)*c':=by
      intro y g c' hy hg
      rw [Uw hz (by omega),At hda,Ox b d,Nat.pow_succ,Nat.mul_assoc]
      have e:4294967296 ^ d*(a[d]+4294967296*c')=4294967296 ^ d*(g+(c+b.getD d 0)):=by rw [hg,hy]
      rw [Nat.mul_add,Nat.mul_add,Nat.mul_add] at e
      omega
    have next:∀ y g c':Nat,g<4294967296→c'≤1→y=c+b.getD d 0→a[d]+4294967296*c'=g+y→Gh N K a.length b.length (Ad a) (Ad b) fuel (c':Int) ((d+1:Nat):Int) (Ad (S.set d g))=K (dig (val a - val b)).length true (Ad (dig (val a - val b))):=by
      intro y g c' hg hc' hy he
      exact Bj6 ha hb hf hab hle m (d+1) fuel (S.set d g) c' (by omega) (by omega) (B4 hS hg d) (by simpa using hl) (Aef hz) hc' (step y g c' hy he) K
    have second:∀ y:Nat,y=c+b.getD d 0→Zw N (Gh N K a.length b.length (Ad a) (Ad b) fuel) K a.length b.length (Ad a) (Ad b) (Ad S) (d:Int) (y:Int)=K (dig (val a - val b)).length true (Ad (dig (val a - val b))):=by
      intro y hy
      unfold Zw Aor
      rw [Ah hda,ct,A29 hda,w64 (show a[d]<18446744073709551616 by omega)]
      by_cases hlt:a[d]<y
      · rw [ltT hlt,ct,ct,st1 (by omega),ct,show ((a[d]:Nat):Int)+4294967296=((a[d]+4294967296:Nat):Int) by omega,w64 (show a[d]+4294967296<18446744073709551616 by omega),A6l (by omega) (by omega),w32 (by omega),Ar1,wS (by omega)]
        exact next y (a[d]+4294967296 - y) 1 (by omega) (by omega) hy (by omega)
      · rw [ltF (by omega),cf,ct,st1 (by omega),ct,A6l (by omega) (by omega),w32 (by omega),Ar1,wS (by omega)]
        exact next y (a[d] - y) 0 (by omega) (by omega) hy (by omega)
    rw [Gh];unfold Aca
    rw [ltT hda,ct]
    by_cases hdb:d<b.length
    · have hg:b.getD d 0=b[d]:=by rw [List.getD_eq_getElem?_getD,List.getElem?_eq_getElem hdb];rfl
      rw [ltT hdb,ct,Ah hdb,ct,A29 hdb,w64 (show b[d]<18446744073709551616 by omega),Ahi,w64 (show c+b[d]<18446744073709551616 by omega)]
      exact second _ (by rw [hg])
    · have hg:b.getD d 0=0:=by rw [List.getD_eq_getElem?_getD,List.getElem?_eq_none (by omega)];rfl
      rw [ltF (by omega),cf]
      exact second _ (by rw [hg];rfl)
theorem A6v {N:Nat} {a b:List Nat} {n m:Nat} {t o t' o':Bool} {K:Nat→Bool→LA→Option R} (hn:n=a.length) (hm:m=b.length) (ha:Ag a) (hb:Ag b) (hf:fit (a.length+b.length) N) :
    Ail N (Ad a) n t o (Ad b) m t' o' K=if val b≤val a then K (dig (val a - val b)).length true (Ad (dig (val a - val b))) else K 0 false []:=by
  subst hn hm
  have h1:=hf.1;have h2:=hf.2
  have la:=(Bc ha).2
  have lb:=(Bc hb).2
  rw [A73];unfold Bcp Bco
  dsimp only
  rw [Bsm rfl rfl ha hb hf]
  by_cases hle:val b≤val a
  · have hll:=Bk hle
    rw [if_pos hle,show decide (Fu (val a) (val b)<0)=false by (unfold Fu;rw [if_neg (by omega)];split<;>rfl),cf,Cq rfl ha (hf.le (by omega)),Cq rfl hb (hf.le (by omega)),mk4 (by omega),ct,Cf]
    have:=Bj6 (R:=R) (N:=N) (a:=dig (val a)) (b:=dig (val b)) (Ab _) (Ab _) (hf.le (by omega)) hll (by rw [Af,Af];exact hle) (dig (val a)).length 0 N (List.replicate (dig (val a)).length 0) 0 (by omega) (by omega) (B0 _) (by simp) (Jr _) (by omega) (by rw [C9];simp [val]) K
    rw [Af,Af] at this
    exact this
  · rw [if_neg hle,show decide (Fu (val a) (val b)<0)=true by (unfold Fu;rw [if_pos (by omega)];rfl),ct]
theorem Bri {N:Nat} {x y:List Nat} {c d c' d':Bool} {f:Nat} (hx:Ag x) (hy:Ag y) (hf:f<x.length) (hs:x.length+y.length≤1000000000000):∀ (m l fuel:Nat) (S:List Nat) (p:Nat) (v:Nat),l+m=y.length→m<fuel→Ag S→S.length=x.length+y.length→zer S (f+y.length)→p<4294967296 →
    val S+4294967296 ^ (f+l)*p=v+4294967296 ^ f*(x[f]*val (y.take l)) →
    ∃ S',Ag S'∧S'.length=x.length+y.length∧val S'=v+4294967296 ^ f*(x[f]*val y)∧∀ (k1:Nat→Int→LA→Option R) (K:Nat→LA→Option R),Oa N k1 K (Ad x) x.length c d (Ad y) y.length c' d' (x.length+y.length) fuel (f:Int) (p:Int) (l:Int) (Ad S)=k1 (x.length+y.length) ((f+1:Nat):Int) (Ad S')
  | 0,l,fuel+1,S,p,v,hl,_,hS,hlen,hz,hp,hv=>by
    have hl':l=y.length:=by omega
    subst hl'
    rw [List.take_length] at hv
    refine ⟨S.set (f+y.length) p,B4 hS hp _,by simpa using hlen,by rw [Uw hz (by omega),hv],fun k1 K=>?_⟩
    rw [Oa];unfold Ac6
    rw [ltF (Nat.le_refl _),cf,wA (by omega),Ah (by omega),ct,st1 (by omega),ct,w32 hp,Ar1,wS (by omega)]
  | m+1,l,fuel+1,S,p,v,hl,hfu,hS,hlen,hz,hp,hv=>by
    have hly:l<y.length:=by omega
    have yl:=Ay hy hly
    have hq:=Ay hx hf
    have hi:f+l<S.length:=by omega
    have sl:=Ay hS hi
    have hw:=Bof hp hq yl sl
    have hqy:x[f]*y[l]<18446744073709551616:=by omega
    generalize hsd:p+(x[f]*y[l]+S[f+l])=s at *
    have hset:=A3d (v:=s%4294967296) hi
    have key:val (S.set (f+l) (s%4294967296))+4294967296 ^ (f+(l+1))*(s/4294967296)=v+4294967296 ^ f*(x[f]*val (y.take (l+1))):=by
      rw [At hly,← Nat.add_assoc f l 1,Nat.pow_succ]
      have e:=K4 (4294967296 ^ (f+l)) s
      have e2:4294967296 ^ (f+l)*s=4294967296 ^ (f+l)*p+(4294967296 ^ (f+l)*(x[f]*y[l])+4294967296 ^ (f+l)*S[f+l]):=by rw [← hsd,Nat.mul_add,Nat.mul_add]
      have e3:4294967296 ^ f*(x[f]*(val (y.take l)+4294967296 ^ l*y[l]))=4294967296 ^ f*(x[f]*val (y.take l))+4294967296 ^ (f+l)*(x[f]*y[l]):=by
        rw [Nat.mul_add,Nat.mul_add,Nat.pow_add]
        congr 1
        rw [Nat.mul_assoc];congr 1
        rw [← Nat.mul_assoc,← Nat.mul_assoc,Nat.mul_comm x[f]]
      omega
    obtain ⟨S',q1,q2,q3,q4⟩:=Bri (N:=N) (c:=c) (d:=d) (c':=c') (d':=d') hx hy hf hs m (l+1) fuel (S.set (f+l) (s%4294967296)) (s/4294967296) v (by omega) (by omega) (B4 hS (by omega) _) (by simpa using hlen) (fun j hj hk=>by
      rw [List.getElem_set,if_neg (by omega)];exact hz j (by simpa using hj) hk) (by omega) key
    refine ⟨S',q1,q2,q3,fun k1 K=>?_⟩
    rw [Oa];unfold Ac6
    rw [ltT hly,ct,wA (by omega),Ah (by omega),ct,A29 hi,Ah hf,ct,rdl hf,Ah hly,ct,rdl hly,ct,st1 hi,ct,w64 (show x[f]<18446744073709551616 by omega),w64 (show y[l]<18446744073709551616 by omega),w64 (show S[f+l]<18446744073709551616 by omega),Bga,w64 hqy,Ahi,Nat.add_comm S[f+l],w64 (by omega),Ahi,hsd,w64 hw,A6m,Azr,Ar1,wS (by omega)]
    exact q4 k1 K
theorem Bom {N:Nat} {x y:List Nat} {c d c' d':Bool} (hx:Ag x) (hy:Ag y) (hfit:fit (x.length+y.length) N):∀ (m f fuel:Nat) (S:List Nat),f+m=x.length→m<fuel→Ag S→S.length=x.length+y.length →
    val S=val (x.take f)*val y →
    ∀ K:Nat→LA→Option R,In N K (Ad x) x.length c d (Ad y) y.length c' d' fuel (x.length+y.length) (f:Int) (Ad S)=K (dig (val x*val y)).length (Ad (dig (val x*val y)))
  | 0,f,fuel+1,S,hf,_,hS,hlen,hv=>by
    intro K
    have hf':f=x.length:=by omega
    subst hf'
    rw [List.take_length] at hv
    rw [In];unfold Ac7
    rw [ltF (Nat.le_refl _),cf,Nat.mul_one,List.take_of_length_le (by rw [Bf];omega),Cq hlen.symm hS (by rw [hlen];exact hfit),hv]
  | m+1,f,fuel+1,S,hf,hfu,hS,hlen,hv=>by
    intro K
    have h1:=hfit.1;have h2:=hfit.2
    have hfx:f<x.length:=by omega
    have b1:=A7 (Bw hx f)
    rw [List.length_take,Nat.min_eq_left (by omega)] at b1
    have b2:=A7 hy
    have hbound:val S<4294967296 ^ (f+y.length):=by
      rw [hv,Nat.pow_add];exact Nat.mul_lt_mul'' b1 b2
    have hnext:val (x.take (f+1))*val y=val S+4294967296 ^ f*(x[f]*val y):=by
      rw [At hfx,Nat.add_mul,hv,Nat.mul_assoc]
    obtain ⟨S1,p1,p2,p3,p4⟩:=Bri (R:=R) (N:=N) (x:=x) (y:=y) (c:=c) (d:=d) (c':=c') (d':=d') (f:=f) hx hy hfx (by omega) y.length 0 N S 0 (val S) (by omega) (by omega) hS hlen (Bts hbound) (by omega) (by simp [val])
    rw [In];unfold Ac7
    rw [ltT hfx,ct]
    have:=p4 (In N K (Ad x) x.length c d (Ad y) y.length c' d' fuel) K
    simp only [Int.natCast_zero] at this
    dsimp only
    rw [this]
    exact Bom hx hy hfit m (f+1) fuel S1 (by omega) (by omega) p1 p2 (by rw [p3,hnext]) K
theorem Bsn {N:Nat} {a b:List Nat} {n m:Nat} {t o t' o':Bool} {K:Nat→LA→Option R} (hn:n=a.length) (hm:m=b.length) (ha:Ag a) (hb:Ag b) (hf:fit (a.length+b.length) N) :
    A1y N (Ad a) n t o (Ad b) m t' o' K=K (dig (val a*val b)).length (Ad (dig (val a*val b))):=by
  subst hn hm
  have h1:=hf.1;have h2:=hf.2
  rw [A8n];unfold Bem Bel
  rw [wA (by omega),mk4 (by omega),ct,Int.toNat_natCast,Cf]
  exact Bom ha hb hf a.length 0 N (List.replicate (a.length+b.length) 0) (by omega) (by omega) (B0 _) (by simp) (by rw [C9];simp [val]) K
end
end Gx

namespace Gx
open Go Go.Proofs
section
variable {R:Type}
theorem Bgp {N:Nat}:∀ (k fuel n v:Nat),v<2 ^ k→k<fuel→n+k≤1000000000000→∃ b:Nat,b≤k∧v<2 ^ b∧(v≠0→2 ^ b≤2*v)∧(v=0→b=0)∧∀ K:Int→Option R,Kf N K fuel (n:Int) (v:Int)=K ((n+b:Nat):Int)
  | 0,fuel+1,n,v,hv,_,_=>by
    have h0:v=0:=by simpa using hv
    subst h0
    refine ⟨0,by omega,by simp,fun h=>absurd rfl h,fun _=>rfl,fun K=>?_⟩
    rw [Kf];unfold O7
    rw [show decide (((0:Nat):Int)>0)=false by rfl,cf];rfl
  | k+1,fuel+1,n,v,hv,hf,hn=>by
    by_cases h0:v=0
    · subst h0
      refine ⟨0,by omega,by simp,fun h=>absurd rfl h,fun _=>rfl,fun K=>?_⟩
      rw [Kf];unfold O7
      rw [show decide (((0:Nat):Int)>0)=false by rfl,cf];rfl
    · obtain ⟨b,b1,b2,b3,b4,b5⟩:=Bgp (N:=N) k fuel (n+1) (v/2) (by rw [Nat.pow_succ] at hv;omega) (by omega) (by omega)
      refine ⟨b+1,by omega,by rw [Nat.pow_succ];omega,fun _=>?_,fun h=>absurd h h0,fun K=>?_⟩
      · by_cases h1:v/2=0
        · rw [b4 h1];simp;omega
        · have:=b3 h1;rw [Nat.pow_succ];omega
      · rw [Kf];unfold O7
        rw [show decide (((v:Nat):Int)>0)=true by rw [decide_eq_true_eq];omega,ct,wS (by omega),Q6 v 1,show v/2 ^ 1=v/2 by rfl,b5]
        congr 2;omega
theorem Bqe {N:Nat} {a:List Nat} {n:Nat} {t o:Bool} (hn:n=a.length) (ha:Ag a) (hf:fit a.length N):∃ nb:Nat,nb≤32*a.length∧val a<2 ^ nb∧(val a≠0→2 ^ nb≤2*val a)∧(val a=0→nb=0)∧∀ K:Int→Option R,Aol N (Ad a) n t o K=K (nb:Int):=by
  have h1:=hf.1;have h2:=hf.2
  have la:=(Bc ha).2
  by_cases h0:val a=0
  · refine ⟨0,by omega,by rw [h0];simp,fun h=>absurd h0 h,fun _=>rfl,fun K=>?_⟩
    rw [Aic];unfold Ass Asr
    rw [Cq hn ha hf,h0,C3];rfl
  · have hl:(dig (val a)).length≠0:=fun h=>h0 (Bd.1 h)
    obtain ⟨k,hk⟩:∃ k,(dig (val a)).length=k+1:=⟨(dig (val a)).length - 1,by omega⟩
    have top:=Ay (Ab (val a)) (show k<(dig (val a)).length by omega)
    have htop0:(dig (val a))[k]'(by omega)≠0:=by
      have:=Bf9 (val a) (Azq h0)
      rw [List.getLast_eq_getElem] at this
      simp only [hk,Nat.add_sub_cancel] at this
      exact this
    have tf:=Ahn hk
    have tl:=Ama (Ab (val a)) hk
    rw [Af] at tf tl
    obtain ⟨b,b1,b2,b3,b4,b5⟩:=Bgp (R:=R) (N:=N) 32 N (32*k) ((dig (val a))[k]'(by omega)) (by exact top) (by omega) (by omega)
    have hp:(2:Nat) ^ (32*k+b)=4294967296 ^ k*2 ^ b:=by rw [Nat.pow_add,Nat.pow_mul]
    refine ⟨32*k+b,by omega,?_,fun _=>?_,fun h=>absurd h h0,fun K=>?_⟩
    · rw [hp]
      have:((dig (val a))[k]'(by omega)+1)*4294967296 ^ k≤2 ^ b*4294967296 ^ k:=Nat.mul_le_mul_right _ b2
      rw [Nat.mul_comm (2 ^ b)] at this;omega
    · rw [hp]
      have:=Nat.mul_le_mul_left (4294967296 ^ k) (b3 htop0)
      rw [Nat.mul_left_comm] at this
      omega
    · rw [Aic];unfold Ass Asr
      have w1:IntKind.wrap .i64 ((((dig (val a)).length:Nat):Int) - 1)=((k:Nat):Int):=by rw [i64 (by omega)];omega
      have w2:IntKind.wrap .i64 ((32:Int)*((k:Nat):Int))=((32*k:Nat):Int):=by rw [i64 (by omega)];omega
      rw [Cq hn ha hf,i0F hl,cf,w1,Ah (by omega),ct,A29 (by omega),w2]
      exact b5 K
theorem Bon {a:List Nat} {j:Nat} (h:j<a.length):val a=val (a.take j)+4294967296 ^ j*(a[j]+4294967296*val (a.drop (j+1))):=by
  have:=Oc (a.take j) (a.drop j)
  rw [List.take_append_drop,List.length_take,Nat.min_eq_left (by omega),Ar5 h] at this
  exact this
theorem A6w (j k:Nat):(2:Nat) ^ (32*j+k)=4294967296 ^ j*2 ^ k:=by rw [Nat.pow_add,Nat.pow_mul]
theorem Buv {a:List Nat} {j k:Nat} (ha:Ag a) (h:j<a.length) (hk:k<32):val a/2 ^ (32*j+k)%2=a[j]/2 ^ k%2:=by
  have tl:=A7 (Bw ha j)
  rw [List.length_take,Nat.min_eq_left (by omega)] at tl
  have hP:0<4294967296 ^ j:=Nat.pow_pos (by omega)
  have hp:0<2 ^ k:=Nat.pow_pos (by omega)
  rw [A6w,← Nat.div_div_eq_div_mul,Bon h,Nat.add_mul_div_left _ _ hP,Nat.div_eq_of_lt tl,Nat.zero_add]
  have e:4294967296=2 ^ k*(2*2 ^ (31 - k)):=by rw [← Nat.pow_succ',← Nat.pow_add,show k+(31 - k+1)=32 by omega]
  have e2:4294967296*val (a.drop (j+1))=2 ^ k*(2*(2 ^ (31 - k)*val (a.drop (j+1)))):=by
    rw [← Nat.mul_assoc 2,← Nat.mul_assoc,← e]
  rw [e2,Nat.add_mul_div_left _ _ hp,Nat.add_mul_mod_self_left]
theorem Bso {N:Nat} {a:List Nat} {n:Nat} {t o:Bool} {i:Nat} {K:Int→Option R} (hn:n=a.length) (ha:Ag a) (hi:i<32*a.length) (hs:a.length≤1000000000):A0q N (Ad a) n t o (i:Int) K=K ((val a/2 ^ i%2:Nat):Int):=by
  subst hn
  have hj:i/32<a.length:=by omega
  have aj:=Ay ha hj
  rw [A72];unfold Bck Bcj
  have w1:IntKind.wrap .i64 (Int.tdiv ((i:Nat):Int) 32)=((i/32:Nat):Int):=by rw [show (32:Int)=((32:Nat):Int) by rfl,Av9,i64 (by omega)]
  have w2:IntKind.wrap .u64 (Int.tmod ((i:Nat):Int) 32)=((i%32:Nat):Int):=by rw [show (32:Int)=((32:Nat):Int) by rfl,Ar4,w64 (by omega)]
  rw [w1,w2,show decide (((i/32:Nat):Int)≥((a.length:Nat):Int))=false by rw [decide_eq_false_iff_not];omega,cf,Ah hj,ct,rdl hj,show decide (((i%32:Nat):Int)<0)=false by rw [decide_eq_false_iff_not];omega,cf,Int.toNat_natCast,Nat.min_eq_left (by omega),Q6]
  have hle:a[i/32]/2 ^ (i%32)<4294967296:=Nat.lt_of_le_of_lt (Nat.div_le_self _ _) aj
  have e:=Bp7 (k:=.u32) rfl (a:=a[i/32]/2 ^ (i%32)) (b:=1) hle (by decide)
  rw [show (1:Int)=((1:Nat):Int) by rfl,e,Nat.and_one_is_mod]
  have:=Buv ha hj (k:=i%32) (by omega)
  rw [Nat.div_add_mod] at this
  rw [this]
theorem Bt3 {Q:List Nat} {j k:Nat} (hQ:Ag Q) (h:j<Q.length) (hk:k<32) (hd:2 ^ (32*j+k+1)∣val Q):2 ^ (k+1)∣Q[j]:=by
  have tl:=A7 (Bw hQ j)
  rw [List.length_take,Nat.min_eq_left (by omega)] at tl
  have hP:0<4294967296 ^ j:=Nat.pow_pos (by omega)
  rw [Nat.add_assoc,A6w,Bon h] at hd
  have h0:val (Q.take j)=0:=by
    have x1:4294967296 ^ j∣val (Q.take j):=(Nat.dvd_add_left (Nat.dvd_mul_right _ _)).1 (Nat.dvd_trans (Nat.dvd_mul_right _ _) hd)
    exact Nat.eq_zero_of_dvd_of_lt x1 tl
  rw [h0,Nat.zero_add] at hd
  have x2:=Nat.dvd_of_mul_dvd_mul_left hP hd
  have x3:2 ^ (k+1)∣4294967296*val (Q.drop (j+1)):=Nat.dvd_trans ⟨2 ^ (31 - k),by rw [← Nat.pow_add,show k+1+(31 - k)=32 by omega]⟩ (Nat.dvd_mul_right _ _)
  exact (Nat.dvd_add_left x3).1 x2
theorem A6x {N:Nat} {a b:List Nat} {t o:Bool} {B:Nat} (ha:Ag a) (hb:b=dig B) (hB:0<B) (hf:fit (a.length+2*b.length+4) N):∀ (i fuel:Nat) (Q:List Nat) (r:Nat),i<fuel→i≤32*a.length→Ag Q→Q.length=a.length→r=val a/2 ^ i%B→val Q=val a/2 ^ i/B*2 ^ i →
    ∀ K:Nat→Nat→Bool→LA→LA→Option R,C6 N K (Ad a) a.length t o b.length (Ad b) fuel (dig r).length ((i:Int) - 1) (Ad Q) (Ad (dig r))=K (dig (val a/B)).length (dig (val a%B)).length true (Ad (dig (val a/B))) (Ad (dig (val a%B)))
  | 0,fuel+1,Q,r,_,_,hQ,hl,hr,hv=>by
    intro K
    rw [Nat.pow_zero,Nat.div_one] at hr hv
    rw [Nat.mul_one] at hv
    have lr:(dig r).length≤b.length:=by
      rw [hb];apply Bk;rw [hr];exact Nat.le_of_lt (Nat.mod_lt _ hB)
    rw [C6];unfold Pa
    rw [show decide ((((0:Nat):Int) - 1)≥0)=false by rfl,cf,Nat.mul_one,List.take_of_length_le (by rw [Bf];omega),Cq hl.symm hQ (by rw [hl];exact hf.le (by omega)),Nat.mul_one,List.take_of_length_le (by rw [Bf];omega),Cq rfl (Ab _) (hf.le (by omega)),Af,hv,hr]
  | i+1,fuel+1,Q,r,hfu,hi,hQ,hl,hr,hv=>by
    intro K
    have h1:=hf.1;have h2:=hf.2
    have hrB:r<B:=by rw [hr];exact Nat.mod_lt _ hB
    have lr:(dig r).length≤b.length:=by rw [hb];exact Bk (Nat.le_of_lt hrB)
    have hhalf:val a/2 ^ i=2*(val a/2 ^ (i+1))+val a/2 ^ i%2:=by
      have:=Nat.div_add_mod (val a/2 ^ i) 2
      rw [Nat.div_div_eq_div_mul,← Nat.pow_succ] at this
      exact this.symm
    have hdm:=Nat.div_add_mod (val a/2 ^ (i+1)) B
    have hb2:val a/2 ^ i%2<2:=Nat.mod_lt _ (by omega)
    generalize hH:val a/2 ^ (i+1)=H at *
    generalize hbit:val a/2 ^ i%2=bt at *
    have hsum:val a/2 ^ i=B*(2*(H/B))+(2*r+bt):=by
      rw [hhalf,hr,Nat.mul_left_comm];omega
    clear hr hdm hhalf
    have hj:i/32<Q.length:=by omega
    have qj:=Ay hQ hj
    have hdvd:2 ^ (32*(i/32)+i%32+1)∣val Q:=by rw [Nat.div_add_mod,hv];exact Nat.dvd_mul_left _ _
    have hfree:=Bt3 hQ hj (Nat.mod_lt _ (by omega)) hdvd
    have hpw:2 ^ i=4294967296 ^ (i/32)*2 ^ (i%32):=by rw [← A6w,Nat.div_add_mod]
    have hpk:2 ^ (i%32+1)≤4294967296:=(Nat.pow_le_pow_right (by omega) (show i%32+1≤32 by omega):2 ^ (i%32+1)≤2 ^ 32)
    have hor:Of .u32 ((Q[i/32]:Nat):Int) (IntKind.wrap .u32 ((1:Int)*2 ^ (min (Int.toNat ((i%32:Nat):Int)) 32)))=((Q[i/32]+2 ^ (i%32):Nat):Int)∧Q[i/32]+2 ^ (i%32)<4294967296:=by
      obtain ⟨c,hc⟩:=hfree
      have hpos:0<2 ^ (i%32):=Nat.pow_pos (by omega)
      have hlt:Q[i/32]+2 ^ (i%32)<4294967296:=by
        obtain ⟨w,hw⟩:∃ w,4294967296=2 ^ (i%32+1)*w:=⟨2 ^ (31 - i%32),by rw [← Nat.pow_add,show i%32+1+(31 - i%32)=32 by omega]⟩
        have x1:c<w:=by rw [hc,hw] at qj;exact Nat.lt_of_mul_lt_mul_left qj
        have x2:=Nat.mul_le_mul_left (2 ^ (i%32+1)) (show c+1≤w from x1)
        rw [Nat.mul_add,← hw,← hc,Nat.mul_one,Nat.pow_succ] at x2
        omega
      refine ⟨?_,hlt⟩
      rw [Int.toNat_natCast,Nat.min_eq_left (by omega),Int.one_mul,show (2:Int) ^ (i%32)=((2 ^ (i%32):Nat):Int) by simp,w32 (by rw [Nat.pow_succ] at hpk;omega),Bjt (k:=.u32) rfl qj (by show 2 ^ (i%32)<4294967296;rw [Nat.pow_succ] at hpk;omega)]
      congr 1
      have e:Q[i/32]=c*2 ^ (i%32+1):=by rw [hc,Nat.mul_comm]
      rw [e];exact A6n (by rw [Nat.pow_succ];omega)
    have w1:IntKind.wrap .i64 (Int.tdiv ((i:Nat):Int) 32)=((i/32:Nat):Int):=by rw [show (32:Int)=((32:Nat):Int) by rfl,Av9,i64 (by omega)]
    have w2:IntKind.wrap .u64 (Int.tmod ((i:Nat):Int) 32)=((i%32:Nat):Int):=by rw [show (32:Int)=((32:Nat):Int) by rfl,Ar4,w64 (by omega)]
    have l2:(dig (2*r+bt)).length≤b.length+1:=by
      apply Dd
      have x1:=A7 (Ab B)
      rw [Af,← hb] at x1
      rw [Nat.pow_succ];omega
    have second:Je N (C6 N K (Ad a) a.length t o b.length (Ad b) fuel) K (Ad a) a.length t o b.length ((i:Nat):Int) (Ad b) (Ad Q) (dig (2*r+bt)).length (Ad (dig (2*r+bt)))=K (dig (val a/B)).length (dig (val a%B)).length true (Ad (dig (val a/B))) (Ad (dig (val a%B))):=by
      unfold Je Zx
      have lb:Ag b:=by rw [hb];exact Ab _
      have vb:val b=B:=by rw [hb,Af]
      rw [Nat.mul_one,Nat.mul_one,List.take_of_length_le (by rw [Bf];omega),List.take_of_length_le (by rw [Bf];omega),A6v rfl rfl (Ab _) lb (hf.le (by omega)),Af,vb]
      by_cases hge:B≤2*r+bt
      · have hq1 : val a / 2 ^ i / B = 2 * (H / B) + 1 := by
          rw [hsum,show B*(2*(H/B))+(2*r+bt)=B*(2*(H/B)+1)+(2*r+bt - B) by rw [Nat.mul_add];omega,Nat.mul_add_div hB,Nat.div_eq_of_lt (show 2*r+bt - B<B by omega),Nat.add_zero]
        have hm1:val a/2 ^ i%B=2*r+bt - B:=by
          rw [hsum,show B*(2*(H/B))+(2*r+bt)=B*(2*(H/B)+1)+(2*r+bt - B) by rw [Nat.mul_add];omega,Nat.mul_add_mod,Nat.mod_eq_of_lt (by omega)]
        rw [if_pos hge,ct,w1,w2,Ah (by omega),ct,A29 hj,show decide (((i%32:Nat):Int)<0)=false by rw [decide_eq_false_iff_not];omega,cf,ct,st1 hj,ct,hor.1,Ar1,i64 (by omega)]
        refine A6x ha hb hB hf i fuel (Q.set (i/32) (Q[i/32]+2 ^ (i%32))) (2*r+bt - B) (by omega) (by omega) (B4 hQ hor.2 _) (by simpa using hl) hm1.symm ?_ K
        have x1:=A3d (v:=Q[i/32]+2 ^ (i%32)) hj
        rw [Nat.mul_add,← hpw] at x1
        rw [hq1,Nat.add_mul,Nat.one_mul,Nat.mul_comm 2,Nat.mul_assoc,Nat.mul_comm 2,← Nat.pow_succ,← hv]
        omega
      · have hq1:val a/2 ^ i/B=2*(H/B):=by rw [hsum,Nat.mul_add_div hB,Nat.div_eq_of_lt (show 2*r+bt<B by omega),Nat.add_zero]
        have hm1:val a/2 ^ i%B=2*r+bt:=by rw [hsum,Nat.mul_add_mod,Nat.mod_eq_of_lt (by omega)]
        rw [if_neg hge,cf,i64 (by omega)]
        refine A6x ha hb hB hf i fuel Q (2*r+bt) (by omega) (by omega) hQ hl hm1.symm ?_ K
        rw [hq1,Nat.mul_comm 2,Nat.mul_assoc,Nat.mul_comm 2,← Nat.pow_succ,← hv]
    rw [C6];unfold Pa
    rw [show (((i+1:Nat):Int) - 1)=((i:Nat):Int) by omega,show decide (((i:Nat):Int)≥0)=true by rw [decide_eq_true_eq];omega,ct,Nat.mul_one,List.take_of_length_le (by rw [Bf];omega),A6u rfl rfl (Ab _) (Ab _) (hf.le (by omega)),Af,Bso rfl ha (by omega) (by omega),hbit]
    have l3:(dig (r+r)).length≤b.length+1:=by
      apply Dd
      have x1:=A7 (Ab B)
      rw [Af,← hb] at x1
      rw [Nat.pow_succ];omega
    rcases (show bt=0∨bt=1 by omega) with rfl | rfl
    · rw [show (((0:Nat):Int)==1)=false by rfl,cf]
      rw [show 2*r+0=r+r by omega] at second
      exact second
    · rw [show (((1:Nat):Int)==1)=true by rfl,ct,Nat.mul_one,List.take_of_length_le (by rw [Bf];omega)]
      have:=A6u (R:=R) (N:=N) (a:=dig (r+r)) (b:=[1]) (n:=(dig (r+r)).length) (m:=1) (t:=false) (o:=true) (t':=false) (o':=true) (K:=fun af ag=>Je N (C6 N K (Ad a) a.length t o b.length (Ad b) fuel) K (Ad a) a.length t o b.length ((i:Nat):Int) (Ad b) (Ad Q) af ag) rfl rfl (Ab _) (by intro x hx;simp at hx;omega) (hf.le (by simp;omega))
      rw [Af,show val [1]=1 by rfl,show r+r+1=2*r+1 by omega] at this
      exact this.trans second
end
end Gx

namespace Gx
open Go Go.Proofs
section
variable {R:Type}
theorem Amc {N:Nat} {a b:List Nat} {n m:Nat} {t o t' o':Bool} {K:Nat→Nat→Bool→LA→LA→Option R} (hn:n=a.length) (hm:m=b.length) (ha:Ag a) (hb:Ag b) (hb0:val b≠0) (hf:fit (a.length+2*b.length+4) N) :
    Rn N (Ad a) n t o (Ad b) m t' o' K=K (dig (val a/val b)).length (dig (val a%val b)).length true (Ad (dig (val a/val b))) (Ad (dig (val a%val b))):=by
  have h1:=hf.1;have h2:=hf.2
  have lb:=(Bc hb).2
  have hbl:(dig (val b)).length≠0:=fun h=>hb0 (Bd.1 h)
  rw [Aou];unfold Aot Aos
  dsimp only
  have long:Tm N K (Ad a) n t o (dig (val b)).length (Ad (dig (val b)))=K (dig (val a/val b)).length (dig (val a%val b)).length true (Ad (dig (val a/val b))) (Ad (dig (val a%val b))):=by
    obtain ⟨nb,n1,n2,n3,n4,n5⟩:=Bqe (R:=R) (N:=N) (a:=a) (n:=n) (t:=false) (o:=o) hn ha (hf.le (by omega))
    unfold Tm Zy
    dsimp only
    rw [n5,hn,mk4 (by omega),ct,Cf,i64 (by omega)]
    have hz:val a/2 ^ nb=0:=Nat.div_eq_of_lt n2
    have:=A6x (R:=R) (N:=N) (a:=a) (b:=dig (val b)) (t:=t) (o:=o) (B:=val b) ha rfl (by omega) (hf.le (by omega)) nb N (List.replicate a.length 0) 0 (by omega) n1 (B0 _) (by simp) (by rw [hz];simp) (by rw [hz,C9];simp) K
    exact this
  rw [Cq hm hb (hf.le (by omega)),i0F hbl,cf,Amb hn ha (hf.le (by omega)),Nat.mul_one,List.take_of_length_le (by rw [Bf];exact Nat.le_refl _)]
  by_cases ha2:val a<18446744073709551616
  · rw [if_pos ha2,Amb rfl (Ab _) (hf.le (by omega)),Af]
    by_cases hb2:val b<18446744073709551616
    · have q64:val a/val b<18446744073709551616:=Nat.lt_of_le_of_lt (Nat.div_le_self _ _) ha2
      have r64:val a%val b<18446744073709551616:=Nat.lt_of_le_of_lt (Nat.mod_le _ _) ha2
      rw [if_pos hb2,show ((true:Bool)==true)=true by rfl,ct,ctB,ct,i0F hb0,cf,Av9,w64 q64,Aeg q64 (by omega),cf,Ar4,Aeg r64 (by omega)]
    · rw [if_neg hb2,show ((true:Bool)==true)=true by rfl,ct,ctB,cf,long]
  · rw [if_neg ha2,Amb rfl (Ab _) (hf.le (by omega)),Af]
    by_cases hb2:val b<18446744073709551616
    · rw [if_pos hb2,show ((false:Bool)==true)=false by rfl,cf,long]
    · rw [if_neg hb2,show ((false:Bool)==true)=false by rfl,cf,long]
theorem Bsp {N:Nat}:∀ (k fuel A B:Nat),k<fuel→A*B<2 ^ k→B<A→fit (3*(dig A).length+4) N→∀ K:Nat→LA→Option R,Dn N K fuel (dig A).length (dig B).length (Ad (dig A)) (Ad (dig B))=K (dig (Nat.gcd A B)).length (Ad (dig (Nat.gcd A B))):=by
  have base:∀ (fuel A:Nat) (K:Nat→LA→Option R),Dn N K (fuel+1) (dig A).length (dig 0).length (Ad (dig A)) (Ad (dig 0))=K (dig (Nat.gcd A 0)).length (Ad (dig (Nat.gcd A 0))):=by
    intro fuel A K
    rw [Dn];unfold Oj
    rw [C3,show decide ((((([]:List Nat).length:Nat)):Int)>0)=false by decide,cf,Nat.gcd_zero_right]
  intro k
  induction k with
  | zero =>
    intro fuel A B hfu hxy hle hf K
    obtain ⟨fuel,rfl⟩:∃ F,fuel=F+1:=⟨fuel - 1,by omega⟩
    have hy:B=0:=by
      rcases Nat.eq_zero_or_pos B with h | h
      · exact h
      · have h3:=Nat.mul_le_mul_left A (show 1≤B by omega)
        rw [Nat.pow_zero] at hxy;omega
    subst hy
    exact base fuel A K
  | succ k ih =>
    intro fuel A B hfu hxy hle hf K
    have h1:=hf.1;have h2:=hf.2
    obtain ⟨fuel,rfl⟩:∃ F,fuel=F+1:=⟨fuel - 1,by omega⟩
    rcases Nat.eq_zero_or_pos B with h | h
    · subst h;exact base fuel A K
    have hll:=Bk (Nat.le_of_lt hle)
    have hbl:(dig B).length≠0:=fun h0=>by have:=Bd.1 h0;omega
    have hm:=Nat.mod_lt A h
    have hh:=Ar7 (show 1≤B by omega) (Nat.le_of_lt hle)
    have:=ih fuel B (A%B) (by omega) (by rw [Nat.pow_succ] at hxy;omega) hm (hf.le (by omega)) K
    have hg:Nat.gcd B (A%B)=Nat.gcd A B:=by rw [Nat.gcd_comm,← Nat.gcd_rec,Nat.gcd_comm]
    rw [hg] at this
    rw [Dn];unfold Oj
    rw [show decide ((((dig B).length:Nat):Int)>0)=true by rw [decide_eq_true_eq];omega,ct,Nat.mul_one,Nat.mul_one,List.take_of_length_le (by rw [Bf];exact Nat.le_refl _),List.take_of_length_le (by rw [Bf];exact Nat.le_refl _),Amc rfl rfl (Ab _) (Ab _) (by rw [Af];omega) (hf.le (by omega)),Af,Af]
    exact this
theorem Bsq {N:Nat} {a b:List Nat} {n m:Nat} {t o t' o':Bool} {K:Nat→LA→Option R} (hn:n=a.length) (hm:m=b.length) (ha:Ag a) (hb:Ag b) (hf:fit (3*(a.length+b.length)+4) N) :
    A0s N (Ad a) n t o (Ad b) m t' o' K=K (dig (Nat.gcd (val a) (val b))).length (Ad (dig (Nat.gcd (val a) (val b)))):=by
  have h1:=hf.1;have h2:=hf.2
  have la:=(Bc ha).2
  have lb:=(Bc hb).2
  have hprod:val a*val b<2 ^ (32*(a.length+b.length)):=by rw [← Bok];exact Nat.mul_lt_mul'' (A7 ha) (A7 hb)
  rw [A74];unfold Bcw Bcv
  dsimp only
  rw [Cq hn ha (hf.le (by omega)),Cq hm hb (hf.le (by omega))]
  obtain ⟨F,hF⟩:∃ F,N=F+1:=⟨N - 1,by omega⟩
  rcases Nat.eq_zero_or_pos (val b) with h | h
  · rw [h,C3,Nat.gcd_zero_right,hF,Dn];unfold Oj
    rw [show decide ((((([]:List Nat).length:Nat)):Int)>0)=false by decide,cf]
  · have hm':=Nat.mod_lt (val a) h
    have hbl:(dig (val b)).length≠0:=fun h0=>by have:=Bd.1 h0;omega
    have hprod2:val b*(val a%val b)<2 ^ (32*(a.length+b.length)):=by
      have:val b*(val a%val b)≤val b*val a:=Nat.mul_le_mul_left _ (Nat.mod_le _ _)
      rw [Nat.mul_comm (val b) (val a)] at this;omega
    have:=Bsp (R:=R) (N:=N) (32*(a.length+b.length)) F (val b) (val a%val b) (by omega) hprod2 hm' (hf.le (by omega)) K
    have hg:Nat.gcd (val b) (val a%val b)=Nat.gcd (val a) (val b):=by rw [Nat.gcd_comm,← Nat.gcd_rec,Nat.gcd_comm]
    rw [hg] at this
    have e:Dn N K (F+1) (dig (val a)).length (dig (val b)).length (Ad (dig (val a))) (Ad (dig (val b)))=Dn N K F (dig (val b)).length (dig (val a%val b)).length (Ad (dig (val b))) (Ad (dig (val a%val b))):=by
      rw [Dn];unfold Oj
      rw [show decide ((((dig (val b)).length:Nat):Int)>0)=true by rw [decide_eq_true_eq];omega,ct,Nat.mul_one,Nat.mul_one,List.take_of_length_le (by rw [Bf];exact Nat.le_refl _),List.take_of_length_le (by rw [Bf];exact Nat.le_refl _),Amc rfl rfl (Ab _) (Ab _) (by rw [Af];omega) (hf.le (by omega)),Af,Af]
    conv=>lhs;rw [show (Dn N K N)=Dn N K (F+1) by rw [← hF]]
    rw [e];exact this
end
end Gx

namespace Gx
open Go Go.Proofs
section
variable {R:Type}
inductive LS where
  | nil
  | of (l:List Nat) (t o:Bool)
def LS.l:LS→List Nat
  | .nil=>[]
  | .of l _ _=>l
def LS.av:LS→AV
  | .nil=>.nsl
  | .of l t o=>.imm (Ad l) l.length 1 t o
theorem Bqf {s:LS} {r:List AV} {f:List AV→Nat→Option R}:rdL 1 (s.av::r) f=f (Ad s.l) s.l.length:=by
  cases s<;>simp [rdL,LS.av,LS.l,Bsy,Ad]
theorem Bvm {b:Bool} {r:List AV} {f:Bool→Option R}:rdB (.bool b::r) f=f b:=by simp [rdB,asBool]
def Hw (neg:Bool) (s:LS):List AV:=[.bool neg,s.av]
def Ap (neg:Bool) (s:LS):Int:=if neg then -(val s.l:Int) else (val s.l:Int)
theorem B7 (neg:Bool) (s:LS):(Ap neg s).natAbs=val s.l:=by unfold Ap;cases neg<;>simp
theorem Q7 {neg:Bool} {s:LS} {f:Bool→Option R}:rdB (Hw neg s) f=f neg:=Bvm
theorem Mo {neg:Bool} {s:LS} {f:List AV→Nat→Option R}:rdL 1 (List.drop 1 (Hw neg s)) f=f (Ad s.l) s.l.length:=by rw [Hw,List.drop_succ_cons,List.drop_zero,Bqf]
theorem K6 {N:Nat} {c:Bool} {a:Nat} {b:LA} {K:Bool→Option R}:Hf N c a b K=K (c&&decide (0<a)):=by
  rw [Au1];unfold Axh Axg
  cases c<;>simp
theorem Y9 {z:Int} {c:Bool} {m:Nat} (h:z=if c then -(m:Int) else (m:Int)):(c&&decide (0<(dig m).length))=decide (z<0)∧z.natAbs=m:=by
  have hz:z.natAbs=m:=by rw [h];cases c<;>simp
  refine ⟨?_,hz⟩
  by_cases h0:m=0
  · subst h0;rw [h,C3];cases c<;>simp
  · have : 0 < (dig m).length := by
      rcases Nat.eq_zero_or_pos (dig m).length with h1 | h1
      · exact absurd (Bd.1 h1) h0
      · exact h1
    rw [h];cases c<;>simp [this]<;>omega
theorem Bh0 {N:Nat} {v:Int} (hv:-9223372036854775808≤v∧v≤9223372036854775807) (hN:4≤N):∃ S,Ag S∧val S=v.natAbs∧∀ K:Bool→Nat→LA→Option R,Z4 N v K=K (decide (v<0)) (dig v.natAbs).length (Ad S):=by
  have hb:v.natAbs<18446744073709551616:=by omega
  obtain ⟨S,s1,s2,s3⟩:=Iw (R:=R) (N:=N) hb hN
  refine ⟨S,s1,s2,fun K=>?_⟩
  rw [Ao6];unfold Ao5 Ao4
  by_cases h:v<0
  · have e:IntKind.wrap .u64 ((0:Int) - IntKind.wrap .u64 v)=(v.natAbs:Int):=by rw [Azs,Azs];omega
    rw [decide_eq_true h,ct,e,s3,K6]
    have h0:v.natAbs≠0:=by omega
    have:0<(dig v.natAbs).length:=by
      rcases Nat.eq_zero_or_pos (dig v.natAbs).length with h1 | h1
      · exact absurd (Bd.1 h1) h0
      · exact h1
    simp [this]
  · have e:IntKind.wrap .u64 v=(v.natAbs:Int):=by rw [Azs];omega
    rw [decide_eq_false h,cf,e,s3,K6];rfl
theorem Azu {N:Nat} {neg:Bool} {s:LS} {o:Bool} {K:Int→Option R} (hs:Ag s.l) (hf:fit s.l.length N):Ai7 N (Hw neg s) o K=K (Ap neg s).sign:=by
  rw [A8c];unfold Bdi Bdh
  rw [Mo,Bgj rfl hs hf]
  unfold Ap
  by_cases h:val s.l=0
  · rw [h,Y7,show ((0:Int)==0)=true by rfl,ct];cases neg<;>rfl
  · have:Fu (val s.l) 0=1:=by unfold Fu;rw [if_neg (by omega),if_pos (by omega)]
    rw [this,show ((1:Int)==0)=false by rfl,cf,Q7]
    cases neg
    · rw [cf];simp only [Bool.false_eq_true,if_false]
      congr 1
      rw [Int.sign_eq_one_of_pos];omega
    · rw [ct];simp only [if_true]
      congr 1
      rw [Int.sign_eq_neg_one_of_neg];omega
theorem Aho {N:Nat} {n1 n2:Bool} {s1 s2:LS} {o1 o2:Bool} (h1:Ag s1.l) (h2:Ag s2.l) (hf:fit (s1.l.length+s2.l.length) N):∃ S,Ag S∧val S=(Ap n1 s1*Ap n2 s2).natAbs∧∀ K:Bool→Nat→LA→Option R,Ajk N (Hw n1 s1) o1 (Hw n2 s2) o2 K=K (decide (Ap n1 s1*Ap n2 s2<0)) (dig (Ap n1 s1*Ap n2 s2).natAbs).length (Ad S):=by
  obtain ⟨S,a1,a2,a3⟩:=Ar3 (R:=R) (N:=N) (a:=s1.l) (b:=s2.l) (t:=false) (o:=o1) (t':=false) (o':=o2) rfl rfl h1 h2 hf
  have hz:Ap n1 s1*Ap n2 s2=if (!(n1==n2)) then -((val s1.l*val s2.l:Nat):Int) else ((val s1.l*val s2.l:Nat):Int):=by
    unfold Ap;cases n1<;>cases n2<;>simp [Int.mul_neg,Int.neg_mul]
  obtain ⟨c1,c2⟩:=Y9 hz
  refine ⟨S,a1,by rw [a2,c2],fun K=>?_⟩
  rw [Bdt];unfold Blh Blg
  rw [Q7,Q7,Mo,Mo,a3,K6,c1,c2]
theorem Bj7 {N:Nat} {n1 n2:Bool} {s1 s2:LS} {o1 o2:Bool} (h1:Ag s1.l) (h2:Ag s2.l) (hf:fit (s1.l.length+s2.l.length+1) N):∃ S,Ag S∧val S=(Ap n1 s1+Ap n2 s2).natAbs∧∀ K:Bool→Nat→LA→Option R,A5f N (Hw n1 s1) o1 (Hw n2 s2) o2 K=K (decide (Ap n1 s1+Ap n2 s2<0)) (dig (Ap n1 s1+Ap n2 s2).natAbs).length (Ad S):=by
  by_cases hn:n1=n2
  · subst hn
    obtain ⟨S,a1,a2,a3⟩:=Btq (R:=R) (N:=N) (a:=s1.l) (b:=s2.l) (t:=false) (o:=o1) (t':=false) (o':=o2) rfl rfl h1 h2 hf
    have hz:Ap n1 s1+Ap n1 s2=if n1 then -((val s1.l+val s2.l:Nat):Int) else ((val s1.l+val s2.l:Nat):Int):=by
      unfold Ap;cases n1<;>simp;omega
    obtain ⟨c1,c2⟩:=Y9 hz
    refine ⟨S,a1,by rw [a2,c2],fun K=>?_⟩
    rw [Aj3];unfold A1o A1n
    rw [Q7,Q7,show (n1==n1)=true by simp,ct,Q7,Mo,Mo,a3,K6,c1,c2]
  · have hne:(n1==n2)=false:=by simp [hn]
    by_cases hle:val s2.l≤val s1.l
    · obtain ⟨S,a1,a2,a3⟩:=Bgm (R:=R) (N:=N) (a:=s1.l) (b:=s2.l) (t:=false) (o:=o1) (t':=false) (o':=o2) rfl rfl h1 h2 (hf.le (by omega)) hle
      have hz:Ap n1 s1+Ap n2 s2=if n1 then -((val s1.l - val s2.l:Nat):Int) else ((val s1.l - val s2.l:Nat):Int):=by
        unfold Ap;cases n1<;>cases n2<;>simp at hn ⊢<;>omega
      obtain ⟨c1,c2⟩:=Y9 hz
      refine ⟨S,a1,by rw [a2,c2],fun K=>?_⟩
      rw [Aj3];unfold A1o A1n
      rw [Q7,Q7,hne,cf,Mo,Mo,a3,ct,Q7,K6,c1,c2]
    · obtain ⟨S,a1,a2,a3⟩:=Bgm (R:=R) (N:=N) (a:=s2.l) (b:=s1.l) (t:=false) (o:=o2) (t':=false) (o':=o1) rfl rfl h2 h1 (hf.le (by omega)) (by omega)
      have hz:Ap n1 s1+Ap n2 s2=if n2 then -((val s2.l - val s1.l:Nat):Int) else ((val s2.l - val s1.l:Nat):Int):=by
        unfold Ap;cases n1<;>cases n2<;>simp at hn ⊢<;>omega
      obtain ⟨c1,c2⟩:=Y9 hz
      refine ⟨S,a1,by rw [a2,c2],fun K=>?_⟩
      rw [Aj3];unfold A1o A1n
      rw [Q7,Q7,hne,cf,Mo,Mo,Btr rfl rfl h1 h2 (hf.le (by omega)) (by omega),cf,Mo,Mo,a3,Q7,K6,c1,c2]
theorem Bqg {N:Nat} {n1:Bool} {s1:LS} {o1:Bool} {K:Bool→Nat→LA→Option R} (h1:Ag s1.l) (hf:fit s1.l.length N):A09 N (Hw n1 s1) o1 K=K (decide (Ap n1 s1<0)) (dig (Ap n1 s1).natAbs).length (Ad (dig (Ap n1 s1).natAbs)):=by
  obtain ⟨c1,c2⟩:=Y9 (z:=Ap n1 s1) (c:=n1) (m:=val s1.l) (by unfold Ap;cases n1<;>simp)
  rw [A8j];unfold Bd0 Bdz
  rw [Q7,Mo,At4 rfl h1 hf,K6,c1,c2]
def A3i (x y:Int):Int:=if x<y then -1 else if y<x then 1 else 0
theorem Bt4 (x y:Nat):A3i (x:Int) (y:Int)=Fu x y:=by unfold A3i Fu;simp
theorem Bt5 (x y:Nat):A3i (-(x:Int)) (-(y:Int))=Fu y x:=by
  unfold A3i Fu
  by_cases h:y<x
  · rw [if_pos (by omega),if_pos h]
  · rw [if_neg (by omega),if_neg h]
    by_cases h2:x<y
    · rw [if_pos (by omega),if_pos h2]
    · rw [if_neg (by omega),if_neg h2]
theorem Bh1 {N:Nat} {n1 n2:Bool} {s1 s2:LS} {o1 o2:Bool} {K:Int→Option R} (h1:Ag s1.l) (h2:Ag s2.l) (hf:fit (s1.l.length+s2.l.length) N):Aah N (Hw n1 s1) o1 (Hw n2 s2) o2 K=K (A3i (Ap n1 s1) (Ap n2 s2)):=by
  rw [Apk];unfold Apj Api
  have l2:∀ n s,List.take 2 (Hw n s)=Hw n s:=fun n s=>rfl
  have l3:∀ n s,Nat.ble 2 (List.length (Hw n s))=true:=fun n s=>rfl
  rw [l2,l2,l3,l3,ct,Azu h1 (hf.le (by omega)),ct,Azu h2 (hf.le (by omega))]
  have sg:∀ z:Int,z.sign=if z<0 then -1 else if 0<z then 1 else 0:=by
    intro z
    rcases Int.lt_trichotomy z 0 with h | h | h
    · rw [Int.sign_eq_neg_one_of_neg h,if_pos h]
    · subst h;rfl
    · rw [Int.sign_eq_one_of_pos h,if_neg (by omega),if_pos h]
  by_cases c1:(Ap n1 s1).sign<(Ap n2 s2).sign
  · rw [decide_eq_true c1,ct]
    rw [sg,sg] at c1
    unfold A3i;rw [if_pos]
    split at c1<;>split at c1<;>(try split at c1)<;>(try split at c1)<;>omega
  · rw [decide_eq_false c1,cf]
    by_cases c2:(Ap n1 s1).sign>(Ap n2 s2).sign
    · rw [decide_eq_true c2,ct]
      rw [sg,sg] at c2
      unfold A3i;rw [if_neg,if_pos]
      · split at c2<;>split at c2<;>(try split at c2)<;>(try split at c2)<;>omega
      · split at c2<;>split at c2<;>(try split at c2)<;>(try split at c2)<;>omega
    · rw [decide_eq_false c2,cf]
      have he:(Ap n1 s1).sign=(Ap n2 s2).sign:=by omega
      by_cases c3:(Ap n1 s1).sign<0
      · rw [decide_eq_true c3,ct,Mo,Mo,Ow rfl rfl h2 h1 (hf.le (by omega))]
        have p1:Ap n1 s1<0:=by rw [sg] at c3;split at c3;assumption;split at c3<;>omega
        have p2:Ap n2 s2<0:=by rw [he,sg] at c3;split at c3;assumption;split at c3<;>omega
        have e1:Ap n1 s1=-(val s1.l:Int):=by unfold Ap at p1 ⊢;cases n1<;>simp at p1 ⊢;omega
        have e2:Ap n2 s2=-(val s2.l:Int):=by unfold Ap at p2 ⊢;cases n2<;>simp at p2 ⊢;omega
        rw [e1,e2,Bt5]
      · rw [decide_eq_false c3,cf,Mo,Mo,Ow rfl rfl h1 h2 (hf.le (by omega))]
        have p1:0≤Ap n1 s1:=by
          apply Int.not_lt.1;intro h;rw [Int.sign_eq_neg_one_of_neg h] at c3;omega
        have p2:0≤Ap n2 s2:=by
          apply Int.not_lt.1;intro h;rw [he,Int.sign_eq_neg_one_of_neg h] at c3;omega
        have e1:Ap n1 s1=(val s1.l:Int):=by have:=B7 n1 s1;omega
        have e2:Ap n2 s2=(val s2.l:Int):=by have:=B7 n2 s2;omega
        rw [e1,e2,Bt4]
end
end Gx

namespace Gx
open Go Go.Proofs
section
variable {R:Type}
theorem Bgq (z:Int) (d:Nat) (hd:d≠0):(mkRat z d).num.natAbs=z.natAbs/Nat.gcd z.natAbs d∧((mkRat z d).num<0↔z<0)∧(mkRat z d).den=d/Nat.gcd z.natAbs d:=by
  have hg:0<Nat.gcd z.natAbs d:=Nat.gcd_pos_of_pos_right _ (by omega)
  rw [Rat.num_mkRat,Rat.den_mkRat,if_neg hd,if_neg hd,Nat.gcd_comm d]
  have hdv:((Nat.gcd z.natAbs d:Nat):Int)∣z:=Int.dvd_natAbs.1 (Int.natCast_dvd_natCast.2 (Nat.gcd_dvd_left _ _))
  obtain ⟨c,hc⟩:=hdv
  have hgz:z.natAbs.gcd d=Nat.gcd z.natAbs d:=rfl
  generalize Nat.gcd z.natAbs d=g at *
  refine ⟨?_,?_,rfl⟩
  · rw [hc,Int.mul_ediv_cancel_left _ (by omega),Int.natAbs_mul,Int.natAbs_natCast,Nat.mul_div_cancel_left _ hg]
  · rw [hc,Int.mul_ediv_cancel_left _ (by omega)]
    constructor
    · intro h;exact Int.mul_neg_of_pos_of_neg (by omega) h
    · intro h;rcases Int.lt_or_le c 0 with h1 | h1
      · exact h1
      · have:=Int.mul_nonneg (show (0:Int)≤g by omega) h1;omega
structure RatD where
  neg:Bool
  ns:LS
  ds:LS
def RatD.av (x:RatD):List AV:=[.bool x.neg,x.ns.av,x.ds.av]
def RatD.ok (x:RatD):Prop:=Ag x.ns.l∧Ag x.ds.l
def RatD.m (x:RatD):Nat:=max x.ns.l.length x.ds.l.length
def RatD.q (x:RatD):Rat:=mkRat (Ap x.neg x.ns) (val x.ds.l)
def RatD.can (x:RatD) (q:Rat):Prop:=x.neg=decide (q.num<0)∧x.ns.l=dig q.num.natAbs∧x.ds.l=dig q.den
def qm (q:Rat):Nat:=max (dig q.num.natAbs).length (dig q.den).length
theorem RatD.can.ok {x:RatD} {q:Rat} (h:x.can q):x.ok:=⟨by rw [h.2.1];exact Ab _,by rw [h.2.2];exact Ab _⟩
theorem RatD.can.m {x:RatD} {q:Rat} (h:x.can q):x.m=qm q:=by unfold RatD.m qm;rw [h.2.1,h.2.2]
theorem RatD.can.q {x:RatD} {q:Rat} (h:x.can q):x.q=q:=by
  unfold RatD.q Ap
  rw [h.1,h.2.1,h.2.2,Af,Af]
  have:(if decide (q.num<0)=true then -(q.num.natAbs:Int) else (q.num.natAbs:Int))=q.num:=by
    by_cases h0:q.num<0
    · rw [if_pos (by simpa using h0)];omega
    · rw [if_neg (by simpa using h0)];omega
  rw [this,Rat.mkRat_self]
theorem Bv2 {x:RatD} {f:Bool→Option R}:rdB x.av f=f x.neg:=Bvm
theorem Bt6 {x:RatD} {f:List AV→Nat→Option R}:rdL 1 (List.drop 1 x.av) f=f (Ad x.ns.l) x.ns.l.length:=by rw [RatD.av,List.drop_succ_cons,List.drop_zero,Bqf]
theorem Bgr {x:RatD} {f:List AV→Nat→Option R}:rdL 1 (List.drop 2 x.av) f=f (Ad x.ds.l) x.ds.l.length:=by rw [RatD.av,List.drop_succ_cons,List.drop_succ_cons,List.drop_zero,Bqf]
theorem Hx (x:RatD):Nat.ble 3 (List.length x.av)=true:=rfl
theorem C5 (x:RatD):List.take 3 x.av=x.av:=rfl
theorem Bvn (x:RatD):List.take 2 x.av=Hw x.neg x.ns:=rfl
theorem Bwo (x:RatD):Nat.beq (List.length x.av) 3=true:=rfl
theorem Awa (n:Bool) (s:LS):((Nat.beq 0 0)&&((Nat.beq (List.length (Hw n s)) 2)&&(Nat.beq 2 2)))=true:=rfl
theorem Azv (n:Bool) (s:LS):Nat.ble 2 (List.length (Hw n s))=true:=rfl
theorem tk2 (n:Bool) (s:LS):List.take 2 (Hw n s)=Hw n s:=rfl
theorem Bt7:([.int .u32 1]:List AV)=Ad [1]:=rfl
theorem Bsr:Ag [1]:=by intro x hx;simp at hx;omega
theorem Yk:dig 1=[1]:=by rw [Al2 (by omega)];simp [C3]
theorem De {v:Nat} {S:List Nat} (h1:Ag S) (h2:val S=v):List.take ((dig v).length*1) (Ad S)=Ad (dig v):=by rw [← h2,Jq h1]
theorem ofA (neg:Bool) (l:List Nat) (t o:Bool):([.bool neg,.imm (Ad l) l.length 1 t o]:List AV)=Hw neg (.of l t o):=rfl
theorem G8 {z:Int} {t o:Bool}:Ap (decide (z<0)) (.of (dig z.natAbs) t o)=z:=by
  unfold Ap LS.l;rw [Af]
  by_cases h:z<0
  · rw [if_pos (by simpa using h)];omega
  · rw [if_neg (by simpa using h)];omega
theorem Bh2 {N:Nat} {v:Int} (hv:-9223372036854775808≤v∧v≤9223372036854775807) (hN:4≤N):∃ d:RatD,d.can (v:Rat)∧∀ K:LA→Option R,Cx N v K=K d.av:=by
  obtain ⟨S,s1,s2,s3⟩:=Bh0 (R:=R) (N:=N) hv hN
  refine ⟨⟨decide (v<0),.of (dig v.natAbs) false false,.of (dig 1) false false⟩,⟨rfl,rfl,rfl⟩,fun K=>?_⟩
  rw [Ao9];unfold Ao8 Ao7
  rw [s3,De s1 s2,Yk];rfl
theorem K7 {N:Nat} {x:RatD} {o:Bool} (hx:x.ok) (hf:fit x.m N):∃ (neg:Bool) (s:LS) (l:List Nat) (o1 o2:Bool),Ag s.l∧Ag l∧val l≠0∧s.l.length≤x.m∧l.length≤max x.m 1∧mkRat (Ap neg s) (val l)=x.q∧∀ K:LA→Bool→LA→Nat→Bool→Option R,I0 N x.av o K=K (Hw neg s) o1 (Ad l) l.length o2:=by
  have hm1:x.ns.l.length≤x.m:=Nat.le_max_left _ _
  have hm2:x.ds.l.length≤x.m:=Nat.le_max_right _ _
  by_cases h0:val x.ds.l=0
  · refine ⟨false,.nil,[1],false,false,S8,Bsr,by decide,by simp [LS.l],by simp;omega,?_,fun K=>?_⟩
    · unfold RatD.q;rw [h0];simp [Ap,LS.l,val]
    · rw [Ai6];unfold As1 As0
      rw [Bgr,Bgj rfl hx.2 (hf.le hm2),h0,Y7];rfl
  · refine ⟨x.neg,x.ns,x.ds.l,o,o,hx.1,hx.2,h0,hm1,by omega,rfl,fun K=>?_⟩
    have:Fu (val x.ds.l) 0=1:=by unfold Fu;rw [if_neg (by omega),if_pos (by omega)]
    rw [Ai6];unfold As1 As0
    rw [Bgr,Bgj rfl hx.2 (hf.le hm2),this,show ((1:Int)==0)=false by rfl,cf,show Nat.ble 2 (List.length x.av)=true by rfl,ct,Bgr,Bvn,Awa,ct,Azv,ct,tk2]
theorem Bwp (z:Int) (d:Nat) (hd:d≠0):(mkRat z d).num.sign=z.sign:=by
  obtain ⟨h1,h2,_⟩:=Bgq z d hd
  rcases Int.lt_trichotomy z 0 with h | h | h
  · rw [Int.sign_eq_neg_one_of_neg h,Int.sign_eq_neg_one_of_neg (h2.2 h)]
  · subst h;simp
  · have hn:¬ (mkRat z d).num<0:=fun hh=>by have:=h2.1 hh;omega
    have h0:(mkRat z d).num≠0:=fun hh=>by
      have:mkRat z d=0:=Rat.num_eq_zero.1 hh
      rw [Rat.mkRat_eq_zero hd] at this;omega
    rw [Int.sign_eq_one_of_pos h,Int.sign_eq_one_of_pos (by omega)]
theorem K8 {N:Nat} {x:RatD} {o:Bool} {K:Int→Option R} (hx:x.ok) (hf:fit x.m N):Xo N x.av o K=K x.q.num.sign:=by
  obtain ⟨neg,s,l,o1,o2,p1,p2,p3,p4,p5,p6,p7⟩:=K7 (R:=R) (o:=o) hx hf
  rw [A8d];unfold Bdm Bdl
  rw [Hx,ct,C5,p7,Awa,ct,Azv,ct,tk2,Azu p1 (hf.le p4),← p6,Bwp _ _ p3]
theorem Gn {N:Nat} {x:RatD} {o:Bool} (hx:x.ok) (hf:fit x.m N):(∃ (n:Int) (d:Nat),-2147483648<n∧n<2147483648∧0<d∧d<2147483648∧mkRat n d=x.q∧∀ K:Int→Int→Bool→Option R,Fh N x.av o K=K n (d:Int) true)∨(∀ K:Int→Int→Bool→Option R,Fh N x.av o K=K 0 0 false):=by
  have hm1:x.ns.l.length≤x.m:=Nat.le_max_left _ _
  have hm2:x.ds.l.length≤x.m:=Nat.le_max_right _ _
  by_cases h1:val x.ns.l<2147483648
  · by_cases h2:val x.ds.l<2147483648
    · left
      have e:∀ K:Int→Int→Bool→Option R,Fh N x.av o K=Et N K (val x.ns.l:Int) (val x.ds.l:Int) o x.av false:=by
        intro K
        rw [Xp];unfold Agm Agl
        rw [Bt6,K5 rfl hx.1 (hf.le hm1),if_pos (by omega),Bgr,K5 rfl hx.2 (hf.le hm2),if_pos (by omega)]
        rw [show ((!true)==false)=true by rfl,ct,show ((cond false true (!true))==false)=true by rfl,ct,show decide (((val x.ns.l:Nat):Int)≥2147483648)=false by rw [decide_eq_false_iff_not];omega,show ((cond false true false)==false)=true by rfl,ct,show decide (((val x.ds.l:Nat):Int)≥2147483648)=false by rw [decide_eq_false_iff_not];omega]
        rfl
      by_cases h0:val x.ds.l=0
      · refine ⟨0,1,by omega,by omega,by omega,by omega,by unfold RatD.q;rw [h0];simp,fun K=>?_⟩
        rw [e];unfold Et Ek
        rw [cf,i0T h0,ct];rfl
      · have hn:=B7 x.neg x.ns
        refine ⟨Ap x.neg x.ns,val x.ds.l,by omega,by omega,by omega,h2,rfl,fun K=>?_⟩
        rw [e];unfold Et Ek
        rw [cf,i0F h0,cf,Bv2,i64 (a:=((val x.ns.l:Nat):Int)) (by omega),i64 (a:=((val x.ds.l:Nat):Int)) (by omega)]
        unfold Ap
        cases x.neg
        · rfl
        · rw [ct,i64 (by omega),Int.zero_sub];rfl
    · right
      intro K
      rw [Xp];unfold Agm Agl
      rw [Bt6,K5 rfl hx.1 (hf.le hm1),if_pos (by omega),Bgr,K5 rfl hx.2 (hf.le hm2),show ((!true)==false)=true by rfl]
      by_cases h3:val x.ds.l<18446744073709551616
      · rw [if_pos h3,ct,show ((cond false true (!true))==false)=true by rfl,ct,show decide (((val x.ns.l:Nat):Int)≥2147483648)=false by rw [decide_eq_false_iff_not];omega,show ((cond false true false)==false)=true by rfl,ct,show decide (((val x.ds.l:Nat):Int)≥2147483648)=true by rw [decide_eq_true_eq];omega]
        unfold Et Ek;rfl
      · rw [if_neg h3,ct,show ((cond false true (!false))==false)=false by rfl,cf]
        unfold Et Ek;rfl
  · right
    intro K
    rw [Xp];unfold Agm Agl
    rw [Bt6,K5 rfl hx.1 (hf.le hm1)]
    by_cases h3:val x.ns.l<18446744073709551616
    · rw [if_pos h3,Bgr,K5 rfl hx.2 (hf.le hm2),show ((!true)==false)=true by rfl,show decide (((val x.ns.l:Nat):Int)≥2147483648)=true by rw [decide_eq_true_eq];omega]
      by_cases h4:val x.ds.l<18446744073709551616
      · rw [if_pos h4,ct,show ((cond false true (!true))==false)=true by rfl,ct]
        unfold Et Ek;rfl
      · rw [if_neg h4,ct,show ((cond false true (!false))==false)=false by rfl,cf]
        unfold Et Ek;rfl
    · rw [if_neg h3,Bgr,K5 rfl hx.2 (hf.le hm2),show ((!false)==false)=false by rfl]
      split<;>(rw [cf];unfold Et Ek;rfl)
theorem Bj8 {N:Nat} {a b c:Nat} {s:Int} (hN:4≤N) (ha:a<18446744073709551616) (hb:b<9223372036854775808) (hg0:0<c) (hga:c∣a):∀ (k fuel x y:Nat),k<fuel→x*y<2 ^ k→y≤x→Nat.gcd x y=c→∃ d:RatD,d.neg=decide (s<0)∧d.ns.l=dig (a/c)∧d.ds.l=dig (b/c)∧∀ K:LA→Option R,Cc N K s (b:Int) (a:Int) fuel (x:Int) (y:Int)=K d.av:=by
  have base:∀ (fuel:Nat),∃ d:RatD,d.neg=decide (s<0)∧d.ns.l=dig (a/c)∧d.ds.l=dig (b/c)∧∀ K:LA→Option R,Cc N K s (b:Int) (a:Int) (fuel+1) (c:Int) ((0:Nat):Int)=K d.av:=by
    intro fuel
    have q1:a/c<18446744073709551616:=Nat.lt_of_le_of_lt (Nat.div_le_self _ _) ha
    have q2:b/c<18446744073709551616:=Nat.lt_of_le_of_lt (Nat.div_le_self _ _) (by omega)
    obtain ⟨S1,s1,s2,s3⟩:=Iw (R:=R) (N:=N) q1 hN
    obtain ⟨S2,t1,t2,t3⟩:=Iw (R:=R) (N:=N) q2 hN
    refine ⟨⟨decide (s<0),.of (dig (a/c)) false false,.of (dig (b/c)) false false⟩,rfl,rfl,rfl,fun K=>?_⟩
    rw [Cc];unfold I5
    rw [show (((0:Nat):Int) != 0)=false by rfl,cf,i0F (by omega),cf,Av9,w64 q1,s3,cf,w64 (show b<18446744073709551616 by omega),Av9,w64 q2,t3,De s1 s2,De t1 t2];rfl
  intro k
  induction k with
  | zero =>
    intro fuel x y hf hxy hle hg
    obtain ⟨fuel,rfl⟩:∃ F,fuel=F+1:=⟨fuel - 1,by omega⟩
    have hy:y=0:=by
      rcases Nat.eq_zero_or_pos y with h | h
      · exact h
      · have h3:=Nat.mul_le_mul_left x (show 1≤y by omega)
        rw [Nat.pow_zero] at hxy;omega
    subst hy
    rw [Nat.gcd_zero_right] at hg;subst hg
    exact base fuel
  | succ k ih =>
    intro fuel x y hf hxy hle hg
    obtain ⟨fuel,rfl⟩:∃ F,fuel=F+1:=⟨fuel - 1,by omega⟩
    rcases Nat.eq_zero_or_pos y with h | h
    · subst h;rw [Nat.gcd_zero_right] at hg;subst hg;exact base fuel
    · have hh:=Ar7 (show 1≤y by omega) hle
      have hm:=Nat.mod_lt x h
      have hg2:Nat.gcd y (x%y)=Nat.gcd x y:=by rw [Nat.gcd_comm,← Nat.gcd_rec,Nat.gcd_comm]
      obtain ⟨d,d1,d2,d3,d4⟩:=ih fuel y (x%y) (by omega) (by rw [Nat.pow_succ] at hxy;omega) (by omega) (by rw [hg2,hg])
      refine ⟨d,d1,d2,d3,fun K=>?_⟩
      rw [Cc];unfold I5
      rw [show ((y:Int) != 0)=true by rw [bne_iff_ne];omega,ct,i0F (by omega),cf,Ar4]
      exact d4 K
theorem Af0 {N:Nat} {s:Int} {b:Nat} (hs:-9223372036854775808≤s∧s≤9223372036854775807) (hb0:0<b) (hb:b<9223372036854775808) (hN:1000≤N):∃ d:RatD,d.can (mkRat s b)∧∀ K:LA→Option R,H1 N s (b:Int) K=K d.av:=by
  obtain ⟨m1,m2,m3⟩:=Bgq s b (by omega)
  have hcan:∀ d:RatD,d.neg=decide (s<0)→d.ns.l=dig (s.natAbs/Nat.gcd s.natAbs b)→d.ds.l=dig (b/Nat.gcd s.natAbs b)→d.can (mkRat s b):=by
    intro d h1 h2 h3
    exact ⟨by rw [h1];congr 1;exact propext m2.symm,by rw [h2,m1],by rw [h3,m3]⟩
  have ha:s.natAbs<18446744073709551616:=by omega
  have start:∀ K:LA→Option R,H1 N s (b:Int) K=Cc N K s (b:Int) (s.natAbs:Int) N (b:Int) (s.natAbs:Int):=by
    intro K
    rw [Amr];unfold Ajo Ajn Aaj Vz
    dsimp only
    by_cases h:s<0
    · have e:IntKind.wrap .u64 ((0:Int) - IntKind.wrap .u64 s)=(s.natAbs:Int):=by rw [Azs,Azs];omega
      rw [decide_eq_true h,ct,e,w64 (by omega)]
    · have e:IntKind.wrap .u64 s=(s.natAbs:Int):=by rw [Azs];omega
      rw [decide_eq_false h,cf,e,w64 (by omega)]
  have hg0:0<Nat.gcd s.natAbs b:=Nat.gcd_pos_of_pos_right _ hb0
  by_cases hle:s.natAbs≤b
  · obtain ⟨d, d1, d2, d3, d4⟩ := Bj8 (R := R) (N := N) (a := s.natAbs) (b := b) (c := Nat.gcd s.natAbs b) (s := s) (by omega) ha hb hg0 (Nat.gcd_dvd_left _ _) 128 N b s.natAbs (by omega) (by
      have:=Nat.mul_lt_mul'' (show b<18446744073709551616 by omega) ha;exact this) hle (Nat.gcd_comm _ _)
    exact ⟨d,hcan d d1 d2 d3,fun K=>by rw [start,d4]⟩
  · obtain ⟨F,hF⟩:∃ F,N=F+1:=⟨N - 1,by omega⟩
    obtain ⟨d,d1,d2,d3,d4⟩:=Bj8 (R:=R) (N:=N) (a:=s.natAbs) (b:=b) (c:=Nat.gcd s.natAbs b) (s:=s) (by omega) ha hb hg0 (Nat.gcd_dvd_left _ _) 128 F s.natAbs (b%s.natAbs) (by omega) (by
      rw [Nat.mod_eq_of_lt (by omega)]
      have:=Nat.mul_lt_mul'' ha (show b<18446744073709551616 by omega);exact this) (by rw [Nat.mod_eq_of_lt (by omega)];omega) (by rw [Nat.mod_eq_of_lt (by omega)])
    refine ⟨d,hcan d d1 d2 d3,fun K=>?_⟩
    rw [start,← d4 K]
    conv=>lhs;rw [show (Cc N K s (b:Int) (s.natAbs:Int) N)=Cc N K s (b:Int) (s.natAbs:Int) (F+1) by rw [← hF]]
    rw [Cc];unfold I5
    rw [show (((s.natAbs:Nat):Int) != 0)=true by rw [bne_iff_ne];omega,ct,i0F (by omega),cf,Ar4]
end
end Gx

namespace Gx
open Go Go.Proofs
section
variable {R:Type}
theorem Buw {S:List Nat} {g:Nat} (h1:Ag S) (h2:val S=g) (hl:(dig g).length=1) {f:Int→Option R}:rdI .u32 (Ad S) f=f (g:Int):=by
  have h3:=(Bc h1).2
  rw [h2,hl] at h3
  have h4:=Bn9 h1
  rw [h2,hl] at h4
  obtain ⟨a,hd⟩:∃ a,dig g=[a]:=by
    match h:dig g,hl with
    | [a],_=>exact ⟨a,rfl⟩
  have ha:a=g:=by have:=Af g;rw [hd] at this;simpa [val] using this
  rw [hd,ha] at h4
  match S,h3,h4 with
  | x::r,_,h4 =>
    simp at h4;subst h4
    rw [Y6,Be]
theorem Aeh {N:Nat} {neg:Bool} {s:LS} {l:List Nat} {n:Nat} {o t o':Bool} (hn:n=l.length) (hs:Ag s.l) (hl:Ag l) (hl0:val l≠0) (hf:fit (2*(s.l.length+l.length)+8) N) :
    ∃ d:RatD,d.can (mkRat (Ap neg s) (val l))∧∀ K:LA→Option R,Ly N (Hw neg s) o (Ad l) n t o' K=K d.av:=by
  obtain ⟨m1,m2,m3⟩:=Bgq (Ap neg s) (val l) hl0
  have hna:=B7 neg s
  have ls:=(Bc hs).2
  have ll:=(Bc hl).2
  generalize hz:Ap neg s=z at *
  have start:∀ K:LA→Option R,Ly N (Hw neg s) o (Ad l) n t o' K=cond ((((dig z.natAbs).length:Nat):Int)==(0:Int)) (K [(.bool false),.nsl,(.imm [(.int .u32 1)] 1 1 false false)]) (Ayg N (Ad (dig z.natAbs)) (dig z.natAbs).length false true (Ad (dig (val l))) (dig (val l)).length false true (fun f g=>(cond ((((f:Nat):Int) != (1:Int))==false) (cond (Aj (0:Int) f) (rdI .u32 g fun y=>(cond (cond false true (y != (1:Int))) (Ds N (Ad (dig z.natAbs)) (dig z.natAbs).length false true (List.take (f*1) g) f false true (fun p ae af z2 ag=>(Ds N (Ad (dig (val l))) (dig (val l)).length false true (List.take (f*1) g) f false true (fun q ah ai aa aj=>(K [(.bool (decide (z<0))),(.imm (List.take (p*1) z2) p 1 false false),(.imm (List.take (q*1) aa) q 1 false false)]))))) (K [(.bool (decide (z<0))),(.imm (Ad (dig z.natAbs)) (dig z.natAbs).length 1 false false),(.imm (Ad (dig (val l))) (dig (val l)).length 1 false false)]))) none) (Ds N (Ad (dig z.natAbs)) (dig z.natAbs).length false true (List.take (f*1) g) f false true (fun r ak al ab am=>(Ds N (Ad (dig (val l))) (dig (val l)).length false true (List.take (f*1) g) f false true (fun s an ao ac ap=>(K [(.bool (decide (z<0))),(.imm (List.take (r*1) ab) r 1 false false),(.imm (List.take (s*1) ac) s 1 false false)])))))))):=by
    intro K
    rw [Avs];unfold Ayi Ayh
    have tk:∀ v:Nat,List.take ((dig v).length*1) (Ad (dig v))=Ad (dig v):=fun v=>De (Ab _) (Af v)
    rw [Q7,Mo,show Nat.beq (List.length (Hw neg s)) 2=true by rfl,ct,ofA,Bqg (s1:=.of s.l false o) hs (hf.le (by simp [LS.l];omega)),show Ap neg (.of s.l false o)=z by rw [← hz];rfl,At4 hn hl (hf.le (by omega)),tk,tk]
  by_cases h0:z=0
  · refine ⟨⟨false,.nil,.of [1] false false⟩,?_,fun K=>?_⟩
    · rw [h0];simp only [Rat.zero_mkRat]
      exact ⟨rfl,rfl,Yk.symm⟩
    · rw [start,h0];rfl
  · have hz0:z.natAbs≠0:=by omega
    have hlen:(dig z.natAbs).length≠0:=fun h=>hz0 (Bd.1 h)
    have hg0:0<Nat.gcd z.natAbs (val l):=Nat.gcd_pos_of_pos_right _ (by omega)
    have lz:(dig z.natAbs).length≤s.l.length:=by rw [hna];exact ls
    obtain ⟨G,g1,g2,g3⟩:=Bt1 (R:=R) (N:=N) (a:=dig z.natAbs) (b:=dig (val l)) (t:=false) (o:=true) (t':=false) (o':=true) rfl rfl (Ab _) (Ab _) (hf.le (by omega))
    rw [Af,Af] at g2 g3
    have lg:(dig (Nat.gcd z.natAbs (val l))).length≤l.length:=Nat.le_trans (Bk (Nat.gcd_le_right _ (by omega))) ll
    obtain ⟨Q1,R1,a1,a2,a3,a4,a5⟩:=Ar6 (R:=R) (N:=N) (a:=dig z.natAbs) (b:=dig (Nat.gcd z.natAbs (val l))) (t:=false) (o:=true) (t':=false) (o':=true) rfl rfl (Ab _) (Ab _) (by rw [Af];omega) (hf.le (by omega))
    obtain ⟨Q2,R2,b1,b2,b3,b4,b5⟩:=Ar6 (R:=R) (N:=N) (a:=dig (val l)) (b:=dig (Nat.gcd z.natAbs (val l))) (t:=false) (o:=true) (t':=false) (o':=true) rfl rfl (Ab _) (Ab _) (by rw [Af];omega) (hf.le (by omega))
    rw [Af,Af] at a2 a5 b2 b5
    have hn2:decide (z<0)=decide ((mkRat z (val l)).num<0):=by congr 1;exact propext m2.symm
    refine ⟨⟨decide (z<0),.of (dig (z.natAbs/Nat.gcd z.natAbs (val l))) false false,.of (dig (val l/Nat.gcd z.natAbs (val l))) false false⟩,⟨hn2,by rw [m1];rfl,by rw [m3];rfl⟩,fun K=>?_⟩
    rw [start,i0F hlen,cf,g3,De g1 g2]
    by_cases hl1:(dig (Nat.gcd z.natAbs (val l))).length=1
    · rw [show ((((((dig (Nat.gcd z.natAbs (val l))).length:Nat):Int) != (1:Int))==false))=true by rw [hl1];rfl,ct,show Aj 0 (dig (Nat.gcd z.natAbs (val l))).length=true by rw [hl1];rfl,ct,Buw g1 g2 hl1]
      by_cases he:Nat.gcd z.natAbs (val l)=1
      · rw [he,show (cond false true (((1:Nat):Int) != 1))=false by rfl,cf,Nat.div_one,Nat.div_one];rfl
      · rw [show (cond false true (((Nat.gcd z.natAbs (val l):Nat):Int) != 1))=true by (show (((Nat.gcd z.natAbs (val l):Nat):Int) != 1)=true;rw [bne_iff_ne];omega),ct,a5,b5,De a1 a2,De b1 b2];rfl
    · rw [show ((((((dig (Nat.gcd z.natAbs (val l))).length:Nat):Int) != (1:Int))==false))=false by (rw [show ((((dig (Nat.gcd z.natAbs (val l))).length:Nat):Int) != (1:Int))=true by rw [bne_iff_ne];omega];rfl),cf,a5,b5,De a1 a2,De b1 b2];rfl
theorem Amd {N:Nat} {x:RatD} {o:Bool} (hx:x.ok) (hf:fit (4*x.m+10) N):∃ d:RatD,d.can x.q∧∀ K:LA→Option R,Ac1 N x.av o K=K d.av:=by
  have h1:=hf.1
  rcases Gn (R:=R) (N:=N) (o:=o) hx (hf.le (by omega)) with ⟨n,d,n1,n2,d1,d2,e,hK⟩ | hK
  · obtain ⟨c,c1,c2⟩:=Af0 (R:=R) (N:=N) (s:=n) (b:=d) (by omega) d1 (by omega) (by omega)
    rw [e] at c1
    refine ⟨c,c1,fun K=>?_⟩
    rw [Ap4];unfold A1l A1k
    rw [Hx,ct,C5,hK,ct,c2];rfl
  · obtain ⟨neg,s,l,o1,o2,p1,p2,p3,p4,p5,p6,p7⟩:=K7 (R:=R) (N:=N) (o:=o) hx (hf.le (by omega))
    obtain ⟨c,c1,c2⟩:=Aeh (R:=R) (N:=N) (neg:=neg) (s:=s) (l:=l) (n:=l.length) (o:=o1) (t:=false) (o':=o2) rfl p1 p2 p3 (hf.le (by omega))
    rw [p6] at c1
    refine ⟨c,c1,fun K=>?_⟩
    rw [Ap4];unfold A1l A1k
    rw [Hx,ct,C5,hK,cf,ct,p7,c2];rfl
def Abq (x y:Rat):Int:=if x<y then -1 else if y<x then 1 else 0
theorem Brj {d:Nat} (h:0<d):(0:Rat)<(d:Rat):=Rat.natCast_pos.2 h
theorem Brk {a c:Int} {b d:Nat} (hb:0<b) (hd:0<d):mkRat a b<mkRat c d↔a*d<c*b:=by
  rw [Rat.mkRat_eq_div,Rat.mkRat_eq_div,Rat.div_lt_iff (Brj hb)]
  have e:(c:Rat)/(d:Rat)*(b:Rat)=(c*b:Rat)/(d:Rat):=by rw [Rat.div_def,Rat.div_def,Rat.mul_assoc,Rat.mul_assoc,Rat.mul_comm (d:Rat)⁻¹]
  rw [e,Rat.lt_div_iff (Brj hd)]
  have e1:(a:Rat)*(d:Rat)=((a*d:Int):Rat):=by rw [Rat.intCast_mul];rfl
  have e2:(c:Rat)*(b:Rat)=((c*b:Int):Rat):=by rw [Rat.intCast_mul];rfl
  rw [e1,e2,Rat.intCast_lt_intCast]
theorem Brl {a c:Int} {b d:Nat} (hb:0<b) (hd:0<d):Abq (mkRat a b) (mkRat c d)=A3i (a*d) (c*b):=by
  unfold Abq A3i
  by_cases h:a*d<c*b
  · rw [if_pos h,if_pos ((Brk hb hd).2 h)]
  · rw [if_neg h,if_neg (fun hh=>h ((Brk hb hd).1 hh))]
    by_cases h2:c*b<a*d
    · rw [if_pos h2,if_pos ((Brk hd hb).2 h2)]
    · rw [if_neg h2,if_neg (fun hh=>h2 ((Brk hd hb).1 hh))]
theorem Boo {N:Nat} {a b:Int} {K:Int→Option R}:I3 N a b K=K (A3i a b):=by
  rw [Wh];unfold Rw Rv
  rw [Acr];unfold Z8 Z7
  rw [show (a != a)=false by simp,show (b != b)=false by simp]
  dsimp only
  rw [cf,cf]
  unfold A3i
  by_cases h:a<b
  · rw [decide_eq_true h,ct,if_pos h]
  · rw [decide_eq_false h,cf,if_neg h]
    by_cases h2:b<a
    · rw [decide_eq_true (show a>b from h2),ct,if_pos h2]
    · rw [decide_eq_false (show ¬ a>b from h2),cf,if_neg h2]
theorem Bh3 {N:Nat} {a b:Int} {K:Int→Option R}:F9 N a b K=K (A3i a b):=by
  rw [Rb];unfold N7 N6
  rw [Wi];unfold Rz Ry
  rw [show (a != a)=false by simp,show (b != b)=false by simp]
  dsimp only
  rw [cf,cf]
  unfold A3i
  by_cases h:a<b
  · rw [decide_eq_true h,ct,if_pos h]
  · rw [decide_eq_false h,cf,if_neg h]
    by_cases h2:b<a
    · rw [decide_eq_true (show a>b from h2),ct,if_pos h2]
    · rw [decide_eq_false (show ¬ a>b from h2),cf,if_neg h2]
theorem Bt8 {p q:Rat} (h:p.num.sign<q.num.sign):p<q:=by
  rw [Rat.lt_iff]
  have hp:=p.den_pos;have hq:=q.den_pos
  rcases Int.lt_trichotomy p.num 0 with h1 | h1 | h1
  · rcases Int.lt_or_le q.num 0 with h2 | h2
    · rw [Int.sign_eq_neg_one_of_neg h1,Int.sign_eq_neg_one_of_neg h2] at h;omega
    · have x1:p.num*q.den<0:=Int.mul_neg_of_neg_of_pos h1 (by omega)
      have x2:0≤q.num*p.den:=Int.mul_nonneg h2 (by omega)
      omega
  · rw [h1] at h ⊢
    have:0<q.num:=by simpa using h
    have x2:0<q.num*p.den:=Int.mul_pos this (by omega)
    rw [Int.zero_mul];exact x2
  · rw [Int.sign_eq_one_of_pos h1] at h
    have:=Int.sign_trichotomy q.num
    omega
theorem Ame {a b:Int} (h1:-2147483648<a∧a<2147483648) (h2:-2147483648<b∧b<2147483648):-4611686018427387904<a*b∧a*b<4611686018427387904:=by
  have h3:a.natAbs*b.natAbs≤2147483647*2147483647:=Nat.mul_le_mul (by omega) (by omega)
  rw [← Int.natAbs_mul] at h3
  omega
theorem Af1 {N:Nat} {x y:RatD} {o o':Bool} {K:Int→Option R} (hx:x.ok) (hy:y.ok) (hf:fit (4*(x.m+y.m)+10) N):Gj N x.av o y.av o' K=K (Abq x.q y.q):=by
  have h1:=hf.1
  rw [Apn];unfold Apm Apl
  rw [Hx,ct,C5,K8 hx (hf.le (by omega)),Hx,ct,C5,K8 hy (hf.le (by omega))]
  by_cases hs:x.q.num.sign=y.q.num.sign
  · rw [show (x.q.num.sign != y.q.num.sign)=false by simp [hs],cf,ct]
    have gen:Tz N K o x.av o' y.av=K (Abq x.q y.q):=by
      obtain ⟨n1,s1,l1,a1,b1,p1,p2,p3,p4,p5,p6,p7⟩:=K7 (R:=R) (N:=N) (o:=o) hx (hf.le (by omega))
      obtain ⟨n2,s2,l2,a2,b2,q1,q2,q3,q4,q5,q6,q7⟩:=K7 (R:=R) (N:=N) (o:=o') hy (hf.le (by omega))
      obtain ⟨S1,t1,t2,t3⟩:=Aho (R:=R) (N:=N) (n1:=n1) (n2:=false) (s1:=s1) (s2:=.of l2 false b2) (o1:=a1) (o2:=(b2||false)) p1 q2 (hf.le (show s1.l.length+l2.length≤_ by omega))
      obtain ⟨S2,u1,u2,u3⟩:=Aho (R:=R) (N:=N) (n1:=n2) (n2:=false) (s1:=s2) (s2:=.of l1 false b1) (o1:=a2) (o2:=(b1||false)) q1 p2 (hf.le (show s2.l.length+l1.length≤_ by omega))
      have v1:Ap false (.of l2 false b2)=(val l2:Int):=rfl
      have v2:Ap false (.of l1 false b1)=(val l1:Int):=rfl
      rw [v1] at t2 t3;rw [v2] at u2 u3
      have l1':(dig (Ap n1 s1*(val l2:Int)).natAbs).length≤x.m+max y.m 1:=Nat.le_trans (Dd (by
        rw [Int.natAbs_mul,B7,Int.natAbs_natCast,Nat.pow_add]
        exact Nat.mul_lt_mul'' (Nat.lt_of_lt_of_le (A7 p1) (Nat.pow_le_pow_right (by omega) p4)) (Nat.lt_of_lt_of_le (A7 q2) (Nat.pow_le_pow_right (by omega) q5)))) (Nat.le_refl _)
      have l2':(dig (Ap n2 s2*(val l1:Int)).natAbs).length≤y.m+max x.m 1:=Nat.le_trans (Dd (by
        rw [Int.natAbs_mul,B7,Int.natAbs_natCast,Nat.pow_add]
        exact Nat.mul_lt_mul'' (Nat.lt_of_lt_of_le (A7 q1) (Nat.pow_le_pow_right (by omega) q4)) (Nat.lt_of_lt_of_le (A7 p2) (Nat.pow_le_pow_right (by omega) p5)))) (Nat.le_refl _)
      unfold Tz Aai
      rw [Hx,ct,C5,p7,Awa,ct,Hx,ct,C5,q7,Awa,ct,Azv,ct,tk2,ofA,t3,Azv,ct,tk2,ofA,u3,De t1 t2,De u1 u2,ofA,ofA,Bh1 (s1:=.of (dig (Ap n1 s1*(val l2:Int)).natAbs) false true) (s2:=.of (dig (Ap n2 s2*(val l1:Int)).natAbs) false true) (Ab _) (Ab _) (hf.le (show (dig (Ap n1 s1*(val l2:Int)).natAbs).length+(dig (Ap n2 s2*(val l1:Int)).natAbs).length≤_ by omega)),G8,G8,← p6,← q6,Brl (by omega) (by omega)]
    rcases Gn (R:=R) (N:=N) (o:=o) hx (hf.le (by omega)) with ⟨n,d,n1,n2,d1,d2,e,hK⟩ | hK
    · rcases Gn (R:=R) (N:=N) (o:=o') hy (hf.le (by omega)) with ⟨n',d',n1',n2',d1',d2',e',hK'⟩ | hK'
      · have b1:=Ame (a:=n) (b:=(d':Int)) ⟨n1,n2⟩ (by omega)
        have b2:=Ame (a:=n') (b:=(d:Int)) ⟨n1',n2'⟩ (by omega)
        rw [hK,ct,hK',show ((true:Bool)==true)=true by rfl,ct,ctB,ct,Bh3,i64 (by omega),i64 (by omega),← e,← e',Brl d1 d1']
      · rw [hK,ct,hK',show ((true:Bool)==true)=true by rfl,ct,ctB,cf,gen]
    · rcases Gn (R:=R) (N:=N) (o:=o') hy (hf.le (by omega)) with ⟨n',d',n1',n2',d1',d2',e',hK'⟩ | hK'
      · rw [hK,ct,hK',show ((false:Bool)==true)=false by rfl,cf,gen]
      · rw [hK,ct,hK',show ((false:Bool)==true)=false by rfl,cf,gen]
  · rw [show (x.q.num.sign != y.q.num.sign)=true by simp [hs],ct,Boo]
    congr 1
    unfold A3i Abq
    by_cases h:x.q.num.sign<y.q.num.sign
    · rw [if_pos h,if_pos (Bt8 h)]
    · have h2:y.q.num.sign<x.q.num.sign:=by omega
      have:=Bt8 h2
      rw [if_neg h,if_pos h2,if_neg (fun hh=>absurd (Rat.le_of_lt this) (Rat.not_le.2 hh)),if_pos this]
end
end Gx

namespace Gx
open Go Go.Proofs
section
variable {R:Type}
theorem Bop {q:Rat} (h:q.num.sign=0):q=0:=Rat.num_eq_zero.1 (Int.sign_eq_zero_iff_zero.1 h)
theorem K9 {a b:Int} {k l:Nat} (ha:a.natAbs<4294967296 ^ k) (hb:b.natAbs<4294967296 ^ l):(a*b).natAbs<4294967296 ^ (k+l):=by
  rw [Int.natAbs_mul,Nat.pow_add];exact Nat.mul_lt_mul'' ha hb
theorem A3j {a b:Int} {k:Nat} (ha:a.natAbs<4294967296 ^ k) (hb:b.natAbs<4294967296 ^ k):(a+b).natAbs<4294967296 ^ (k+1):=by
  rw [Nat.pow_succ];omega
theorem Fp {k l:Nat} (h:k≤l):4294967296 ^ k≤4294967296 ^ l:=Nat.pow_le_pow_right (by omega) h
theorem Bt9 {v k:Nat} (h:(dig v).length≤k):v<4294967296 ^ k:=by
  have:=A7 (Ab v);rw [Af] at this
  exact Nat.lt_of_lt_of_le this (Fp h)
theorem Boq (p r:Int) (d:Nat) (hd:d≠0):mkRat (p+r) d=mkRat p d+mkRat r d:=by
  rw [Rat.mkRat_add_mkRat _ _ hd hd,← Int.add_mul]
  exact (Rat.mkRat_mul_right hd).symm
theorem Bux {N:Nat} {x y:RatD} {o o':Bool} (hx:x.ok) (hy:y.ok) (hf:fit (8*(x.m+y.m)+40) N):∃ d:RatD,d.can (x.q+y.q)∧∀ K:LA→Option R,Ag0 N K o x.av o' y.av=K d.av:=by
  obtain ⟨n1,s1,l1,a1,b1,p1,p2,p3,p4,p5,p6,p7⟩:=K7 (R:=R) (N:=N) (o:=o) hx (hf.le (by omega))
  obtain ⟨n2,s2,l2,a2,b2,q1,q2,q3,q4,q5,q6,q7⟩:=K7 (R:=R) (N:=N) (o:=o') hy (hf.le (by omega))
  have zl1:(Ap n1 s1).natAbs<4294967296 ^ x.m:=by rw [B7];exact Nat.lt_of_lt_of_le (A7 p1) (Fp p4)
  have zl2:(Ap n2 s2).natAbs<4294967296 ^ y.m:=by rw [B7];exact Nat.lt_of_lt_of_le (A7 q1) (Fp q4)
  have dl1:((val l1:Nat):Int).natAbs<4294967296 ^ (x.m+1):=by rw [Int.natAbs_natCast];exact Nat.lt_of_lt_of_le (A7 p2) (Fp (by omega))
  have dl2:((val l2:Nat):Int).natAbs<4294967296 ^ (y.m+1):=by rw [Int.natAbs_natCast];exact Nat.lt_of_lt_of_le (A7 q2) (Fp (by omega))
  by_cases he:val l1=val l2
  · obtain ⟨S,t1,t2,t3⟩:=Bj7 (R:=R) (N:=N) (n1:=n1) (n2:=n2) (s1:=s1) (s2:=s2) (o1:=a1) (o2:=a2) p1 q1 (hf.le (by omega))
    have lz:(dig (Ap n1 s1+Ap n2 s2).natAbs).length≤x.m+y.m+1:=Dd (A3j (k:=x.m+y.m) (Nat.lt_of_lt_of_le zl1 (Fp (by omega))) (Nat.lt_of_lt_of_le zl2 (Fp (by omega))))
    obtain ⟨c,c1,c2⟩:=Aeh (R:=R) (N:=N) (neg:=decide (Ap n1 s1+Ap n2 s2<0)) (s:=.of (dig (Ap n1 s1+Ap n2 s2).natAbs) false true) (l:=l1) (n:=l1.length) (o:=true) (t:=false) (o':=b1) rfl (Ab _) p2 p3 (hf.le (show 2*((dig (Ap n1 s1+Ap n2 s2).natAbs).length+l1.length)+8≤_ by omega))
    rw [G8,Boq _ _ _ p3,p6] at c1
    rw [show mkRat (Ap n2 s2) (val l1)=y.q by rw [he,q6]] at c1
    refine ⟨c,c1,fun K=>?_⟩
    unfold Ag0 Aj5
    rw [Hx,ct,C5,p7,Awa,ct,Hx,ct,C5,q7,Awa,ct,Ow rfl rfl p2 q2 (hf.le (by omega)),he,Y7,show ((0:Int)==0)=true by rfl,ct,Azv,ct,Azv,ct,tk2,tk2,t3,De t1 t2,ofA,c2];rfl
  · obtain ⟨S1,t1,t2,t3⟩:=Aho (R:=R) (N:=N) (n1:=n1) (n2:=false) (s1:=s1) (s2:=.of l2 false b2) (o1:=a1) (o2:=(b2||false)) p1 q2 (hf.le (show s1.l.length+l2.length≤_ by omega))
    obtain ⟨S2,u1,u2,u3⟩:=Aho (R:=R) (N:=N) (n1:=n2) (n2:=false) (s1:=s2) (s2:=.of l1 false b1) (o1:=a2) (o2:=(b1||false)) q1 p2 (hf.le (show s2.l.length+l1.length≤_ by omega))
    rw [show Ap false (.of l2 false b2)=(val l2:Int) by rfl] at t2 t3
    rw [show Ap false (.of l1 false b1)=(val l1:Int) by rfl] at u2 u3
    have z1:=K9 zl1 dl2
    have z2:=K9 zl2 dl1
    have L1:=Dd z1
    have L2:=Dd z2
    obtain ⟨S3,w1,w2,w3⟩:=Bj7 (R:=R) (N:=N) (n1:=decide (Ap n1 s1*(val l2:Int)<0)) (n2:=decide (Ap n2 s2*(val l1:Int)<0)) (s1:=.of (dig (Ap n1 s1*(val l2:Int)).natAbs) false true) (s2:=.of (dig (Ap n2 s2*(val l1:Int)).natAbs) false true) (o1:=true) (o2:=true) (Ab _) (Ab _) (hf.le (show (dig (Ap n1 s1*(val l2:Int)).natAbs).length+(dig (Ap n2 s2*(val l1:Int)).natAbs).length+1≤_ by omega))
    rw [G8,G8] at w2 w3
    obtain ⟨S4,v1,v2,v3⟩:=Ar3 (R:=R) (N:=N) (a:=l1) (b:=l2) (t:=false) (o:=b1) (t':=false) (o':=b2) rfl rfl p2 q2 (hf.le (by omega))
    have z3:=A3j (k:=x.m+y.m+1) (Nat.lt_of_lt_of_le z1 (Fp (by omega))) (Nat.lt_of_lt_of_le z2 (Fp (by omega)))
    have L3:=Dd z3
    have z4:val l1*val l2<4294967296 ^ (x.m+1+(y.m+1)):=by
      have:=K9 dl1 dl2;rw [Int.natAbs_mul,Int.natAbs_natCast,Int.natAbs_natCast] at this;exact this
    have L4:=Dd z4
    obtain ⟨c,c1,c2⟩:=Aeh (R:=R) (N:=N) (neg:=decide (Ap n1 s1*(val l2:Int)+Ap n2 s2*(val l1:Int)<0)) (s:=.of (dig (Ap n1 s1*(val l2:Int)+Ap n2 s2*(val l1:Int)).natAbs) false true) (l:=dig (val l1*val l2)) (n:=(dig (val l1*val l2)).length) (o:=true) (t:=false) (o':=true) rfl (Ab _) (Ab _) (by rw [Af];exact Nat.mul_ne_zero p3 q3) (hf.le (show 2*((dig (Ap n1 s1*(val l2:Int)+Ap n2 s2*(val l1:Int)).natAbs).length+(dig (val l1*val l2)).length)+8≤_ by omega))
    rw [G8,Af,← Rat.mkRat_add_mkRat _ _ p3 q3,p6,q6] at c1
    refine ⟨c,c1,fun K=>?_⟩
    unfold Ag0 Aj5
    have hc:(Fu (val l1) (val l2)==0)=false:=by
      rw [beq_eq_false_iff_ne];unfold Fu;split
      · omega
      · rw [if_pos (by omega)];omega
    rw [Hx,ct,C5,p7,Awa,ct,Hx,ct,C5,q7,Awa,ct,Ow rfl rfl p2 q2 (hf.le (by omega)),hc,cf,Azv,ct,tk2,ofA,t3,Azv,ct,tk2,ofA,u3,De t1 t2,De u1 u2,ofA,ofA,w3,v3,De w1 w2,De v1 v2,ofA,c2];rfl
theorem Bj9 {N:Nat} {x y:RatD} {o o':Bool} (hx:x.ok) (hy:y.ok) (hf:fit (8*(x.m+y.m)+40) N):∃ d:RatD,d.can (x.q+y.q)∧∀ K:LA→Option R,Ap5 N x.av o y.av o' K=K d.av:=by
  have h1:=hf.1
  by_cases hz:x.q.num.sign=0
  · obtain ⟨c,c1,c2⟩:=Amd (R:=R) (N:=N) (o:=o') hy (hf.le (by omega))
    refine ⟨c,by rw [Bop hz,Rat.zero_add];exact c1,fun K=>?_⟩
    rw [Aj7];unfold A1q A1p
    rw [Hx,ct,C5,K8 hx (hf.le (by omega)),hz,show ((0:Int)==0)=true by rfl,ct,Hx,ct,C5,c2];rfl
  · have hzb:(x.q.num.sign==0)=false:=by rw [beq_eq_false_iff_ne];exact hz
    by_cases hw:y.q.num.sign=0
    · obtain ⟨c,c1,c2⟩:=Amd (R:=R) (N:=N) (o:=o) hx (hf.le (by omega))
      refine ⟨c,by rw [Bop hw,Rat.add_zero];exact c1,fun K=>?_⟩
      rw [Aj7];unfold A1q A1p
      rw [Hx,ct,C5,K8 hx (hf.le (by omega)),hzb,cf,Hx,ct,C5,K8 hy (hf.le (by omega)),hw,show ((0:Int)==0)=true by rfl,ct,ct,c2];rfl
    · have hwb:(y.q.num.sign==0)=false:=by rw [beq_eq_false_iff_ne];exact hw
      have start:∀ K:LA→Option R,Ap5 N x.av o y.av o' K=Fh N x.av o (fun g e aw=>Fh N y.av o' (fun i f ax=>(cond (aw==true) (Sk N K g e i f o x.av o' y.av (cond true ax false)) (Sk N K g e i f o x.av o' y.av false)))):=by
        intro K
        rw [Aj7];unfold A1q A1p
        rw [Hx,ct,C5,K8 hx (hf.le (by omega)),hzb,cf,Hx,ct,C5,K8 hy (hf.le (by omega)),hwb,cf,ct];rfl
      have gen:∃ d:RatD,d.can (x.q+y.q)∧∀ (K:LA→Option R) (g e i f:Int),Sk N K g e i f o x.av o' y.av false=K d.av:=by
        obtain ⟨c,c1,c2⟩:=Bux (R:=R) (N:=N) (o:=o) (o':=o') hx hy hf
        exact ⟨c,c1,fun K g e i f=>by unfold Sk Aj6;rw [cf,c2]⟩
      rcases Gn (R:=R) (N:=N) (o:=o) hx (hf.le (by omega)) with ⟨n,d,n1,n2,d1,d2,e,hK⟩ | hK
      · rcases Gn (R:=R) (N:=N) (o:=o') hy (hf.le (by omega)) with ⟨n',d',n1',n2',d1',d2',e',hK'⟩ | hK'
        · have b1:=Ame (a:=n) (b:=(d':Int)) ⟨n1,n2⟩ (by omega)
          have b2:=Ame (a:=n') (b:=(d:Int)) ⟨n1',n2'⟩ (by omega)
          have b3:=Ame (a:=(d:Int)) (b:=(d':Int)) (by omega) (by omega)
          have b4:((d*d':Nat):Int)=(d:Int)*(d':Int):=by simp
          obtain ⟨c,c1,c2⟩:=Af0 (R:=R) (N:=N) (s:=n*d'+n'*d) (b:=d*d') (by omega) (Nat.mul_pos d1 d1') (by omega) (by omega)
          rw [← Rat.mkRat_add_mkRat _ _ (by omega) (by omega),e,e'] at c1
          refine ⟨c,c1,fun K=>?_⟩
          rw [start,hK,hK',show ((true:Bool)==true)=true by rfl,ct,ctB]
          unfold Sk Aj6
          rw [ct,i64 (a:=n*(d':Int)) (by omega),i64 (a:=n'*(d:Int)) (by omega),i64 (by omega),i64 (by omega),← b4,c2];rfl
        · obtain ⟨c,c1,c2⟩:=gen
          refine ⟨c,c1,fun K=>?_⟩
          rw [start,hK,hK',show ((true:Bool)==true)=true by rfl,ct,ctB,c2]
      · obtain ⟨c,c1,c2⟩:=gen
        refine ⟨c,c1,fun K=>?_⟩
        rw [start,hK]
        rcases Gn (R:=R) (N:=N) (o:=o') hy (hf.le (by omega)) with ⟨n',d',n1',n2',d1',d2',e',hK'⟩ | hK'
        · rw [hK',show ((false:Bool)==true)=false by rfl,cf,c2]
        · rw [hK',show ((false:Bool)==true)=false by rfl,cf,c2]
theorem Bor (n:Bool) (s:LS):Ap (!n) s=-Ap n s:=by unfold Ap;cases n<;>simp
theorem Bka {N:Nat} {x y:RatD} {o o':Bool} (hx:x.ok) (hy:y.ok) (hf:fit (8*(x.m+y.m)+40) N):∃ d:RatD,d.can (x.q - y.q)∧∀ K:LA→Option R,Ap6 N x.av o y.av o' K=K d.av:=by
  obtain ⟨c,c1,c2⟩:=Bj9 (R:=R) (N:=N) (x:=⟨x.neg,.of x.ns.l false o,.of x.ds.l false o⟩) (y:=⟨!y.neg,.of y.ns.l false o',.of y.ds.l false o'⟩) (o:=(o||(o||false))) (o':=(o'||(o'||false))) hx hy hf
  have e1:RatD.q ⟨x.neg,.of x.ns.l false o,.of x.ds.l false o⟩=x.q:=rfl
  have e2:RatD.q ⟨!y.neg,.of y.ns.l false o',.of y.ds.l false o'⟩=-y.q:=by
    show mkRat (Ap (!y.neg) (.of y.ns.l false o')) (val y.ds.l)=_
    rw [Bor,← Rat.neg_mkRat];rfl
  rw [e1,e2,← Rat.sub_eq_add_neg] at c1
  refine ⟨c,c1,fun K=>?_⟩
  rw [Bea];unfold Blv Blu
  rw [Bv2,Bt6,Bgr,Bwo,ct,Bv2,Bt6,Bgr,Bwo,ct]
  exact (c2 _).trans rfl
theorem Buy {N:Nat} {x y:RatD} {o o':Bool} (hx:x.ok) (hy:y.ok) (hf:fit (8*(x.m+y.m)+40) N):∃ d:RatD,d.can (x.q*y.q)∧∀ K:LA→Option R,Atn N K o x.av o' y.av=K d.av:=by
  obtain ⟨n1,s1,l1,a1,b1,p1,p2,p3,p4,p5,p6,p7⟩:=K7 (R:=R) (N:=N) (o:=o) hx (hf.le (by omega))
  obtain ⟨n2,s2,l2,a2,b2,q1,q2,q3,q4,q5,q6,q7⟩:=K7 (R:=R) (N:=N) (o:=o') hy (hf.le (by omega))
  have zl1:(Ap n1 s1).natAbs<4294967296 ^ x.m:=by rw [B7];exact Nat.lt_of_lt_of_le (A7 p1) (Fp p4)
  have zl2:(Ap n2 s2).natAbs<4294967296 ^ y.m:=by rw [B7];exact Nat.lt_of_lt_of_le (A7 q1) (Fp q4)
  have dl1:((val l1:Nat):Int).natAbs<4294967296 ^ (x.m+1):=by rw [Int.natAbs_natCast];exact Nat.lt_of_lt_of_le (A7 p2) (Fp (by omega))
  have dl2:((val l2:Nat):Int).natAbs<4294967296 ^ (y.m+1):=by rw [Int.natAbs_natCast];exact Nat.lt_of_lt_of_le (A7 q2) (Fp (by omega))
  obtain ⟨S1,t1,t2,t3⟩:=Aho (R:=R) (N:=N) (n1:=n1) (n2:=n2) (s1:=s1) (s2:=s2) (o1:=a1) (o2:=a2) p1 q1 (hf.le (by omega))
  have L1:=Dd (K9 zl1 zl2)
  obtain ⟨S4,v1,v2,v3⟩:=Ar3 (R:=R) (N:=N) (a:=l1) (b:=l2) (t:=false) (o:=b1) (t':=false) (o':=b2) rfl rfl p2 q2 (hf.le (by omega))
  have z4:val l1*val l2<4294967296 ^ (x.m+1+(y.m+1)):=by
    have:=K9 dl1 dl2;rw [Int.natAbs_mul,Int.natAbs_natCast,Int.natAbs_natCast] at this;exact this
  have L4:=Dd z4
  obtain ⟨c,c1,c2⟩:=Aeh (R:=R) (N:=N) (neg:=decide (Ap n1 s1*Ap n2 s2<0)) (s:=.of (dig (Ap n1 s1*Ap n2 s2).natAbs) false true) (l:=dig (val l1*val l2)) (n:=(dig (val l1*val l2)).length) (o:=true) (t:=false) (o':=true) rfl (Ab _) (Ab _) (by rw [Af];exact Nat.mul_ne_zero p3 q3) (hf.le (show 2*((dig (Ap n1 s1*Ap n2 s2).natAbs).length+(dig (val l1*val l2)).length)+8≤_ by omega))
  rw [G8,Af,← Rat.mkRat_mul_mkRat,p6,q6] at c1
  refine ⟨c,c1,fun K=>?_⟩
  unfold Atn Ayp
  rw [Hx,ct,C5,p7,Awa,ct,Hx,ct,C5,q7,Awa,ct,Azv,ct,Azv,ct,tk2,tk2,t3,v3,De t1 t2,De v1 v2,ofA,c2];rfl
theorem Bss {N:Nat} {x y:RatD} {o o':Bool} (hx:x.ok) (hy:y.ok) (hf:fit (8*(x.m+y.m)+40) N):∃ d:RatD,d.can (x.q*y.q)∧∀ K:LA→Option R,A5p N x.av o y.av o' K=K d.av:=by
  have h1:=hf.1
  obtain ⟨g,g1,g2⟩:=Buy (R:=R) (N:=N) (o:=o) (o':=o') hx hy hf
  rcases Gn (R:=R) (N:=N) (o:=o) hx (hf.le (by omega)) with ⟨n,d,n1,n2,d1,d2,e,hK⟩ | hK
  · rcases Gn (R:=R) (N:=N) (o:=o') hy (hf.le (by omega)) with ⟨n',d',n1',n2',d1',d2',e',hK'⟩ | hK'
    · have b1:=Ame (a:=n) (b:=n') ⟨n1,n2⟩ ⟨n1',n2'⟩
      have b3:=Ame (a:=(d:Int)) (b:=(d':Int)) (by omega) (by omega)
      have b4:((d*d':Nat):Int)=(d:Int)*(d':Int):=by simp
      obtain ⟨c,c1,c2⟩:=Af0 (R:=R) (N:=N) (s:=n*n') (b:=d*d') (by omega) (Nat.mul_pos d1 d1') (by omega) (by omega)
      rw [← Rat.mkRat_mul_mkRat,e,e'] at c1
      refine ⟨c,c1,fun K=>?_⟩
      rw [Akb];unfold A1t A1s
      rw [Hx,ct,C5,hK,Hx,ct,C5,hK',show ((true:Bool)==true)=true by rfl,ct,ctB,ct,i64 (by omega),i64 (by omega),← b4,c2];rfl
    · refine ⟨g,g1,fun K=>?_⟩
      rw [Akb];unfold A1t A1s
      rw [Hx,ct,C5,hK,Hx,ct,C5,hK',show ((true:Bool)==true)=true by rfl,ct,ctB,cf,g2]
  · refine ⟨g,g1,fun K=>?_⟩
    rw [Akb];unfold A1t A1s
    rcases Gn (R:=R) (N:=N) (o:=o') hy (hf.le (by omega)) with ⟨n',d',n1',n2',d1',d2',e',hK'⟩ | hK'
    · rw [Hx,ct,C5,hK,Hx,ct,C5,hK',show ((false:Bool)==true)=false by rfl,cf,g2]
    · rw [Hx,ct,C5,hK,Hx,ct,C5,hK',show ((false:Bool)==true)=false by rfl,cf,g2]
theorem Bmf {a b:Rat}:Abq a b≤0↔a≤b:=by
  unfold Abq
  by_cases h:a<b
  · rw [if_pos h];exact ⟨fun _=>Rat.le_of_lt h,fun _=>by omega⟩
  · rw [if_neg h]
    by_cases h2:b<a
    · rw [if_pos h2];exact ⟨fun hh=>by omega,fun hh=>absurd hh (Rat.not_le.2 h2)⟩
    · rw [if_neg h2];exact ⟨fun _=>Rat.not_lt.1 h2,fun _=>by omega⟩
theorem Bst {N:Nat} {x y:RatD} {o o':Bool} (hx:x.ok) (hy:y.ok) (hf:fit (8*(x.m+y.m)+40) N):∃ d:RatD,d.can (if x.q≤y.q then x.q else y.q)∧∀ K:LA→Option R,A5m N x.av o y.av o' K=K d.av:=by
  by_cases h:x.q≤y.q
  · obtain ⟨c,c1,c2⟩:=Amd (R:=R) (N:=N) (o:=o) hx (hf.le (by omega))
    refine ⟨c,by rw [if_pos h];exact c1,fun K=>?_⟩
    rw [Ayo];unfold Ba2 Ba1
    rw [Hx,ct,Hx,ct,C5,C5,Af1 hx hy (hf.le (by omega)),decide_eq_true (Bmf.2 h),ct,ct,c2];rfl
  · obtain ⟨c,c1,c2⟩:=Amd (R:=R) (N:=N) (o:=o') hy (hf.le (by omega))
    refine ⟨c,by rw [if_neg h];exact c1,fun K=>?_⟩
    rw [Ayo];unfold Ba2 Ba1
    rw [Hx,ct,Hx,ct,C5,C5,Af1 hx hy (hf.le (by omega)),decide_eq_false (fun hh=>h (Bmf.1 hh)),cf,ct,c2];rfl
end
end Gx

namespace Gx
open Go Go.Proofs
section
variable {R:Type}
def Ep (z:Int):List AV:=Hw (decide (z<0)) (.of (dig z.natAbs) false false)
theorem A3k (z:Int) (K:LA→Option R):(cond ((Nat.beq 0 0)&&((Nat.beq (List.length (Ep z)) 2)&&(Nat.beq 2 2))) (cond (Nat.ble 2 (List.length (Ep z))) (K (List.take 2 (Ep z))) none) none)=K (Ep z):=rfl
theorem tkc (z:Int):List.take 2 (Ep z)=Ep z:=rfl
theorem Bww (z:Int):Nat.beq (List.length (Ep z)) 2=true:=rfl
theorem tkd (v:Nat):List.take ((dig v).length*1) (Ad (dig v))=Ad (dig v):=De (Ab _) (Af v)
theorem Fq {N:Nat} {neg:Bool} {l:List Nat} {n:Nat} {t o:Bool} {K:LA→Option R} (hn:n=l.length) (hl:Ag l) (hf:fit l.length N):Eh N neg (Ad l) n t o K=K (Ep (if neg then -(val l:Int) else (val l:Int))):=by
  obtain ⟨c1,c2⟩:=Y9 (z:=if neg then -(val l:Int) else (val l:Int)) (c:=neg) (m:=val l) rfl
  rw [A0j];unfold A37 A36
  rw [Cq hn hl hf,tkd]
  unfold Ep
  rw [← c1,c2]
  cases neg
  · rfl
  · rw [show ((true:Bool)==true)=true by rfl,ct,ctB];simp [Hw,LS.av]
theorem Awb {N:Nat} {v:Int} {K:LA→Option R} (hv:-9223372036854775808≤v∧v≤9223372036854775807) (hN:2000≤N):Hz N v K=K (Ep v):=by
  have hb:v.natAbs<18446744073709551616:=by omega
  have hl:=Al8 hb
  rw [Amo];unfold Aia Ah9
  by_cases h:v<0
  · have e : IntKind.wrap .u64 (IntKind.wrap .u64 (IntKind.wrap .i64 ((0 : Int) - IntKind.wrap .i64 (v + 1))) + 1) = (v.natAbs : Int) := by
      rw [i64 (a:=v+1) (by omega),i64 (by omega),Azs,Azs];omega
    rw [decide_eq_true h,ct,e,Aeg hb (by omega),tkd,Fq rfl (Ab _) ⟨by omega,by omega⟩,Af]
    have:(if true=true then -(v.natAbs:Int) else (v.natAbs:Int))=v:=by rw [if_pos rfl];omega
    rw [this];exact A3k _ _
  · have e:IntKind.wrap .u64 v=(v.natAbs:Int):=by rw [Azs];omega
    rw [decide_eq_false h,cf,e,Aeg hb (by omega),tkd,Fq rfl (Ab _) ⟨by omega,by omega⟩,Af]
    have:(if false=true then -(v.natAbs:Int) else (v.natAbs:Int))=v:=by rw [if_neg (by decide)];omega
    rw [this];exact A3k _ _
theorem Azw {N:Nat} {n:Bool} {s:LS} {o:Bool} {K:LA→Option R} (hs:Ag s.l) (hf:fit s.l.length N):Zs N (Hw n s) o K=K (Ep (Ap n s)):=by
  rw [A0k];unfold A39 A38
  rw [Q7,Mo,Fq rfl hs hf];exact A3k _ _
theorem Bgs {N:Nat} {n:Bool} {s:LS} {o:Bool} {K:Int→Option R} (hs:Ag s.l) (hf:fit s.l.length N):Zt N (Hw n s) o K=K (Ap n s).sign:=by
  rw [A0l];unfold A4b A4a
  rw [Azv,ct,tk2,Azw hs hf,Bww,show ((true&&(true&&(!false))))=true by rfl,ct]
  have e:setCells (Hw n s) 0 (Ep (Ap n s))=Ep (Ap n s):=rfl
  rw [e]
  generalize Ap n s=z
  unfold Ep
  rw [Q7]
  rcases Int.lt_trichotomy z 0 with h | h | h
  · rw [decide_eq_true h,ct,Int.sign_eq_neg_one_of_neg h]
  · subst h;rfl
  · rw [decide_eq_false (by omega),cf,Mo]
    have:(dig z.natAbs).length≠0:=fun hh=>by have:=Bd.1 hh;omega
    simp only [LS.l]
    rw [i0F this,cf,Int.sign_eq_one_of_pos h]
theorem Bsu {N:Nat} {n:Bool} {s:LS} {o:Bool} {K:LA→Option R} (hs:Ag s.l) (hf:fit s.l.length N):Xd N (Hw n s) o K=K (Ep (-Ap n s)):=by
  rw [A77];unfold Bda Bc9
  rw [Q7,Mo,Fq rfl hs hf,← Bor];exact A3k _ _
theorem Bqh {N:Nat} {n1 n2:Bool} {s1 s2:LS} {o1 o2:Bool} {K:LA→Option R} (h1:Ag s1.l) (h2:Ag s2.l) (hf:fit (s1.l.length+s2.l.length) N):Ac9 N (Hw n1 s1) o1 (Hw n2 s2) o2 K=K (Ep (Ap n1 s1*Ap n2 s2)):=by
  have hl:(dig (val s1.l*val s2.l)).length≤s1.l.length+s2.l.length:=Dd (by rw [Nat.pow_add];exact Nat.mul_lt_mul'' (A7 h1) (A7 h2))
  rw [A8o];unfold Ber Beq
  rw [Q7,Q7,Mo,Mo,Bsn rfl rfl h1 h2 hf,tkd,Fq rfl (Ab _) (hf.le hl),Af]
  have hz:Ap n1 s1*Ap n2 s2=if (!(n1==n2)) then -((val s1.l*val s2.l:Nat):Int) else ((val s1.l*val s2.l:Nat):Int):=by
    unfold Ap;cases n1<;>cases n2<;>simp [Int.mul_neg,Int.neg_mul]
  rw [← hz];exact A3k _ _
theorem Bqi {N:Nat} {n1 n2:Bool} {s1 s2:LS} {o1 o2:Bool} {K:LA→Option R} (h1:Ag s1.l) (h2:Ag s2.l) (hf:fit (s1.l.length+s2.l.length+1) N):Xc N (Hw n1 s1) o1 (Hw n2 s2) o2 K=K (Ep (Ap n1 s1+Ap n2 s2)):=by
  have v1:=A7 h1
  have v2:=A7 h2
  have w1:=Fp (show s1.l.length≤s1.l.length+s2.l.length by omega)
  have w2:=Fp (show s2.l.length≤s1.l.length+s2.l.length by omega)
  rw [A76];unfold Bc7 Bc6
  rw [Q7,Q7]
  by_cases hn:n1=n2
  · subst hn
    have hl:(dig (val s1.l+val s2.l)).length≤s1.l.length+s2.l.length+1:=Dd (by rw [Nat.pow_succ];omega)
    have hz:Ap n1 s1+Ap n1 s2=if n1 then -((val s1.l+val s2.l:Nat):Int) else ((val s1.l+val s2.l:Nat):Int):=by
      unfold Ap;cases n1<;>simp;omega
    rw [show (n1==n1)=true by simp,ct,Q7,Mo,Mo,A6u rfl rfl h1 h2 hf,tkd,Fq rfl (Ab _) (hf.le hl),Af,← hz];exact A3k _ _
  · rw [show (n1==n2)=false by simp [hn],cf,Mo,Mo,A6v rfl rfl h1 h2 (hf.le (by omega))]
    by_cases hle:val s2.l≤val s1.l
    · have hl:(dig (val s1.l - val s2.l)).length≤s1.l.length+s2.l.length+1:=Dd (by rw [Nat.pow_succ];omega)
      have hz:Ap n1 s1+Ap n2 s2=if n1 then -((val s1.l - val s2.l:Nat):Int) else ((val s1.l - val s2.l:Nat):Int):=by
        unfold Ap;cases n1<;>cases n2<;>simp at hn ⊢<;>omega
      rw [if_pos hle,ct,Q7,tkd,Fq rfl (Ab _) (hf.le hl),Af,← hz];exact A3k _ _
    · have hl:(dig (val s2.l - val s1.l)).length≤s1.l.length+s2.l.length+1:=Dd (by rw [Nat.pow_succ];omega)
      have hz:Ap n1 s1+Ap n2 s2=if n2 then -((val s2.l - val s1.l:Nat):Int) else ((val s2.l - val s1.l:Nat):Int):=by
        unfold Ap;cases n1<;>cases n2<;>simp at hn ⊢<;>omega
      rw [if_neg hle,cf,Mo,Mo,A6v rfl rfl h2 h1 (hf.le (by omega)),if_pos (by omega),Q7,tkd,Fq rfl (Ab _) (hf.le hl),Af,← hz];exact A3k _ _
theorem Bsv {N:Nat} {n1 n2:Bool} {s1 s2:LS} {o1 o2:Bool} {K:LA→Option R} (h1:Ag s1.l) (h2:Ag s2.l) (hf:fit (3*(s1.l.length+s2.l.length)+4) N):A0t N (Hw n1 s1) o1 (Hw n2 s2) o2 K=K (Ep ((Nat.gcd (Ap n1 s1).natAbs (Ap n2 s2).natAbs:Nat):Int)):=by
  have hl:(dig (Nat.gcd (val s1.l) (val s2.l))).length≤s1.l.length+s2.l.length:=by
    rcases Nat.eq_zero_or_pos (val s1.l) with h | h
    · rw [h,Nat.gcd_zero_left];have:=(Bc h2).2;omega
    · have:=Bk (Nat.gcd_le_left (val s2.l) h);have:=(Bc h1).2;omega
  rw [A75];unfold Bc1 Bc0
  rw [Mo,Mo,Bsq rfl rfl h1 h2 hf,tkd,Fq rfl (Ab _) (hf.le (by omega)),Af,B7,B7];exact A3k _ _
theorem Ar8 {N:Nat} {n1:Bool} {s1:LS} {g:Nat} {o1 o2:Bool} {K:LA→LA→Bool→Option R} (h1:Ag s1.l) (hg:0<g) (hd:g∣val s1.l) (hf:fit (s1.l.length+2*(dig g).length+4) N):Rp N (Hw n1 s1) o1 (Ep (g:Int)) o2 K=K (Ep (Ap n1 s1/(g:Int))) (Ep 0) true:=by
  have hc:Ep (g:Int)=Hw false (.of (dig g) false false):=by
    unfold Ep;rw [decide_eq_false (by omega),Int.natAbs_natCast]
  have hq:(dig (val s1.l/g)).length≤s1.l.length:=Nat.le_trans (Bk (Nat.div_le_self _ _)) (Bc h1).2
  rw [hc,Aox];unfold Aow Aov
  rw [Mo,Mo,show (LS.of (dig g) false false).l=dig g by rfl]
  rw [Amc rfl rfl h1 (Ab _) (by rw [Af];omega) hf,Af,Nat.mod_eq_zero_of_dvd hd,show (!true)=false by rfl,cf,Q7,Q7,tkd,Fq rfl (Ab _) (hf.le (by omega)),Q7,tkd,Fq rfl (Ab _) (hf.le (by simp [C3])),Af,Af]
  have e0:(if n1=true then -((0:Nat):Int) else ((0:Nat):Int))=0:=by cases n1<;>rfl
  have e1:(if (!(n1==false))=true then -((val s1.l/g:Nat):Int) else ((val s1.l/g:Nat):Int))=Ap n1 s1/(g:Int):=by
    obtain ⟨c,hc⟩:=hd
    have hv:val s1.l/g=c:=by rw [hc,Nat.mul_div_cancel_left _ hg]
    rw [hv];unfold Ap;rw [hc]
    cases n1
    · simp;rw [Int.mul_ediv_cancel_left _ (by omega)]
    · simp only [Bool.true_beq,Bool.not_false,if_true]
      rw [show -((g*c:Nat):Int)=(g:Int)*(-(c:Int)) by rw [Int.mul_neg];simp,Int.mul_ediv_cancel_left _ (by omega)]
  rw [e0,e1]
  generalize Ap n1 s1/(g:Int)=q
  have r0:∀ (f:Bool→Option R),rdB (Ep 0) f=f false:=fun f=>Q7
  rw [show ((Nat.beq 0 0)&&((Nat.beq (List.length (Ep q)) 2)&&(Nat.beq 2 2)))=true by rfl,ct,show ((Nat.beq 0 0)&&((Nat.beq (List.length (Ep 0)) 2)&&(Nat.beq 2 2)))=true by rfl,ct,r0,cf]
  rfl
end
end Gx

namespace Gx
open Go Go.Proofs
section
variable {R:Type}
def cqD (q:Rat):RatD:=⟨decide (q.num<0),.of (dig q.num.natAbs) false false,.of (dig q.den) false false⟩
def cq (q:Rat):List AV:=(cqD q).av
theorem Ba5 (q:Rat):(cqD q).can q:=⟨rfl,rfl,rfl⟩
theorem Bvo (q:Rat):(cqD q).q=q:=(Ba5 q).q
theorem Bua (q:Rat):(cqD q).ok:=(Ba5 q).ok
theorem Bvp (q:Rat):(cqD q).m=qm q:=(Ba5 q).m
theorem Bkb (q:Rat) (K:LA→Option R):(cond ((Nat.beq 0 0)&&((Nat.beq (List.length (cq q)) 3)&&(Nat.beq 3 3))) (cond (Nat.ble 3 (List.length (cq q))) (K (List.take 3 (cq q))) none) none)=K (cq q):=rfl
theorem Brm (q:Rat):Nat.ble 2 (List.length (cq q))=true:=rfl
theorem Bmg (q:Rat):List.take 2 (cq q)=Ep q.num:=rfl
theorem Buz:cq 0=[(.bool false),(.imm [] 0 1 false false),(.imm [(.int .u32 1)] 1 1 false false)]:=by
  have e:cq 0=[.bool false,.imm (Ad (dig 0)) (dig 0).length 1 false false,.imm (Ad (dig 1)) (dig 1).length 1 false false]:=rfl
  rw [e,Yk];rfl
theorem Bqj {N:Nat} {K:LA→Option R}:Aof N K=K (cq 0):=by
  rw [A0m];unfold A4d A4c
  rw [Buz]
theorem Bwx {N:Nat} {z:Int} {o:Bool} {K:LA→Option R} (hf:fit (dig z.natAbs).length N):Xd N (Ep z) o K=K (Ep (-z)):=by
  have:=Bsu (R:=R) (N:=N) (n:=decide (z<0)) (s:=.of (dig z.natAbs) false false) (o:=o) (K:=K) (Ab _) hf
  rw [G8] at this;exact this
theorem Bwq {N:Nat} {z:Int} {o:Bool} {K:Int→Option R} (hf:fit (dig z.natAbs).length N):Zt N (Ep z) o K=K z.sign:=by
  have:=Bgs (R:=R) (N:=N) (n:=decide (z<0)) (s:=.of (dig z.natAbs) false false) (o:=o) (K:=K) (Ab _) hf
  rw [G8] at this;exact this
theorem Bv3 {N:Nat} {z w:Int} {o o':Bool} {K:LA→Option R} (hf:fit ((dig z.natAbs).length+(dig w.natAbs).length) N):Ac9 N (Ep z) o (Ep w) o' K=K (Ep (z*w)):=by
  have:=Bqh (R:=R) (N:=N) (n1:=decide (z<0)) (s1:=.of (dig z.natAbs) false false) (n2:=decide (w<0)) (s2:=.of (dig w.natAbs) false false) (o1:=o) (o2:=o') (K:=K) (Ab _) (Ab _) hf
  rw [G8,G8] at this;exact this
theorem Bwy {N:Nat} {z w:Int} {o o':Bool} {K:LA→Option R} (hf:fit ((dig z.natAbs).length+(dig w.natAbs).length+1) N):Xc N (Ep z) o (Ep w) o' K=K (Ep (z+w)):=by
  have:=Bqi (R:=R) (N:=N) (n1:=decide (z<0)) (s1:=.of (dig z.natAbs) false false) (n2:=decide (w<0)) (s2:=.of (dig w.natAbs) false false) (o1:=o) (o2:=o') (K:=K) (Ab _) (Ab _) hf
  rw [G8,G8] at this;exact this
theorem Bub (z:Int):mkRat z 1=(z:Rat):=by
  apply Rat.ext
  · rw [Rat.num_mkRat,if_neg (by decide),Nat.gcd_one_left];simp
  · rw [Rat.den_mkRat,if_neg (by decide),Nat.gcd_one_left];simp
theorem Bu0 (z:Int) (w:Nat) (hw:w≠0):(mkRat z w).num=z/((Nat.gcd z.natAbs w:Nat):Int)∧(mkRat z w).den=w/Nat.gcd z.natAbs w:=by
  refine ⟨?_,?_⟩
  · rw [Rat.num_mkRat,if_neg hw,Nat.gcd_comm w]
  · rw [Rat.den_mkRat,if_neg hw,Nat.gcd_comm w]
theorem A90 {N:Nat} {n1 n2:Bool} {s1 s2:LS} {o1 o2:Bool} {K:LA→Option R} (h1:Ag s1.l) (h2:Ag s2.l) (hpos:0≤Ap n2 s2) (hf:fit (4*(s1.l.length+s2.l.length)+10) N):Pd N (Hw n1 s1) o1 (Hw n2 s2) o2 K=K (cq (mkRat (Ap n1 s1) (Ap n2 s2).natAbs)):=by
  have hna:=B7 n2 s2
  have hna1:=B7 n1 s1
  rw [A0u];unfold A4p A4o
  rw [Azv,ct,tk2,Bgs h2 (hf.le (by omega))]
  by_cases h0:Ap n2 s2=0
  · rw [h0,show ((0:Int).sign==0)=true by rfl,ct,Bqj]
    rw [show (0:Int).natAbs=0 by rfl,Rat.mkRat_zero];exact Bkb _ _
  · have hw:(Ap n2 s2).natAbs≠0:=by omega
    have hs1:((Ap n2 s2).sign==0)=false:=by rw [Int.sign_eq_one_of_pos (by omega)];rfl
    rw [hs1,cf,ct,Azw h2 (hf.le (by omega)),show ((Nat.beq 0 0)&&((Nat.beq (List.length (Ep (Ap n2 s2))) 2)&&(Nat.beq 2 2)))=true by rfl,ct]
    have rb:∀ (z:Int) (f:Bool→Option R),rdB (Ep z) f=f (decide (z<0)):=fun z f=>Q7
    have rl:∀ (z:Int) (f:List AV→Nat→Option R),rdL 1 (List.drop 1 (Ep z)) f=f (Ad (dig z.natAbs)) (dig z.natAbs).length:=fun z f=>Mo
    have l2:=(Bc h2).2
    have l1:=(Bc h1).2
    rw [rb,decide_eq_false (by omega),show ((!false)==true)=true by rfl,ct,rl,Bt7,Bt2 (a:=dig (Ap n2 s2).natAbs) (b:=[1]) (m:=1) rfl rfl (hf.le (by rw [hna];omega)),ctB]
    by_cases hone:(Ap n2 s2).natAbs=1
    · rw [hone,Yk,show decide (([1]:List Nat)=[1])=true by decide,ct,Azv,ct,tk2,Azw h1 (hf.le (by omega)),rl,hone,Yk]
      rw [Bub]
      have e2:cq ((Ap n1 s1:Int):Rat)=[.bool (decide (Ap n1 s1<0)),.imm (Ad (dig (Ap n1 s1).natAbs)) (dig (Ap n1 s1).natAbs).length 1 false false,.imm (Ad [1]) 1 1 false false]:=by
        unfold cq cqD RatD.av LS.av
        rw [Rat.num_intCast,Rat.den_intCast,Yk];rfl
      rw [e2];rfl
    · have hne : decide (dig (Ap n2 s2).natAbs = [1]) = false := by
        rw [decide_eq_false_iff_not];intro hh
        have:=congrArg val hh
        rw [Af] at this;simp [val] at this;omega
      rw [hne,cf]
      unfold Aoy Aiu
      have hg0:0<Nat.gcd (Ap n1 s1).natAbs (Ap n2 s2).natAbs:=Nat.gcd_pos_of_pos_right _ (by omega)
      have hgl:(dig (Nat.gcd (Ap n1 s1).natAbs (Ap n2 s2).natAbs)).length≤s2.l.length:=Nat.le_trans (Bk (Nat.gcd_le_right _ (by omega))) (by rw [hna];exact l2)
      have hd1:Nat.gcd (Ap n1 s1).natAbs (Ap n2 s2).natAbs∣val s1.l:=by rw [← hna1];exact Nat.gcd_dvd_left _ _
      have hd2:Nat.gcd (Ap n1 s1).natAbs (Ap n2 s2).natAbs∣val s2.l:=by rw [← hna];exact Nat.gcd_dvd_right _ _
      obtain ⟨q1,q2⟩:=Bu0 (Ap n1 s1) (Ap n2 s2).natAbs hw
      rw [Azv,ct,Azv,ct,tk2,tk2,Bsv h1 h2 (hf.le (by omega))]
      generalize hgd:Nat.gcd (Ap n1 s1).natAbs (Ap n2 s2).natAbs=g at *
      rw [show ((Nat.beq 0 0)&&((Nat.beq (List.length (Ep (g:Int))) 2)&&(Nat.beq 2 2)))=true by rfl,ct,ct,show Nat.ble 2 (List.length (Ep (g:Int)))=true by rfl,ct,tkc,Ar8 h1 hg0 hd1 (hf.le (by omega))]
      rw [show ∀ z:Int,((Nat.beq 0 0)&&((Nat.beq (List.length (Ep z)) 2)&&(Nat.beq 2 2)))=true from fun z=>rfl,ct,show ((Nat.beq 0 0)&&((Nat.beq (List.length (Ep 0)) 2)&&(Nat.beq 2 2)))=true by rfl,ct,ct,Ar8 h2 hg0 hd2 (hf.le (by omega))]
      have hwz:Ap n2 s2/(g:Int)=(((Ap n2 s2).natAbs/g:Nat):Int):=by
        rw [show Ap n2 s2=(((Ap n2 s2).natAbs:Nat):Int) by omega];rfl
      rw [show ∀ z:Int,((Nat.beq 0 0)&&((Nat.beq (List.length (Ep z)) 2)&&(Nat.beq 2 2)))=true from fun z=>rfl,ct,ct,rb,hwz,decide_eq_false (by omega),cf,show ∀ z:Int,Nat.ble 2 (List.length (Ep z))=true from fun z=>rfl,ct,rl,Int.natAbs_natCast,← q2]
      rw [← q1];rfl
theorem Buc {N:Nat} {z w:Int} {o o':Bool} {K:LA→Option R} (hw:0≤w) (hf:fit (4*((dig z.natAbs).length+(dig w.natAbs).length)+10) N):Pd N (Ep z) o (Ep w) o' K=K (cq (mkRat z w.natAbs)):=by
  have:=A90 (R:=R) (N:=N) (n1:=decide (z<0)) (s1:=.of (dig z.natAbs) false false) (n2:=decide (w<0)) (s2:=.of (dig w.natAbs) false false) (o1:=o) (o2:=o') (K:=K) (Ab _) (Ab _) (by rw [G8];exact hw) hf
  rw [G8,G8] at this;exact this
theorem Vr {N:Nat} {x:RatD} {o:Bool} {K:LA→Option R} (hx:x.ok) (hf:fit (8*x.m+10) N):P4 N x.av o K=K (cq x.q):=by
  have m1:x.ns.l.length≤x.m:=Nat.le_max_left _ _
  have m2:x.ds.l.length≤x.m:=Nat.le_max_right _ _
  rw [A1w];unfold A5s A5r
  rw [show Nat.ble 2 (List.length x.av)=true by rfl,ct,Bgr,Bvn,ofA,A90 (s2:=.of x.ds.l false o) hx.1 hx.2 (by unfold Ap;simp) (hf.le (show 4*(x.ns.l.length+x.ds.l.length)+10≤_ by omega))]
  have:mkRat (Ap x.neg x.ns) (Ap false (.of x.ds.l false o)).natAbs=x.q:=by rw [B7];rfl
  rw [this];exact Bkb _ _
theorem Ahp {N:Nat} {x:RatD} {o:Bool} {K:LA→Option R} (hx:x.ok) (hf:fit (8*x.m+10) N):Xz N x.av o K=K (Ep (x.q.den:Int)):=by
  rw [A8l];unfold Bee Bed
  rw [Hx,ct,C5,Vr hx hf]
  have:=Bgr (R:=R) (x:=cqD x.q) (f:=fun e f=>K [(.bool false),(.imm e f 1 false false)])
  refine this.trans ?_
  unfold Ep;rw [decide_eq_false (by omega),Int.natAbs_natCast];rfl
theorem A91 (x:RatD) (hx:x.ok):qm x.q≤x.m+1:=by
  have m1:x.ns.l.length≤x.m:=Nat.le_max_left _ _
  have m2:x.ds.l.length≤x.m:=Nat.le_max_right _ _
  unfold qm
  by_cases h:val x.ds.l=0
  · have:x.q=0:=by unfold RatD.q;rw [h,Rat.mkRat_zero]
    rw [this,Rat.zero_num,Rat.zero_den,Yk];simp [C3]
  · obtain ⟨a1,_,a3⟩:=Bgq (Ap x.neg x.ns) (val x.ds.l) h
    have b1:x.q.num.natAbs≤val x.ns.l:=by show (mkRat _ _).num.natAbs≤_;rw [a1,B7];exact Nat.div_le_self _ _
    have b2:x.q.den≤val x.ds.l:=by show (mkRat _ _).den≤_;rw [a3];exact Nat.div_le_self _ _
    have c1:=Nat.le_trans (Bk b1) (Bc hx.1).2
    have c2:=Nat.le_trans (Bk b2) (Bc hx.2).2
    omega
theorem Bvq (z:Int) (d:Nat) (k:Nat) (h1:z.natAbs<4294967296 ^ k) (h2:d<4294967296 ^ k) (hd:d≠0):qm (mkRat z d)≤k:=by
  obtain ⟨a1,_,a3⟩:=Bgq z d hd
  unfold qm
  have b1:(mkRat z d).num.natAbs≤z.natAbs:=by rw [a1];exact Nat.div_le_self _ _
  have b2:(mkRat z d).den≤d:=by rw [a3];exact Nat.div_le_self _ _
  have c1:=Dd (Nat.lt_of_le_of_lt b1 h1)
  have c2:=Dd (Nat.lt_of_le_of_lt b2 h2)
  omega
theorem A6y (q:Rat):q.num.natAbs<4294967296 ^ qm q:=Bt9 (Nat.le_max_left _ _)
theorem Ar9 (q:Rat):q.den<4294967296 ^ qm q:=Bt9 (Nat.le_max_right _ _)
theorem Bqk (a b:Rat):qm (a+b)≤qm a+qm b+1:=by
  rw [Rat.add_def']
  have da:((a.den:Nat):Int).natAbs<4294967296 ^ qm a:=by rw [Int.natAbs_natCast];exact Ar9 a
  have db:((b.den:Nat):Int).natAbs<4294967296 ^ qm b:=by rw [Int.natAbs_natCast];exact Ar9 b
  refine Bvq _ _ _ ?_ ?_ (Nat.mul_ne_zero a.den_nz b.den_nz)
  · refine A3j (K9 (A6y a) db) ?_
    have:=K9 (A6y b) da
    rwa [Nat.add_comm (qm b)] at this
  · rw [Nat.pow_succ,Nat.pow_add]
    have:=Nat.mul_lt_mul'' (Ar9 a) (Ar9 b)
    omega
theorem Bud (a b:Rat):qm (a*b)≤qm a+qm b:=by
  rw [Rat.mul_def']
  refine Bvq _ _ _ (K9 (A6y a) (A6y b)) ?_ (Nat.mul_ne_zero a.den_nz b.den_nz)
  rw [Nat.pow_add];exact Nat.mul_lt_mul'' (Ar9 a) (Ar9 b)
theorem Bue (a:Rat):qm (-a)=qm a:=by unfold qm;rw [Rat.neg_num,Rat.neg_den,Int.natAbs_neg]
theorem Bgt (a b:Rat):qm (a - b)≤qm a+qm b+1:=by rw [Rat.sub_eq_add_neg,← Bue b];exact Bqk _ _
theorem Bv4 {v:Int} (h:v.natAbs<18446744073709551616):qm (v:Rat)≤2:=by
  unfold qm;rw [Rat.num_intCast,Rat.den_intCast,Yk]
  have:=Al8 h
  simp;omega
theorem mkq {a:Int} {b:Nat}:mkRat a ((b:Int)).natAbs=mkRat a b:=by rw [Int.natAbs_natCast]
theorem Bql {N:Nat} {x:RatD} {o:Bool} {K:LA→Option R} (hx:x.ok) (hf:fit (16*x.m+40) N):A1x N x.av o K=K (cq (-x.q)):=by
  have hq:=A91 x hx
  have q1:(dig x.q.num.natAbs).length≤qm x.q:=Nat.le_max_left _ _
  have q2:(dig x.q.den).length≤qm x.q:=Nat.le_max_right _ _
  rw [A8m];unfold Bei Beh
  rw [Hx,ct,C5,Vr hx (hf.le (by omega)),Brm,ct,Bmg,Bwx (hf.le (show (dig x.q.num.natAbs).length≤_ by omega)),ct,Ahp hx (hf.le (by omega)),Buc (by omega) (hf.le (show 4*((dig (-x.q.num).natAbs).length+(dig ((x.q.den:Nat):Int).natAbs).length)+10≤_ by rw [Int.natAbs_neg,Int.natAbs_natCast];omega)),mkq]
  have:mkRat (-x.q.num) x.q.den=-x.q:=by rw [← Rat.neg_mkRat,Rat.mkRat_self]
  rw [this];exact Bkb _ _
theorem Bqm {N:Nat} {x y:RatD} {o o':Bool} {K:LA→Option R} (hx:x.ok) (hy:y.ok) (hf:fit (16*(x.m+y.m)+80) N):A1z N x.av o y.av o' K=K (cq (x.q+y.q)):=by
  have hqx:=A91 x hx
  have hqy:=A91 y hy
  have x1:=A6y x.q
  have x2:((x.q.den:Nat):Int).natAbs<4294967296 ^ qm x.q:=by rw [Int.natAbs_natCast];exact Ar9 _
  have y1:=A6y y.q
  have y2:((y.q.den:Nat):Int).natAbs<4294967296 ^ qm y.q:=by rw [Int.natAbs_natCast];exact Ar9 _
  have L1:=Dd x1
  have L2:=Dd x2
  have L3:=Dd y1
  have L4:=Dd y2
  have z1:=K9 x1 y2
  have z2:=K9 y1 x2
  have z3:=A3j (k:=qm x.q+qm y.q) z1 (by rwa [Nat.add_comm])
  have z4:=K9 x2 y2
  have M1:=Dd z1
  have M2:=Dd z2
  have M3:=Dd z3
  have M4:=Dd z4
  rw [A8p];unfold Bev Beu
  rw [Hx,ct,C5,Vr hx (hf.le (by omega)),Hx,ct,C5,Vr hy (hf.le (by omega)),show ∀ q,((Nat.beq 0 0)&&((Nat.beq (List.length (cq q)) 3)&&(Nat.beq 3 3)))=true from fun q=>rfl,ct,show ∀ q,((Nat.beq 0 0)&&((Nat.beq (List.length (cq q)) 3)&&(Nat.beq 3 3)))=true from fun q=>rfl,ct,Brm,ct,ct,Ahp hy (hf.le (by omega)),Bmg,Bv3 (hf.le (show (dig x.q.num.natAbs).length+(dig ((y.q.den:Nat):Int).natAbs).length≤_ by omega)),Brm,ct,ct,Ahp hx (hf.le (by omega)),Bmg,Bv3 (hf.le (show (dig y.q.num.natAbs).length+(dig ((x.q.den:Nat):Int).natAbs).length≤_ by omega)),Bwy (hf.le (show (dig (x.q.num*((y.q.den:Nat):Int)).natAbs).length+(dig (y.q.num*((x.q.den:Nat):Int)).natAbs).length+1≤_ by omega)),ct,Ahp hx (hf.le (by omega)),ct,Ahp hy (hf.le (by omega)),Bv3 (hf.le (show (dig ((x.q.den:Nat):Int).natAbs).length+(dig ((y.q.den:Nat):Int).natAbs).length≤_ by omega)),Buc (Int.mul_nonneg (by omega) (by omega)) (hf.le (show 4*((dig (x.q.num*((y.q.den:Nat):Int)+y.q.num*((x.q.den:Nat):Int)).natAbs).length+(dig (((x.q.den:Nat):Int)*((y.q.den:Nat):Int)).natAbs).length)+10≤_ by omega))]
  have:mkRat (x.q.num*((y.q.den:Nat):Int)+y.q.num*((x.q.den:Nat):Int)) (((x.q.den:Nat):Int)*((y.q.den:Nat):Int)).natAbs=x.q+y.q:=by
    rw [Rat.add_def',Int.natAbs_mul,Int.natAbs_natCast,Int.natAbs_natCast]
  rw [this];exact Bkb _ _
theorem Bqn {N:Nat} {x y:RatD} {o o':Bool} {K:LA→Option R} (hx:x.ok) (hy:y.ok) (hf:fit (16*(x.m+y.m)+100) N):A10 N x.av o y.av o' K=K (cq (x.q - y.q)):=by
  have hqy:=A91 y hy
  rw [A8q];unfold Bez Bey
  rw [Hx,ct,Hx,ct,C5,C5,Bql hy (hf.le (by omega))]
  have:=Bqm (R:=R) (N:=N) (x:=x) (y:=cqD (-y.q)) (o:=o) (o':=false) (K:=fun e=>(cond ((Nat.beq 0 0)&&((Nat.beq (List.length e) 3)&&(Nat.beq 3 3))) (cond (Nat.ble 3 (List.length e)) (K (List.take 3 e)) none) none)) hx (Bua _) (hf.le (by rw [Bvp,Bue];omega))
  rw [Bvo,← Rat.sub_eq_add_neg] at this
  exact this.trans (Bkb _ _)
theorem Bos {N:Nat} {x:RatD} {o:Bool} {K:Int→Option R} (hx:x.ok) (hf:fit (8*x.m+10) N):Ap9 N x.av o K=K x.q.num.sign:=by
  have hq:=A91 x hx
  have q1:(dig x.q.num.natAbs).length≤qm x.q:=Nat.le_max_left _ _
  rw [A11];unfold A5z A5y
  rw [Hx,ct,C5,Vr hx hf,Brm,ct,Bmg,Bwq (hf.le (show (dig x.q.num.natAbs).length≤_ by omega))]
theorem Buf (a b:Rat):(a - b).num.sign=Abq a b:=by
  unfold Abq
  by_cases h:a<b
  · rw [if_pos h]
    have h1:a - b<0:=by grind
    have:(a - b).num<0:=by
      apply Int.not_le.1;intro h2
      exact absurd (Rat.num_nonneg.1 h2) (Rat.not_le.2 h1)
    exact Int.sign_eq_neg_one_of_neg this
  · rw [if_neg h]
    by_cases h2:b<a
    · rw [if_pos h2]
      have h1:0<a - b:=by grind
      have h3:0≤(a - b).num:=Rat.num_nonneg.2 (Rat.le_of_lt h1)
      have h4:(a - b).num≠0:=fun hh=>by
        have:=Rat.num_eq_zero.1 hh
        rw [this] at h1;exact absurd h1 Rat.lt_irrefl
      exact Int.sign_eq_one_of_pos (by omega)
    · rw [if_neg h2]
      have:a=b:=Rat.le_antisymm (Rat.not_lt.1 h2) (Rat.not_lt.1 h)
      rw [this,Rat.sub_self];rfl
theorem Bgu {N:Nat} {x y:RatD} {o o':Bool} {K:Int→Option R} (hx:x.ok) (hy:y.ok) (hf:fit (16*(x.m+y.m)+100) N):H2 N x.av o y.av o' K=K (Abq x.q y.q):=by
  have hqx:=A91 x hx
  have hqy:=A91 y hy
  have hs:=Bgt x.q y.q
  rw [Am1];unfold Akh Akg
  rw [Hx,ct,Hx,ct,C5,C5,Bqn hx hy hf]
  have:=Bos (R:=R) (N:=N) (x:=cqD (x.q - y.q)) (o:=false) (K:=fun g=>K g) (Bua _) (hf.le (by rw [Bvp];omega))
  rw [Bvo,Buf] at this
  exact this
theorem Bgv {N:Nat} {v:Int} {K:LA→Option R} (hv:-9223372036854775808≤v∧v≤9223372036854775807) (hN:4000≤N):Es N v K=K (cq (v:Rat)):=by
  have hl:=Al8 (show v.natAbs<18446744073709551616 by omega)
  rw [Amq];unfold Aiy Aix
  rw [Awb hv (by omega),Awb (by omega) (by omega),Buc (by omega) ⟨show 100*(4*((dig v.natAbs).length+(dig (1:Int).natAbs).length)+10)+1000≤N by (rw [show (1:Int).natAbs=1 by rfl,Yk];simp;omega),show 4*((dig v.natAbs).length+(dig (1:Int).natAbs).length)+10≤1000000000 by (rw [show (1:Int).natAbs=1 by rfl,Yk];simp;omega)⟩]
  have:mkRat v (1:Int).natAbs=(v:Rat):=Bub v
  rw [this];exact Bkb _ _
end
end Gx

namespace Gx
open Go Go.Proofs
section
variable {R:Type}
theorem tk3 (x:RatD):List.take 3 x.av=x.av:=rfl
theorem b3 (x:RatD):Nat.ble 3 (List.length x.av)=true:=rfl
theorem c3 (x:RatD):((Nat.beq 0 0)&&((Nat.beq (List.length x.av) 3)&&(Nat.beq 3 3)))=true:=rfl
theorem c4 (x y:RatD):((Nat.beq (List.length x.av) 3)&&((Nat.ble 3 (List.length y.av))&&(!false)))=true:=rfl
theorem c4' (x:RatD):((Nat.beq (List.length x.av) 3)&&(true&&(!false)))=true:=rfl
theorem Bu1 (x y:RatD):setCells x.av 0 y.av=y.av:=rfl
section
variable {N:Nat} {X:Option R} {K:LA→Option R} {x y:RatD} {o o':Bool} {p q:Rat}
theorem Bv5 (hx:x.can p) (hy:y.can q) (hf:fit (8*(qm p+qm q)+40) N) (h:∀ d:RatD,d.can (p+q)→K d.av=X):Ap5 N x.av o y.av o' K=X:=by
  obtain ⟨d,hd,e⟩:=Bj9 (R:=R) (N:=N) (o:=o) (o':=o') hx.ok hy.ok (by rw [hx.m,hy.m];exact hf)
  rw [e];exact h d (by rw [hx.q,hy.q] at hd;exact hd)
theorem Bv6 (hx:x.can p) (hy:y.can q) (hf:fit (8*(qm p+qm q)+40) N) (h:∀ d:RatD,d.can (p - q)→K d.av=X):Ap6 N x.av o y.av o' K=X:=by
  obtain ⟨d,hd,e⟩:=Bka (R:=R) (N:=N) (o:=o) (o':=o') hx.ok hy.ok (by rw [hx.m,hy.m];exact hf)
  rw [e];exact h d (by rw [hx.q,hy.q] at hd;exact hd)
theorem Bv7 (hx:x.can p) (hy:y.can q) (hf:fit (8*(qm p+qm q)+40) N) (h:∀ d:RatD,d.can (p*q)→K d.av=X):A5p N x.av o y.av o' K=X:=by
  obtain ⟨d,hd,e⟩:=Bss (R:=R) (N:=N) (o:=o) (o':=o') hx.ok hy.ok (by rw [hx.m,hy.m];exact hf)
  rw [e];exact h d (by rw [hx.q,hy.q] at hd;exact hd)
theorem Bv8 (hx:x.can p) (hy:y.can q) (hf:fit (8*(qm p+qm q)+40) N) (h:∀ d:RatD,d.can (if p≤q then p else q)→K d.av=X):A5m N x.av o y.av o' K=X:=by
  obtain ⟨d,hd,e⟩:=Bst (R:=R) (N:=N) (o:=o) (o':=o') hx.ok hy.ok (by rw [hx.m,hy.m];exact hf)
  rw [e];exact h d (by rw [hx.q,hy.q] at hd;exact hd)
theorem Ux {v:Int} (hv:-9223372036854775808≤v∧v≤9223372036854775807) (hN:4≤N) (h:∀ d:RatD,d.can (v:Rat)→K d.av=X):Cx N v K=X:=by
  obtain ⟨d,hd,e⟩:=Bh2 (R:=R) (N:=N) hv hN
  rw [e];exact h d hd
end
theorem Bu2 {q:Rat}:decide (q.num.sign≤0)=decide (q≤0):=by
  have e:q≤0↔q.num≤0:=by
    rw [Rat.le_iff_sub_nonneg,← Rat.num_nonneg,Rat.sub_eq_add_neg,Rat.zero_add,Rat.neg_num];omega
  rw [decide_eq_decide,e]
  rcases Int.lt_trichotomy q.num 0 with h | h | h
  · rw [Int.sign_eq_neg_one_of_neg h];omega
  · rw [h];simp
  · rw [Int.sign_eq_one_of_pos h];omega
theorem qi {v:Int} (h:-9223372036854775808≤v∧v≤9223372036854775807):qm (v:Rat)≤2:=Bv4 (by omega)
def Asa:Rat→List SegD→Rat
  | _,[]=>0
  | Q8,s::r=>if Q8≤0 then 0 else (s.price:Rat)*(if Q8≤(s.width:Rat) then Q8 else (s.width:Rat))+Asa (Q8 - (if Q8≤(s.width:Rat) then Q8 else (s.width:Rat))) r
def sgR (l:List SegD):Prop:=∀ s ∈ l,-1048576≤s.width∧s.width≤1048576∧-1048576≤s.price∧s.price≤1048576
theorem Bug {N:Nat} {X:Option R} {K:LA→Option R} {v:Int} {x:RatD} {q:Rat} {o:Bool} (hv:-9223372036854775808≤v∧v≤9223372036854775807) (hx:x.can q) (hf:fit (8*(2+qm q)+40) N) (h:∀ d:RatD,d.can ((v:Rat)*q)→K d.av=X):Aq1 N v x.av o K=X:=by
  rw [A2f];unfold A6d A6c
  refine Ux hv (by have:=hf.1;omega) fun d hd=>?_
  simp only [tk3,b3,ct]
  refine Bv7 hd hx (hf.le (by have:=qi hv;omega)) fun d' hd'=>?_
  simp only [tk3,b3,c3,ct]
  exact h d' hd'
theorem Bu3 {N:Nat} {X:Option R} {K:LA→Option R} {l:List SegD} {d:Bool} {A:Nat} (hl:sgR l) (h8:l.length≤8) (hA:2≤A) (hf:fit (100*A+6000) N):∀ (m j fuel:Nat) (x y:RatD) (p q:Rat),j+m=l.length→m<fuel→x.can p→y.can q→qm p≤A+3*j→qm q≤2+j*(A+31) →
    (∀ d:RatD,d.can (q+Asa p (l.drop j))→K d.av=X)→D5 N K (l.flatMap SegD.av) l.length d fuel (l.length:Int) (j:Int) x.av y.av=X:=by
  intro m
  induction m with
  | zero =>
    intro j fuel x y p q hj hfu hx hy _ _ hX
    obtain ⟨fuel,rfl⟩:∃ k,fuel=k+1:=⟨fuel - 1,by omega⟩
    rw [D5];unfold Iq
    rw [ltF (by omega),cf]
    simp only [tk3,b3,c3,ct]
    rw [Bgd (l:=l) (by omega)] at hX
    exact hX y (by rw [Asa,Rat.add_zero];exact hy)
  | succ m ih =>
    intro j fuel x y p q hj hfu hx hy hp hq hX
    obtain ⟨fuel,rfl⟩:∃ k,fuel=k+1:=⟨fuel - 1,by omega⟩
    rw [D5];unfold Iq
    have h:j<l.length:=by omega
    have hj8:j≤8:=by omega
    have hr:=hl l[j] (List.getElem_mem h)
    have hjA:j*(A+31)≤8*(A+31):=Nat.mul_le_mul_right _ hj8
    rw [ltT h,ct,Ah h,ct,Ar2 h]
    have p0:List.take 2 ((AV.int .i64 l[j].width)::(AV.int .i64 l[j].price)::(l.drop (j+1)).flatMap SegD.av)=[(.int .i64 l[j].width),(.int .i64 l[j].price)]:=rfl
    rw [p0,show Nat.ble 2 (List.length ((AV.int .i64 l[j].width)::(AV.int .i64 l[j].price)::(l.drop (j+1)).flatMap SegD.av))=true by simp,ct]
    rw [show ((!d)||Bu [(AV.int .i64 l[j].width),(.int .i64 l[j].price)])=true by cases d<;>rfl,ct]
    rw [show ((Nat.beq (List.length [(AV.int .i64 l[j].width),(.int .i64 l[j].price)]) 2)&&((Nat.ble 2 2)&&(!false)))=true from rfl,ct]
    simp only [tk3,b3,c3,ct,Bgf,At2]
    rw [K8 hx.ok (hf.le (by rw [hx.m];omega)),hx.q,Bu2]
    rw [Bgc h,Asa] at hX
    by_cases hp0:p≤0
    · rw [decide_eq_true hp0,ct]
      rw [if_pos hp0,Rat.add_zero] at hX
      exact hX y hy
    · rw [decide_eq_false hp0,cf]
      rw [if_neg hp0] at hX
      refine Ux (by omega) (by have:=hf.1;omega) fun wd hwd=>?_
      have hqw:=qi (v:=l[j].width) (by omega)
      have hqp:=qi (v:=l[j].price) (by omega)
      refine Bv8 hx hwd (hf.le (by omega)) fun pd hpd=>?_
      simp only [tk3,b3,c3,ct]
      generalize hpart:(if p≤(l[j].width:Rat) then p else (l[j].width:Rat))=part at hpd hX
      have hqpart:qm part≤A+3*j:=by rw [← hpart];split<;>omega
      refine Bug (by omega) hpd (hf.le (by omega)) fun td htd=>?_
      have hqt:qm ((l[j].price:Rat)*part)≤2+(A+3*j):=by have:=Bud (l[j].price:Rat) part;omega
      refine Bv5 hy htd (hf.le (by omega)) fun ad had=>?_
      rw [c4',ct]
      refine Bv6 hx hpd (hf.le (by omega)) fun sd hsd=>?_
      rw [c4',ct,Bu1,Bu1]
      rw [wS (by omega)]
      have hqa:qm (q+(l[j].price:Rat)*part)≤2+(j+1)*(A+31):=by
        have:=Bqk q ((l[j].price:Rat)*part)
        rw [Nat.add_mul];omega
      have hqs:qm (p - part)≤A+3*(j+1):=by
        rw [← hpart]
        split
        · rw [Rat.sub_self]
          have:qm ((0:Int):Rat)≤2:=qi (by omega)
          have e:((0:Int):Rat)=0:=rfl
          rw [e] at this;omega
        · have:=Bgt p (l[j].width:Rat);omega
      refine ih (j+1) fuel sd ad _ _ (by omega) (by omega) hsd had hqs hqa fun d hd=>hX d ?_
      rw [← Rat.add_assoc];exact hd
def RatD.is (x:RatD) (q:Rat) (m:Nat):Prop:=x.ok∧x.q=q∧x.m≤m
theorem RatD.can.is {x:RatD} {q:Rat} {m:Nat} (h:x.can q) (hm:qm q≤m):x.is q m:=⟨h.ok,h.q,by rw [h.m];exact hm⟩
def Bap:RatD:=⟨false,.nil,.nil⟩
theorem Aei {m:Nat}:Bap.is 0 m:=by
  refine ⟨⟨?_,?_⟩,?_,?_⟩
  · intro x hx;simp [Bap,LS.l] at hx
  · intro x hx;simp [Bap,LS.l] at hx
  · simp [Bap,RatD.q,LS.l,Ap,val]
  · simp [Bap,RatD.m,LS.l]
theorem RatD.is.qm {x:RatD} {q:Rat} {m:Nat} (h:x.is q m):qm q≤m+1:=by
  have:=A91 x h.1
  rw [h.2.1] at this;have:=h.2.2;omega
section
variable {N:Nat} {X:Option R} {K:LA→Option R} {K':Int→Option R} {x y:RatD} {o o':Bool} {p q:Rat} {m n:Nat}
theorem Bu4 (hx:x.is p m) (hy:y.is q n) (hf:fit (8*(m+n)+40) N) (h:∀ d:RatD,d.can (p - q)→K d.av=X):Ap6 N x.av o y.av o' K=X:=by
  obtain ⟨d,hd,e⟩:=Bka (R:=R) (N:=N) (o:=o) (o':=o') hx.1 hy.1 (hf.le (by have:=hx.2.2;have:=hy.2.2;omega))
  rw [e];exact h d (by rw [hx.2.1,hy.2.1] at hd;exact hd)
theorem Bu5 (hx:x.is p m) (hy:y.is q n) (hf:fit (4*(m+n)+10) N):Gj N x.av o y.av o' K'=K' (Abq p q):=by
  rw [Af1 hx.1 hy.1 (hf.le (by have:=hx.2.2;have:=hy.2.2;omega)),hx.2.1,hy.2.1]
theorem Bv9 (hx:x.is p m) (hy:y.is q n) (hf:fit (16*(m+n)+100) N):H2 N x.av o y.av o' K'=K' (Abq p q):=by
  rw [Bgu hx.1 hy.1 (hf.le (by have:=hx.2.2;have:=hy.2.2;omega)),hx.2.1,hy.2.1]
theorem Bot {v:Int} (hv:-9223372036854775808≤v∧v≤9223372036854775807) (hN:4000≤N):Es N v K=K (cqD (v:Rat)).av:=Bgv hv hN
end
theorem Bwr {q:Rat} {m:Nat} (h:qm q≤m):(cqD q).is q m:=(Ba5 q).is h
theorem qiI {v:Int} (h:-9223372036854775808≤v∧v≤9223372036854775807):(cqD (v:Rat)).is v 2:=Bwr (qi h)
theorem Bwa {p q:Rat}:decide (Abq p q≥0)=decide (q≤p):=by
  rw [decide_eq_decide];unfold Abq
  by_cases h:p<q
  · rw [if_pos h];simp [Rat.not_le.2 h]
  · rw [if_neg h];have:=Rat.not_lt.1 h;simp only [this,iff_true];split<;>omega
theorem Bwb {p q:Rat}:decide (Abq p q≤0)=decide (p≤q):=by rw [decide_eq_decide];exact Bmf
def inQ (p:Rat) (lo hi:Int):Bool:=decide ((lo:Rat)≤p)&&decide (p≤(hi:Rat))
theorem A92 {N:Nat} {K:Bool→Option R} {x:RatD} {p:Rat} {m:Nat} {o:Bool} {lo hi:Int} (hx:x.is p m) (h1:-9223372036854775808≤lo∧lo≤9223372036854775807) (h2:-9223372036854775808≤hi∧hi≤9223372036854775807) (hf:fit (4*(m+2)+10) N) (hN:4≤N):Y5 N x.av o lo hi K=K (inQ p lo hi):=by
  rw [Avx];unfold Aza Ay9
  rw [b3,ct,tk3]
  refine Ux h1 hN fun a ha=>?_
  rw [Bu5 hx (ha.is (qi h1)) hf,Bwa]
  refine (congrArg (cond _ · _) (Ux (X:=K (decide (p≤(hi:Rat)))) h2 hN fun b hb=>?_)).trans ?_
  · rw [Bu5 hx (hb.is (qi h2)) hf,Bwb];rfl
  · unfold inQ;cases decide ((lo:Rat)≤p)<;>rfl
theorem Bqo {N:Nat} {X:Option R} {K:LA→Option R} {u:UnitD} {x:RatD} {o o':Bool} {p:Rat} {m:Nat} (hx:x.is p m) (hl:sgR u.segs.l) (h8:u.segs.l.length≤8) (hu:-1048576≤u.min∧u.min≤1048576) (hf:fit (100*(m+8)+6000) N)
    (h:∀ d:RatD,d.can (Asa (p - (u.min:Rat)) u.segs.l)→K d.av=X):Ku N u.av o x.av o' K=X:=by
  rw [Aa7];unfold V7 V6
  rw [b3,ct,tk3,u2]
  refine Ux (by omega) (by have:=hf.1;omega) fun a ha=>?_
  refine Bu4 hx (ha.is (qi (by omega))) (hf.le (by omega)) fun r hr=>?_
  rw [c3,ct]
  refine Ux (by omega) (by have:=hf.1;omega) fun z hz=>?_
  rw [c3,ct,u4]
  have hq:qm (p - (u.min:Rat))≤m+4:=by have:=Bgt p (u.min:Rat);have:=hx.qm;have:=qi (v:=u.min) (by omega);omega
  refine Bu3 (A:=m+4) hl h8 (by omega) (hf.le (by omega)) u.segs.l.length 0 N r z (p - (u.min:Rat)) ((0:Int):Rat) (by omega) (by have:=hf.1;omega) hr hz (by omega) (by have:=qi (v:=0) (by omega);omega) fun d hd=>?_
  exact h d (by rw [List.drop_zero,show (((0:Int):Rat))=0 from rfl,Rat.zero_add] at hd;exact hd)
end
end Gx

namespace Gx
open Go Go.Proofs
section
variable {R:Type}
theorem A6z {u:UnitD} {h:Int} (hv:K3 u h=true):(0≤u.min∧u.min≤1048576)∧(0≤u.max∧u.max≤1048576)∧u.min≤u.max:=by
  simp only [K3,Bool.and_eq_true,inR,decide_eq_true_eq] at hv
  exact ⟨hv.2.2.1,hv.2.2.2.1,hv.2.2.2.2.2.2.2.1⟩
theorem Amf {u:UnitD} {h:Int} (hv:K3 u h=true):u.segs.l.length≤8∧Abp (-1048576) u.segs.l=true∧A6r u.segs.l=u.max - u.min:=by
  simp only [K3,Bool.and_eq_true] at hv
  have:=hv.2.2.2.2.2.2.2.2.2.2.2.2.2.2.2.1
  simpa [A9w] using this
theorem Brn:∀ {l:List SegD} {p:Int},Abp p l=true→(∀ s ∈ l,1≤s.width∧s.width≤1048576∧-1048576≤s.price∧s.price≤1048576)
  | [],_,_,_,hs=>by simp at hs
  | a::r,p,h,s,hs=>by
    simp only [Abp,Bool.and_eq_true,inR,decide_eq_true_eq] at h
    rcases List.mem_cons.1 hs with rfl | hs
    · omega
    · exact Brn h.2.2.2 s hs
theorem A60 {u:UnitD} {h:Int} (hv:K3 u h=true):sgR u.segs.l:=fun s hs=>by
  have:=Brn (Amf hv).2.1 s hs;omega
def scE (u:UnitD) (p:Rat):Int:=cond (K3 u 24) (cond (inQ p u.min u.max) 0 3) 1
def scQ (u:UnitD) (p:Rat):Rat:=cond (K3 u 24&&inQ p u.min u.max) (Asa (p - (u.min:Rat)) u.segs.l) 0
theorem Bou {A:Nat}:∀ (l:List SegD) (p:Rat),sgR l→2≤A→qm p≤A→qm (Asa p l)≤2+l.length*(A+3*l.length+31)
  | [],p,_,_,_=>by
    have:qm (0:Rat)≤2:=qi (v:=0) (by omega)
    rw [Asa];simpa using this
  | s::r,p,hs,hA,hp=>by
    have hr:=hs s (by simp)
    have hqw:=qi (v:=s.width) (by omega)
    have hqp:=qi (v:=s.price) (by omega)
    have h0:qm (0:Rat)≤2:=qi (v:=0) (by omega)
    rw [Asa]
    split
    · omega
    · generalize hpart:(if p≤(s.width:Rat) then p else (s.width:Rat))=part
      have hqpart:qm part≤A:=by rw [← hpart];split<;>omega
      have hsub:qm (p - part)≤A+3:=by
        rw [← hpart];split
        · rw [Rat.sub_self];omega
        · have:=Bgt p (s.width:Rat);omega
      have h1:=Bou (A:=A+3) r (p - part) (fun s hs'=>hs s (by simp [hs'])) (by omega) hsub
      have h2:=Bud (s.price:Rat) part
      have h3:=Bqk ((s.price:Rat)*part) (Asa (p - part) r)
      rw [List.length_cons]
      have:A+3+3*r.length+31=A+3*(r.length+1)+31:=by omega
      rw [this] at h1
      rw [Nat.add_mul];omega
theorem Bwc {u:UnitD} {p:Rat} {m:Nat} (hp:qm p≤m+1):qm (scQ u p)≤8*m+800:=by
  have h0:qm (0:Rat)≤2:=qi (v:=0) (by omega)
  unfold scQ
  cases hv:K3 u 24 with
  | false=>simp only [Bool.false_and,cond_false];omega
  | true =>
    cases inQ p u.min u.max with
    | false=>simp only [Bool.and_false,cond_false];omega
    | true =>
      simp only [Bool.and_self,cond_true]
      have h1:=A6z hv
      have h2:=Amf hv
      have hq:qm (p - (u.min:Rat))≤m+4:=by have:=Bgt p (u.min:Rat);have:=qi (v:=u.min) (by omega);omega
      have:=Bou (A:=m+4) u.segs.l _ (A60 hv) (by omega) hq
      have h3:u.segs.l.length*(m+4+3*u.segs.l.length+31)≤8*(m+4+24+31):=Nat.mul_le_mul h2.1 (by omega)
      omega
theorem Bgw {N:Nat} {X:Option R} {K:LA→Int→Option R} {u:UnitD} {x:RatD} {o o':Bool} {p:Rat} {m:Nat} (hx:x.is p m) (ha:u.away.l.length≤1000) (hf:fit (200*(m+8)+12000) N) (hN:4000≤N)
    (h:∀ d:RatD,d.is (scQ u p) (8*m+800)→K d.av (scE u p)=X):Kv N u.av o x.av o' K=X:=by
  rw [Aa8];unfold V9 V8
  simp only [Ahl,Ta,ct,b3,tk3,u2,u3]
  rw [Uv (by omega) (by omega) (by omega)]
  unfold scE at h
  cases hv:K3 u 24 with
  | false =>
    rw [hv] at h
    exact h Bap (by unfold scQ;rw [hv];exact Aei)
  | true =>
    have h1:=A6z hv
    have h2:=Amf hv
    rw [hv] at h
    rw [show (!true)=false from rfl,cf,A92 hx (by omega) (by omega) (hf.le (by omega)) (by omega)]
    cases hi:inQ p u.min u.max with
    | false =>
      rw [hi] at h
      exact h Bap (by unfold scQ;rw [hv,hi];exact Aei)
    | true =>
      rw [hi] at h
      rw [show (!true)=false from rfl,cf]
      refine Bqo hx (A60 hv) h2.1 (by omega) (hf.le (by omega)) fun d hd=>?_
      rw [c3,ct,tk3,b3,ct]
      have e:scQ u p=Asa (p - (u.min:Rat)) u.segs.l:=by unfold scQ;rw [hv,hi];rfl
      exact h d ((e▸hd:d.can (scQ u p)).is (Bwc hx.qm))
end
end Gx

namespace Gx
open Go Go.Proofs
section
variable {R:Type}
def Bov (p:Rat):Int→Bool→Rat→List SegD→Bool×Rat
  | _,b,q,[]=>(b,q)
  | a,b,q,s::r=>cond (decide (Abq p (a:Rat)>0)&&decide (Abq p ((a+s.width:Int):Rat)≤0)) (Bov p (a+s.width) true (s.price:Rat) r) (Bov p (a+s.width) b q r)
def Bh4 (p:Rat):Int→Bool→Rat→List SegD→Bool×Rat
  | _,b,q,[]=>(b,q)
  | a,b,q,s::r=>cond (decide (Abq p (a:Rat)≥0)&&decide (Abq p ((a+s.width:Int):Rat)<0)) (Bh4 p (a+s.width) true (s.price:Rat) r) (Bh4 p (a+s.width) b q r)
theorem Bu6 {N:Nat} {X:Option R} {K:LA→LA→Bool→Bool→Option R} {l:List SegD} {d:Bool} {x:RatD} {o:Bool} {p:Rat} {m:Nat} (hx:x.is p m) (hl:sgR l) (h8:l.length≤8) (hf:fit (4*(m+2)+10) N) (hN:4000≤N):∀ (k j fuel:Nat) (a:Int) (bl bh:Bool) (ql qh:Rat) (xl xh:RatD),j+k=l.length→k<fuel→(-1048576*((j:Int)+1)≤a∧a≤1048576*((j:Int)+1))→xl.is ql 2→xh.is qh 2 →
    (∀ (y z:RatD),y.is (Bov p a bl ql (l.drop j)).2 2→z.is (Bh4 p a bh qh (l.drop j)).2 2→K y.av z.av (Bov p a bl ql (l.drop j)).1 (Bh4 p a bh qh (l.drop j)).1=X) →
    Da N K (l.flatMap SegD.av) l.length d o x.av fuel bl bh a (l.length:Int) (j:Int) xl.av xh.av=X:=by
  intro k
  induction k with
  | zero =>
    intro j fuel a bl bh ql qh xl xh hj hfu ha hl' hh' hX
    obtain ⟨fuel,rfl⟩:∃ k,fuel=k+1:=⟨fuel - 1,by omega⟩
    rw [Da];unfold Ns
    rw [ltF (by omega),cf]
    rw [Bgd (l:=l) (by omega)] at hX
    exact hX xl xh hl' hh'
  | succ k ih =>
    intro j fuel a bl bh ql qh xl xh hj hfu ha hl' hh' hX
    obtain ⟨fuel,rfl⟩:∃ k,fuel=k+1:=⟨fuel - 1,by omega⟩
    rw [Da];unfold Ns
    have h:j<l.length:=by omega
    have hr:=hl l[j] (List.getElem_mem h)
    rw [ltT h,ct,Ah h,ct,Ar2 h]
    have p0:List.take 2 ((AV.int .i64 l[j].width)::(AV.int .i64 l[j].price)::(l.drop (j+1)).flatMap SegD.av)=[(.int .i64 l[j].width),(.int .i64 l[j].price)]:=rfl
    rw [p0,show Nat.ble 2 (List.length ((AV.int .i64 l[j].width)::(AV.int .i64 l[j].price)::(l.drop (j+1)).flatMap SegD.av))=true by simp,ct]
    rw [show ((!d)||Bu [(AV.int .i64 l[j].width),(.int .i64 l[j].price)])=true by cases d<;>rfl,ct]
    rw [show ((Nat.beq (List.length [(AV.int .i64 l[j].width),(.int .i64 l[j].price)]) 2)&&((Nat.ble 2 2)&&(!false)))=true from rfl,ct]
    simp only [tk3,b3,ct,Bgf,At2]
    have e1:IntKind.wrap .i64 (a+l[j].width)=a+l[j].width:=i64 (by omega)
    rw [e1]
    refine Ux (by omega) (by omega) fun f1 hf1=>?_
    rw [Bu5 hx (hf1.is (qi (by omega))) hf]
    refine Ux (by omega) (by omega) fun f2 hf2=>?_
    rw [Bu5 hx (hf2.is (qi (by omega))) hf]
    rw [Bgc h] at hX
    simp only [Bov,Bh4] at hX
    generalize hA:Abq p (a:Rat)=A at hX ⊢
    generalize hB:Abq p ((a+l[j].width:Int):Rat)=B at hX ⊢
    have second : ∀ (bl' : Bool) (ql' : Rat) (xl' : RatD), xl'.is ql' 2 →
        (∀ (y z:RatD),y.is (Bov p (a+l[j].width) bl' ql' (l.drop (j+1))).2 2→z.is (cond (decide (A≥0)&&decide (B<0)) (Bh4 p (a+l[j].width) true (l[j].price:Rat) (l.drop (j+1))) (Bh4 p (a+l[j].width) bh qh (l.drop (j+1)))).2 2→K y.av z.av (Bov p (a+l[j].width) bl' ql' (l.drop (j+1))).1 (cond (decide (A≥0)&&decide (B<0)) (Bh4 p (a+l[j].width) true (l[j].price:Rat) (l.drop (j+1))) (Bh4 p (a+l[j].width) bh qh (l.drop (j+1)))).1=X) →
        Kw N (Da N K (l.flatMap SegD.av) l.length d o x.av fuel) K bh A B (l.flatMap SegD.av) l.length d (l.length:Int) (j:Int) o x.av xh.av bl' (a+l[j].width) xl'.av (setCells [(.int .i64 0),(.int .i64 0)] 0 [(.int .i64 l[j].width),(.int .i64 l[j].price)])=X:=by
      intro bl' ql' xl' hxl' hX'
      unfold Kw Wa
      rw [At2,wS (by omega)]
      cases hc:(decide (A≥0)&&decide (B<0)) with
      | true =>
        rw [hc] at hX'
        simp only [Bool.and_eq_true] at hc
        rw [hc.1,hc.2]
        refine Ux (by omega) (by omega) fun f3 hf3=>?_
        rw [c4,ct,Bu1]
        exact ih (j+1) fuel _ _ _ _ _ _ _ (by omega) (by omega) (by omega) hxl' (hf3.is (qi (by omega))) hX'
      | false =>
        rw [hc] at hX'
        have go:=ih (j+1) fuel (a+l[j].width) bl' bh ql' qh xl' xh (by omega) (by omega) (by omega) hxl' hh' hX'
        rw [go]
        cases h1:decide (A≥0) with
        | false=>rfl
        | true =>
          rw [h1,Bool.true_and] at hc
          rw [hc];rfl
    cases hc:(decide (A>0)&&decide (B≤0)) with
    | true =>
      rw [hc] at hX
      simp only [Bool.and_eq_true] at hc
      rw [hc.1,hc.2]
      refine Ux (by omega) (by omega) fun f3 hf3=>?_
      rw [c4',ct,Bu1]
      exact second true _ f3 (hf3.is (qi (by omega))) hX
    | false =>
      rw [hc] at hX
      rw [second bl ql xl hl' hX]
      cases h1:decide (A>0) with
      | false=>rfl
      | true =>
        rw [h1,Bool.true_and] at hc
        rw [hc];rfl
def mgB (u:UnitD) (p:Rat):Bool:=K3 u 24&&inQ p u.min u.max
def mgL (u:UnitD) (p:Rat):Bool×Rat:=cond (mgB u p) (Bov p u.min false 0 u.segs.l) (false,0)
def mgH (u:UnitD) (p:Rat):Bool×Rat:=cond (mgB u p) (Bh4 p u.min false 0 u.segs.l) (false,0)
theorem Bow {N:Nat} {X:Option R} {K:LA→LA→Bool→Bool→Option R} {u:UnitD} {x:RatD} {o o':Bool} {p:Rat} {m:Nat} (hx:x.is p m) (ha:u.away.l.length≤1000) (hf:fit (200*(m+8)+12000) N) (hN:4000≤N)
    (h:∀ y z:RatD,y.is (mgL u p).2 2→z.is (mgH u p).2 2→K y.av z.av (mgL u p).1 (mgH u p).1=X):Vl N u.av o x.av o' K=X:=by
  rw [Am6];unfold Ala Ak9
  simp only [Ahl,Ta,ct,b3,tk3,u2,u3]
  rw [Uv (by omega) (by omega) (by omega)]
  unfold mgL mgH mgB at h
  cases hv:K3 u 24 with
  | false =>
    rw [hv] at h
    exact h Bap Bap Aei Aei
  | true =>
    have h1:=A6z hv
    have h2:=Amf hv
    rw [hv,Bool.true_and] at h
    rw [show ((!true)==false)=true from rfl,ct,A92 hx (by omega) (by omega) (hf.le (by omega)) (by omega)]
    cases hi:inQ p u.min u.max with
    | false =>
      rw [hi] at h
      exact h Bap Bap Aei Aei
    | true =>
      rw [hi] at h
      rw [show (cond false true (!true))=false from rfl,cf]
      unfold Aa9 Wb
      rw [u2,u4]
      exact Bu6 hx (A60 hv) h2.1 (hf.le (by omega)) hN u.segs.l.length 0 N u.min false false 0 0 Bap Bap (by omega) (by omega) (by omega) Aei Aei h
end
end Gx

namespace Gx
open Go Go.Proofs
set_option maxRecDepth 100000
section
variable {R:Type}
def exU:UnitD:={ name:=[],bus:=0,min:=10,max:=40,segs:=.of [⟨20,3⟩,⟨10,5⟩] false false,noLoad:=0,rampUp:=5,rampDown:=10,startRamp:=15,stopRamp:=15,upTime:=0,downTime:=0,startTime:=0,hotCost:=0,coldCost:=0,hotHours:=0,reserve:=0,reservePrice:=0,away:=.nil,state:=2,hours:=1,output:=12 }
theorem Bu7 {N:Nat} {K:LA→Option R}:My N K=K exU.av:=by rw [Adp];rfl
def s21:List AV:=[.int .i64 2,.int .i64 1]
def s01:List AV:=[.int .i64 0,.int .i64 1]
def Buh:List AV:=[.int .i64 2,.int .i64 2,.int .i64 0]
theorem Bu8 {n:Nat} {o:Bool} {K:LA→Option R}:A2l (n+64) exU.av o K=K []:=by rw [A9g];kernel_rfl
theorem A3l {n:Nat} {o:Bool} {K:Bool→Option R}:M0 (n+64) exU.av o K=K true:=by
  rw [Av8 (by omega)];rfl
theorem Bmh {n:Nat} {o:Bool} {K:Int→Int→Option R}:Ald (n+64) exU.av o K=K 1 1:=by
  rw [A9h];unfold Bfn Bfm
  rw [Ahl,ct,Ta,A3l];kernel_rfl
theorem Bu9 {n:Nat} {o:Bool} {K:LA→Option R}:Abc (n+64) exU.av o K=K s21:=by
  rw [Ard];unfold Arc Arb
  simp only [Ahl,ct,Ta,A3l,Bmh];kernel_rfl
theorem Bwd {n:Nat} {o o':Bool} {K:Int→Option R}:Vm (n+64) exU.av o s21 o' K=K 1:=by
  rw [Am9];unfold Alh Alg Abd Wc
  simp only [Ahl,ct,Ta,A3l,Bmh];kernel_rfl
theorem Bmi {n:Nat} {o:Bool} {K:LA→Nat→Option R}:Ad7 (n+64) exU.av o s21 false K=K (s01++s21) 2:=by
  rw [A9j];unfold Bfs Bfr
  rw [show List.take 2 s21=s21 from rfl]
  simp only [Ahl,ct,Ta,Bwd,Bmh];kernel_rfl
theorem Bui {N:Nat} {k h v:Int} {o:Bool} {K:Bool→Option R}:Kx N [.int .i64 k,.int .i64 h] o v K=K (k==v):=by
  rw [Arn];rfl
theorem Bro {n:Nat} {a:Bool} {K:Int→Option R}:An (n+64) (s01++s21) 2 a false 2 K=K 1:=by
  rw [Bi]
  change Kx _ s01 _ _ _=_
  rw [s01,Bui]
  change Kx _ s21 _ _ _=_
  rw [s21,Bui];rfl
theorem Bva {n:Nat} {a:Bool} {K:Int→Option R}:An (n+64) (s01++s21) 2 a false 0 K=K 0:=by
  rw [Bi]
  change Kx _ s01 _ _ _=_
  rw [s01,Bui];rfl
theorem Bvb {n:Nat} {o a b:Bool} {K:Nat→Int→Int→LA→Option R}:A2p (n+64) exU.av o Buh 3 a b K=K 3 3 0 (s21++s21++s01):=by
  rw [A9n];unfold Bfy Bfx
  simp only [Ahl,ct,Ta,A3l,Bu8,Bu9]
  change Ad7 _ exU.av _ s21 _ _=_
  rw [Bmi]
  change An _ (s01++s21) 2 _ _ _ _=_
  rw [Bro]
  change Ad7 _ exU.av _ s21 _ _=_
  rw [Bmi]
  change An _ (s01++s21) 2 _ _ _ _=_
  rw [Bro]
  change Ad7 _ exU.av _ s21 _ _=_
  rw [Bmi]
  change An _ (s01++s21) 2 _ _ _ _=_
  rw [Bva]
  kernel_rfl
theorem Bwe {n:Nat} {o a b:Bool} {K:Nat→LA→Option R}:Abh (n+64) exU.av o 3 Buh 3 a b K=K 3 [.int .i64 10,.int .i64 17,.int .i64 10,.int .i64 22,.int .i64 0,.int .i64 0]:=by
  rw [Arq];kernel_rfl
theorem Bwf {n:Nat} {o a b:Bool} {K:LA→Option R}:Vn (n+64) exU.av o 3 Buh 3 a b [.int .i64 10,.int .i64 17,.int .i64 10,.int .i64 22,.int .i64 0,.int .i64 0] K=K [.int .i64 10,.int .i64 17,.int .i64 10,.int .i64 15,.int .i64 0,.int .i64 0]:=by
  rw [Anb];kernel_rfl
theorem Bwg {n:Nat} {o a b:Bool} {K:Nat→Int→LA→Option R}:Vo (n+64) exU.av o 3 Buh 3 a b K=K 3 0 [.int .i64 10,.int .i64 17,.int .i64 10,.int .i64 15,.int .i64 0,.int .i64 0]:=by
  rw [And];unfold Alo Aln
  rw [Ahl,ct,Ta,Uv (by omega) (by decide) (by simp [exU,Sl.l]),show K3 exU 3=true from rfl]
  rw [Bvb]
  unfold Abl Wd
  rw [Ahl,ct,Ta,Bwe,Bwf]
  kernel_rfl
theorem Bgx (q:Rat):Abq q q=0:=by
  unfold Abq
  rw [if_neg (Rat.lt_irrefl),if_neg (Rat.lt_irrefl)]
theorem Bqp {N:Nat} {K:Bool→Option R} (hf:fit 100000 N):Ey N K=K true:=by
  have hN:4000≤N:=by have:=hf.1;omega
  obtain ⟨n,rfl⟩:∃ n,N=n+64:=⟨N - 64,by omega⟩
  rw [Ane];unfold Alq Alp
  rw [Bu7,show ((Nat.beq 0 0)&&((Nat.beq (List.length exU.av) 22)&&(Nat.beq 22 22)))=true from rfl,ct,Ahl,ct,Ta,Bot (by omega) hN]
  refine Bgw (m:=2) (qiI (by omega)) (by decide) (hf.le (by omega)) hN fun d hd=>?_
  rw [show scE exU ((35:Int):Rat)=0 by kernel_rfl]
  rw [show scQ exU ((35:Int):Rat)=((85:Int):Rat) by kernel_rfl] at hd
  rw [c3,ct,ct,Bot (by omega) hN]
  refine Bow (m:=2) (qiI (by omega)) (by decide) (hf.le (by omega)) hN fun y z hy hz=>?_
  rw [show mgL exU ((30:Int):Rat)=(true,((3:Int):Rat)) by kernel_rfl] at hy ⊢
  rw [show mgH exU ((30:Int):Rat)=(true,((5:Int):Rat)) by kernel_rfl] at hz ⊢
  rw [c3,ct,c3,ct,ct]
  rw [show [(AV.int .i64 2),(.int .i64 2),(.int .i64 0)]=Buh from rfl,Bwg,b3,ct,tk3,Bot (by omega) hN,Bv9 hd (qiI (by omega)) (hf.le (by omega)),Bgx]
  rw [b3,tk3,Bot (by omega) hN,Bv9 hy (qiI (by omega)) (hf.le (by omega)),Bgx]
  rw [b3,tk3,Bot (by omega) hN,Bv9 hz (qiI (by omega)) (hf.le (by omega)),Bgx]
  rfl
end
end Gx

namespace Gx
open Go Go.Proofs
section
variable {R:Type}
theorem Bqq {N:Nat} {u:UnitD} {b:Bool} {K:Bool→Option R}:Vg N u.av b K=K (decide (u.away.l.length≤40)&&decide (u.segs.l.length≤20)):=by
  rw [Am2];unfold Akj Aki
  rw [u18,u4]
  by_cases h:u.away.l.length≤40
  · rw [show (decide ((u.away.l.length:Int)≤40)==true)=true by simp;omega,ct,ctB,decide_eq_true h,Bool.true_and]
    congr 1;rw [decide_eq_decide];omega
  · rw [show (decide ((u.away.l.length:Int)≤40)==true)=false by simp;omega,cf,decide_eq_false h];rfl
variable {N:Nat} {K:Bool→Option R} {a:List UInt8} {b d e:Int} {sg:List SegD} {c:Bool} {g i j l m t u w n o x p q:Int} {aw:List Int} {ab:Bool} {z aa r:Int}
def mkU (a:List UInt8) (b d e:Int) (sg:List SegD) (c:Bool) (g i j l m t u w n o x p q:Int) (aw:List Int) (ab:Bool) (z aa r:Int):UnitD :=
  ⟨a,b,d,e,.of sg false c,g,i,j,l,m,t,u,w,n,o,x,p,q,.of aw false ab,z,aa,r⟩
theorem Bqr:[AV.str a,(.int .i64 b),(.int .i64 d),(.int .i64 e),(.imm (sg.flatMap SegD.av) sg.length 2 false c),(.int .i64 g),(.int .i64 i),(.int .i64 j),(.int .i64 l),(.int .i64 m),(.int .i64 t),(.int .i64 u),(.int .i64 w),(.int .i64 n),(.int .i64 o),(.int .i64 x),(.int .i64 p),(.int .i64 q),(.imm (Eo aw) aw.length 1 false ab),(.int .i64 z),(.int .i64 aa),(.int .i64 r)] =
    (mkU a b d e sg c g i j l m t u w n o x p q aw ab z aa r).av:=by
  rw [← At0];rfl
theorem Bwh {u:UnitD} {b:Bool} {H:Int} (hf:fit 100000 N) (ha:u.away.l.length≤1000):Ey N (fun dm=>cond (dm==true) (Hp N u.av b H fun x=>Jp N u.av b H fun y=>K (cond true (x==y) false)) (K false))=K true:=by
  have hN:4000≤N:=by have:=hf.1;omega
  rw [Bqp hf,show (true==true)=true from rfl,ct,Uv (by omega) (by omega) (by omega),Bgg (by omega) (by omega) (by omega)]
  cases K3 u H<;>rfl
theorem Azx (hf:fit 100000 N) {ae ah:Bool} {ac ad ag:Int} {ai:Bool}:G7 N a b d e (sg.flatMap SegD.av) sg.length ae c g i j l m t u w n o x p q (Eo aw) aw.length ah ab z aa r ac ad ag ai K=K true:=by
  have hN:4000≤N:=by have:=hf.1;omega
  rw [Ov];unfold K2 K1
  rw [Bqr,Bqq]
  rw [show (mkU a b d e sg c g i j l m t u w n o x p q aw ab z aa r).away.l=aw from rfl,show (mkU a b d e sg c g i j l m t u w n o x p q aw ab z aa r).segs.l=sg from rfl]
  by_cases h1:aw.length≤40
  · by_cases h2:sg.length≤20
    · rw [decide_eq_true h1,decide_eq_true h2,show (!(true&&true))=false from rfl,cf]
      cases ai with
      | false=>rw [cf];exact Bwh (u:=mkU a b d e sg c g i j l m t u w n o x p q aw ab z aa r) hf (by show aw.length≤1000;omega)
      | true =>
        rw [ct,Bao (by omega) (by omega)]
        have hh:=Ba3 ac (show (0:Int)<12 by omega)
        refine Boe (H:=(ac%12).toNat+1) (by omega) (by rw [i64 (by omega)];omega) (by omega) ?_
        intro mn mx s nl ru rd sr sp y' z' aa' hc cc ab' rs rp x' ac' out l' _ _ _ _ hs hl
        refine Bqb (by omega) (by omega) ?_ ?_
        · intro a1 a2 a3 a4 a5 a6 a7 a8 a9 a10 a11 a12 a13 a14 a15 a16 a17 a18
          rw [A3c,A3b,Bqr]
          exact Bwh hf (by show l'.length≤1000;omega)
        · intro s' l'' hs' hl'
          rw [A3c,A3b,Bqr]
          exact Bwh hf (by show l''.length≤1000;omega)
    · rw [decide_eq_false h2,Bool.and_false];rfl
  · rw [decide_eq_false h1,Bool.false_and];rfl
end
end Gx

namespace Gx
open Go Go.RowKit
theorem Bmj {P:Program} {t:TypeId} (hu:P.underlying t=some .string) (hc:P.cellsOf t=1):Opens P t (α:={ s:List UInt8 // s.length≤maxLen }) (fun s=>[.str s.1]) 1:=by
  refine ⟨hc,by omega,fun _=>rfl,fun enc W fuel cs d ps h=>?_⟩
  obtain ⟨s,rfl,_,hw⟩:=DataW.trod_string hu h
  refine ⟨rfl,⟨s.data.toList,hw⟩,?_⟩
  simp [RepCs,RepC]
theorem Opens.map {P:Program} {t:TypeId} {α β:Type} {e:α→List AV} {n:Nat} (h:Opens P t e n) (e':β→List AV) (g:α→β) (hg:∀ a,e a=e' (g a)) (hl:∀ b,(e' b).length=n):Opens P t e' n:=by
  refine ⟨h.size,h.pos,hl,fun enc W fuel cs d ps ht=>?_⟩
  obtain ⟨h1,a,h2⟩:=h.read enc W fuel cs d ps ht
  exact ⟨h1,g a,by rw [← hg];exact h2⟩
structure OpensF (P:Program) (fs:List Field) (off:Nat) {α:Type} (e:α→List AV) (n:Nat):Prop where
  len:∀ a,(e a).length=n
  read:∀ {H:Type} (enc:TypeId×Value→H) (W:World) (fuel:Nat) (cs:List Value),(∀ (i:Nat) (f:Field),fs[i]?=some f→∃ d ps,DataW.trod enc P W 0 (fun _=>true) true fuel f.type ((cs.drop f.offset).take (P.cellsOf f.type))=some (d,ps)) →
    ∃ a,RepCs (fun k=>k<W.heap.size) W (e a) (fun j=>cs[j]?) off
theorem Bgy {P:Program} {off:Nat}:OpensF P [] off (α:=Unit) (fun _=>[]) 0:=⟨fun _=>rfl,fun _ _ _ _ _=>⟨(),by simp [RepCs]⟩⟩
theorem A6 {P:Program} {f:Field} {fs:List Field} {off:Nat} {α β:Type} {e:α→List AV} {n:Nat} {e':β→List AV} {m:Nat} (ho:f.offset=off) (h1:Opens P f.type e n) (h2:OpensF P fs (off+n) e' m) :
    OpensF P (f::fs) off (α:=α×β) (fun p=>e p.1++e' p.2) (n+m):=by
  refine ⟨fun p=>by rw [List.length_append,h1.len,h2.len],fun enc W fuel cs h=>?_⟩
  obtain ⟨d,ps,hd⟩:=h 0 f rfl
  obtain ⟨hl,a,ha⟩:=h1.read enc W fuel _ _ _ hd
  obtain ⟨b,hb⟩:=h2.read enc W fuel cs fun i g hg=>h (i+1) g (by simpa using hg)
  refine ⟨(a,b),?_⟩
  rw [B3] at ha hb ⊢
  intro j x hj
  by_cases hjn:j<n
  · rw [List.getElem?_append_left (by rw [h1.len];exact hjn)] at hj
    obtain ⟨u,hu,hr⟩:=ha j x hj
    refine ⟨u,?_,hr⟩
    simp only [Nat.zero_add] at hu
    rw [h1.size,List.getElem?_take_of_lt hjn,List.getElem?_drop,ho] at hu
    exact hu
  · rw [List.getElem?_append_right (by rw [h1.len];omega),h1.len] at hj
    obtain ⟨u,hu,hr⟩:=hb (j - n) x hj
    refine ⟨u,?_,hr⟩
    rw [show off+n+(j - n)=off+j by omega] at hu
    exact hu
theorem A3m {P:Program} {t:TypeId} {fs:Array Field} {α:Type} {e:α→List AV} {n:Nat} (hu:P.underlying t=some (.struct fs)) (hc:P.cellsOf t=n) (hn:0<n) (h:OpensF P fs.toList 0 e n):Opens P t e n:=by
  refine ⟨hc,hn,h.len,fun enc W fuel cs d ps ht=>?_⟩
  obtain ⟨xs,g,_,_,hl,hlen,hf⟩:=DataW.trod_struct hu ht
  refine ⟨by rw [hl,hc],?_⟩
  exact h.read enc W g cs fun i f hi=>by
    have h1:fs[i]?=some f:=by simpa using hi
    have:=hf i f h1
    have hi2:i<xs.length:=by
      rw [hlen];exact (Array.getElem?_eq_some_iff.1 h1).1
    rw [List.getElem?_eq_getElem hi2] at this
    exact ⟨_,_,this⟩
end Gx

namespace Gx
open Go Go.RowKit
section
variable {P:Program} {W:World} {H:Type} {enc:TypeId×Value→H} {β:B9} {h:Ak}
theorem Bh5 {t:TypeId} {fs:Array Field} {b0:Nat} {r:Reach} {v:Value} (hu:P.underlying t=some (.struct fs)) (h:Value.okWide P W r b0 t v):∃ cs,v=.agg cs:=by
  unfold Value.okWide at h
  rw [hu] at h
  obtain ⟨cs,h,_⟩:=h
  exact ⟨cs,h⟩
theorem Buj {J:Nat→Prop}:∀ {x:AV} {u:Value},RepC J W x u→Rep (fun _=>J) β h W x u
  | .int ..,_,h=>by rw [Rep];rw [RepC] at h;exact h
  | .bool _,_,h=>by rw [Rep];rw [RepC] at h;exact h
  | .str _,_,h=>by rw [Rep];rw [RepC] at h;exact h
  | .nsl,_,h=>by rw [Rep];rw [RepC] at h;exact h
  | .imm ..,_,h=>by rw [Rep];exact h
  | .iptr ..,_,h=>by rw [Rep];exact h
  | .nilptr,_,h=>by rw [Rep];rw [RepC] at h;exact h
  | .nilfn,_,h=>by rw [Rep];rw [RepC] at h;exact h
  | .fn f [],_,h=>by
    rw [Rep];rw [RepC] at h
    exact ⟨[],by simpa using h,by rw [Reps]⟩
  | .fn _ (_::_),_,h=>by simp [RepC] at h
  | .pagg ..,_,h=>by simp [RepC] at h
  | .agg _,_,h=>by simp [RepC] at h
  | .tup _,_,h=>by simp [RepC] at h
  | .own ..,_,h=>by simp [RepC] at h
  | .omap _,_,h=>by simp [RepC] at h
  | .optr ..,_,h=>by simp [RepC] at h
  | .undef,_,h=>by simp [RepC] at h
theorem Brp {J:Nat→Prop}:∀ {c:List AV} {cs:List Value} {rd:Nat→Option Value} {i:Nat},cs.length=c.length→(∀ j,cs[j]?=rd (i+j))→RepCs J W c rd i→Reps (fun _=>J) β h W c cs
  | [],cs,_,_,hl,_,_=>by rw [Reps];simpa using hl
  | x::r,[],_,_,hl,_,_=>by simp at hl
  | x::r,u::us,rd,i,hl,hr,hc=>by
    rw [RepCs] at hc
    obtain ⟨⟨u',hu',hx⟩,hc⟩:=hc
    have h0:=hr 0
    simp only [List.getElem?_cons_zero,Nat.add_zero] at h0
    rw [← h0] at hu'
    cases hu'
    rw [Reps]
    refine ⟨u,us,rfl,Buj hx,Brp (by simpa using hl) (fun j=>?_) hc⟩
    have:=hr (j+1)
    rw [List.getElem?_cons_succ] at this
    rw [this];congr 1;omega
theorem Bvc {c:List AV} {v:Value} (hr:Rep (fun _ k=>k<W.heap.size) β h W (.pagg c false) v):Rep (fun _ k=>k<W.heap.size) β h W (.agg c) v:=by
  rw [Rep] at hr
  obtain ⟨cs,hv,hl,hc⟩:=hr
  rw [Rep]
  exact ⟨cs,hv,Brp hl (fun j=>by rw [Nat.zero_add]) hc⟩
end
end Gx

namespace Gx
open Go Go.Proofs Go.RowKit
section
variable {W:World} {H:Type} {enc:TypeId×Value→H} {β:B9} {h:Ak}
theorem Dm:Opens Tryz.prog 3 Bun 1:=(Bsg Tryz.underlying3 (by kernel_rfl)).map Bun (fun n=>n.1) (fun _=>rfl) (fun _=>rfl)
theorem Bsw:Opens Tryz.prog 79 SegD.av 2 :=
  (A3m Tryz.underlying79 (by kernel_rfl) (by decide) (A6 rfl Dm (A6 rfl Dm Bgy))).map SegD.av (fun p=>⟨p.1,p.2.1⟩) (fun _=>rfl) (fun _=>rfl)
theorem Bsx {v:Value} {d:DataW H} {p:List MemPlace} (hv:∃ cs,v=.agg cs) (hd:DataW.Trod enc Tryz.prog W 0 (fun _=>true) true 25 v d p) :
    ∃ (a:List UInt8) (b d e:Int) (sg:List SegD) (g i j l m t u w n o x p q:Int) (aw:List Int) (z aa r:Int),Rep (fun _ k=>k<W.heap.size) β h W (.agg [AV.str a,(.int .i64 b),(.int .i64 d),(.int .i64 e),(.imm (sg.flatMap SegD.av) sg.length 2 false false),(.int .i64 g),(.int .i64 i),(.int .i64 j),(.int .i64 l),(.int .i64 m),(.int .i64 t),(.int .i64 u),(.int .i64 w),(.int .i64 n),(.int .i64 o),(.int .i64 x),(.int .i64 p),(.int .i64 q),(.imm (Eo aw) aw.length 1 false false),(.int .i64 z),(.int .i64 aa),(.int .i64 r)]) v:=by
  obtain ⟨cs,rfl⟩:=hv
  obtain ⟨⟨⟨a, _⟩, b, d, e, ⟨sg, _⟩, g, i, j, l, m, t, u, w, n, o, x, p, q, ⟨aw, _⟩, z, aa, r, _⟩, hr⟩ := Btj (β := β) (h := h) (A3m (P := Tryz.prog) Tryz.underlying25 (by kernel_rfl) (by decide)
      (A6 rfl (Bmj Tryz.underlying9 (by kernel_rfl)) (A6 rfl Dm (A6 rfl Dm (A6 rfl Dm
      (A6 rfl (A9s Tryz.underlying22 (by kernel_rfl) Bsw)
      (A6 rfl Dm (A6 rfl Dm (A6 rfl Dm (A6 rfl Dm (A6 rfl Dm (A6 rfl Dm (A6 rfl Dm (A6 rfl Dm (A6 rfl Dm (A6 rfl Dm (A6 rfl Dm (A6 rfl Dm (A6 rfl Dm
      (A6 rfl (A9s Tryz.underlying23 (by kernel_rfl) Dm)
      (A6 rfl Dm (A6 rfl Dm (A6 rfl Dm Bgy))))))))))))))))))))))) hd
  refine ⟨a,b,d,e,sg,g,i,j,l,m,t,u,w,n,o,x,p,q,aw,z,aa,r,?_⟩
  rw [← At0]
  exact Bvc hr
end
end Gx
