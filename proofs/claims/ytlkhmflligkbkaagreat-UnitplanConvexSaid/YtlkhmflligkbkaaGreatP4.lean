/- A part of the proof: what it holds is said by each theorem. -/
import Derived.Test.YtlkhmflligkbkaaGreatP3
set_option linter.unusedVariables false
namespace Gx
open Go Go.Proofs
section
variable {R:Type}
theorem Bu8 {N:Nat}:∀ (k fuel n v:Nat),v<2 ^ k→k<fuel→n+k≤1000000000000→∃ b:Nat,b≤k∧v<2 ^ b∧(v≠0→2 ^ b≤2*v)∧(v=0→b=0)∧∀ K:Int→Option R,N3 N K fuel (n:Int) (v:Int)=K ((n+b:Nat):Int)
  | 0,fuel+1,n,v,hv,_,_=>by
    have h0:v=0:=by simpa using hv
    subst h0
    refine ⟨0,by omega,by simp,fun h=>absurd rfl h,fun _=>rfl,fun K=>?_⟩
    rw [N3];unfold U6
    rw [show decide (((0:Nat):Int)>0)=false by rfl,cf];rfl
  | k+1,fuel+1,n,v,hv,hf,hn=>by
    by_cases h0:v=0
    · subst h0
      refine ⟨0,by omega,by simp,fun h=>absurd rfl h,fun _=>rfl,fun K=>?_⟩
      rw [N3];unfold U6
      rw [show decide (((0:Nat):Int)>0)=false by rfl,cf];rfl
    · obtain ⟨b,b1,b2,b3,b4,b5⟩:=Bu8 (N:=N) k fuel (n+1) (v/2) (by rw [Nat.pow_succ] at hv;omega) (by omega) (by omega)
      refine ⟨b+1,by omega,by rw [Nat.pow_succ];omega,fun _=>?_,fun h=>absurd h h0,fun K=>?_⟩
      · by_cases h1:v/2=0
        · rw [b4 h1];simp;omega
        · have:=b3 h1;rw [Nat.pow_succ];omega
      · rw [N3];unfold U6
        rw [show decide (((v:Nat):Int)>0)=true by rw [decide_eq_true_eq];omega,ct,wS (by omega),Wr v 1,show v/2 ^ 1=v/2 by rfl,b5]
        congr 2;omega
theorem B68 {N:Nat} {a:List Nat} {n:Nat} {t o:Bool} (hn:n=a.length) (ha:Ai a) (hf:fit a.length N):∃ nb:Nat,nb≤32*a.length∧val a<2 ^ nb∧(val a≠0→2 ^ nb≤2*val a)∧(val a=0→nb=0)∧∀ K:Int→Option R,Ay8 N (Ae a) n t o K=K (nb:Int):=by
  have h1:=hf.1;have h2:=hf.2
  have la:=(Bn ha).2
  by_cases h0:val a=0
  · refine ⟨0,by omega,by rw [h0];simp,fun h=>absurd h0 h,fun _=>rfl,fun K=>?_⟩
    rw [Arx];unfold A33 A32
    rw [Df hn ha hf,h0,Dx];rfl
  · have hl:(dig (val a)).length≠0:=fun h=>h0 (Bo.1 h)
    obtain ⟨k,hk⟩:∃ k,(dig (val a)).length=k+1:=⟨(dig (val a)).length - 1,by omega⟩
    have top:=A3 (Ad (val a)) (show k<(dig (val a)).length by omega)
    have htop0:(dig (val a))[k]'(by omega)≠0:=by
      have:=Buu (val a) (Bb3 h0)
      rw [List.getLast_eq_getElem] at this
      simp only [hk,Nat.add_sub_cancel] at this
      exact this
    have tf:=Aqp hk
    have tl:=Au7 (Ad (val a)) hk
    rw [Ah] at tf tl
    obtain ⟨b,b1,b2,b3,b4,b5⟩:=Bu8 (R:=R) (N:=N) 32 N (32*k) ((dig (val a))[k]'(by omega)) (by exact top) (by omega) (by omega)
    have hp:(2:Nat) ^ (32*k+b)=4294967296 ^ k*2 ^ b:=by rw [Nat.pow_add,Nat.pow_mul]
    refine ⟨32*k+b,by omega,?_,fun _=>?_,fun h=>absurd h h0,fun K=>?_⟩
    · rw [hp]
      have:((dig (val a))[k]'(by omega)+1)*4294967296 ^ k≤2 ^ b*4294967296 ^ k:=Nat.mul_le_mul_right _ b2
      rw [Nat.mul_comm (2 ^ b)] at this;omega
    · rw [hp]
      have:=Nat.mul_le_mul_left (4294967296 ^ k) (b3 htop0)
      rw [Nat.mul_left_comm] at this
      omega
    · rw [Arx];unfold A33 A32
      have w1:IntKind.wrap .i64 ((((dig (val a)).length:Nat):Int) - 1)=((k:Nat):Int):=by rw [i64 (by omega)];omega
      have w2:IntKind.wrap .i64 ((32:Int)*((k:Nat):Int))=((32*k:Nat):Int):=by rw [i64 (by omega)];omega
      rw [Df hn ha hf,i0F hl,cf,w1,Am (by omega),ct,Bfk (by omega),w2]
      exact b5 K
theorem B43 {a:List Nat} {j:Nat} (h:j<a.length):val a=val (a.take j)+4294967296 ^ j*(a[j]+4294967296*val (a.drop (j+1))):=by
  have:=Tr (a.take j) (a.drop j)
  rw [List.take_append_drop,List.length_take,Nat.min_eq_left (by omega),A2j h] at this
  exact this
theorem Bkd (j k:Nat):(2:Nat) ^ (32*j+k)=4294967296 ^ j*2 ^ k:=by rw [Nat.pow_add,Nat.pow_mul]
theorem Cbu {a:List Nat} {j k:Nat} (ha:Ai a) (h:j<a.length) (hk:k<32):val a/2 ^ (32*j+k)%2=a[j]/2 ^ k%2:=by
  have tl:=Be (Ca ha j)
  rw [List.length_take,Nat.min_eq_left (by omega)] at tl
  have hP:0<4294967296 ^ j:=Nat.pow_pos (by omega)
  have hp:0<2 ^ k:=Nat.pow_pos (by omega)
  rw [Bkd,← Nat.div_div_eq_div_mul,B43 h,Nat.add_mul_div_left _ _ hP,Nat.div_eq_of_lt tl,Nat.zero_add]
  have e:4294967296=2 ^ k*(2*2 ^ (31 - k)):=by rw [← Nat.pow_succ',← Nat.pow_add,show k+(31 - k+1)=32 by omega]
  have e2:4294967296*val (a.drop (j+1))=2 ^ k*(2*(2 ^ (31 - k)*val (a.drop (j+1)))):=by
    rw [← Nat.mul_assoc 2,← Nat.mul_assoc,← e]
  rw [e2,Nat.add_mul_div_left _ _ hp,Nat.add_mul_mod_self_left]
theorem B9r {N:Nat} {a:List Nat} {n:Nat} {t o:Bool} {i:Nat} {K:Int→Option R} (hn:n=a.length) (ha:Ai a) (hi:i<32*a.length) (hs:a.length≤1000000000):Bdm N (Ae a) n t o (i:Int) K=K ((val a/2 ^ i%2:Nat):Int):=by
  subst hn
  have hj:i/32<a.length:=by omega
  have aj:=A3 ha hj
  rw [Bl1];unfold Brc Brb
  have w1:IntKind.wrap .i64 (Int.tdiv ((i:Nat):Int) 32)=((i/32:Nat):Int):=by rw [show (32:Int)=((32:Nat):Int) by rfl,A7r,i64 (by omega)]
  have w2:IntKind.wrap .u64 (Int.tmod ((i:Nat):Int) 32)=((i%32:Nat):Int):=by rw [show (32:Int)=((32:Nat):Int) by rfl,A2i,w64 (by omega)]
  rw [w1,w2,show decide (((i/32:Nat):Int)≥((a.length:Nat):Int))=false by rw [decide_eq_false_iff_not];omega,cf,Am hj,ct,rdl hj,show decide (((i%32:Nat):Int)<0)=false by rw [decide_eq_false_iff_not];omega,cf,Int.toNat_natCast,Nat.min_eq_left (by omega),Wr]
  have hle:a[i/32]/2 ^ (i%32)<4294967296:=Nat.lt_of_le_of_lt (Nat.div_le_self _ _) aj
  have e:=B62 (k:=.u32) rfl (a:=a[i/32]/2 ^ (i%32)) (b:=1) hle (by decide)
  rw [show (1:Int)=((1:Nat):Int) by rfl,e,Nat.and_one_is_mod]
  have:=Cbu ha hj (k:=i%32) (by omega)
  rw [Nat.div_add_mod] at this
  rw [this]
theorem Ca4 {Q:List Nat} {j k:Nat} (hQ:Ai Q) (h:j<Q.length) (hk:k<32) (hd:2 ^ (32*j+k+1)∣val Q):2 ^ (k+1)∣Q[j]:=by
  have tl:=Be (Ca hQ j)
  rw [List.length_take,Nat.min_eq_left (by omega)] at tl
  have hP:0<4294967296 ^ j:=Nat.pow_pos (by omega)
  rw [Nat.add_assoc,Bkd,B43 h] at hd
  have h0:val (Q.take j)=0:=by
    have x1:4294967296 ^ j∣val (Q.take j):=(Nat.dvd_add_left (Nat.dvd_mul_right _ _)).1 (Nat.dvd_trans (Nat.dvd_mul_right _ _) hd)
    exact Nat.eq_zero_of_dvd_of_lt x1 tl
  rw [h0,Nat.zero_add] at hd
  have x2:=Nat.dvd_of_mul_dvd_mul_left hP hd
  have x3:2 ^ (k+1)∣4294967296*val (Q.drop (j+1)):=Nat.dvd_trans ⟨2 ^ (31 - k),by rw [← Nat.pow_add,show k+1+(31 - k)=32 by omega]⟩ (Nat.dvd_mul_right _ _)
  exact (Nat.dvd_add_left x3).1 x2
theorem Bke {N:Nat} {a b:List Nat} {t o:Bool} {B:Nat} (ha:Ai a) (hb:b=dig B) (hB:0<B) (hf:fit (a.length+2*b.length+4) N):∀ (i fuel:Nat) (Q:List Nat) (r:Nat),i<fuel→i≤32*a.length→Ai Q→Q.length=a.length→r=val a/2 ^ i%B→val Q=val a/2 ^ i/B*2 ^ i →
    ∀ K:Nat→Nat→Bool→LA→LA→Option R,D0 N K (Ae a) a.length t o b.length (Ae b) fuel (dig r).length ((i:Int) - 1) (Ae Q) (Ae (dig r))=K (dig (val a/B)).length (dig (val a%B)).length true (Ae (dig (val a/B))) (Ae (dig (val a%B)))
  | 0,fuel+1,Q,r,_,_,hQ,hl,hr,hv=>by
    intro K
    rw [Nat.pow_zero,Nat.div_one] at hr hv
    rw [Nat.mul_one] at hv
    have lr:(dig r).length≤b.length:=by
      rw [hb];apply Bv;rw [hr];exact Nat.le_of_lt (Nat.mod_lt _ hB)
    rw [D0];unfold U9
    rw [show decide ((((0:Nat):Int) - 1)≥0)=false by rfl,cf,Nat.mul_one,List.take_of_length_le (by rw [Br];omega),Df hl.symm hQ (by rw [hl];exact hf.le (by omega)),Nat.mul_one,List.take_of_length_le (by rw [Br];omega),Df rfl (Ad _) (hf.le (by omega)),Ah,hv,hr]
  | i+1,fuel+1,Q,r,hfu,hi,hQ,hl,hr,hv=>by
    intro K
    have h1:=hf.1;have h2:=hf.2
    have hrB:r<B:=by rw [hr];exact Nat.mod_lt _ hB
    have lr:(dig r).length≤b.length:=by rw [hb];exact Bv (Nat.le_of_lt hrB)
    have hhalf:val a/2 ^ i=2*(val a/2 ^ (i+1))+val a/2 ^ i%2:=by
      have:=Nat.div_add_mod (val a/2 ^ i) 2
      rw [Nat.div_div_eq_div_mul,← Nat.pow_succ] at this
      exact this.symm
    have hdm:=Nat.div_add_mod (val a/2 ^ (i+1)) B
    have hb2:val a/2 ^ i%2<2:=Nat.mod_lt _ (by omega)
    generalize hH:val a/2 ^ (i+1)=H at *
    generalize hbit:val a/2 ^ i%2=bt at *
    have hsum:val a/2 ^ i=B*(2*(H/B))+(2*r+bt):=by
      rw [hhalf,hr,Nat.mul_left_comm];omega
    clear hr hdm hhalf
    have hj:i/32<Q.length:=by omega
    have qj:=A3 hQ hj
    have hdvd:2 ^ (32*(i/32)+i%32+1)∣val Q:=by rw [Nat.div_add_mod,hv];exact Nat.dvd_mul_left _ _
    have hfree:=Ca4 hQ hj (Nat.mod_lt _ (by omega)) hdvd
    have hpw:2 ^ i=4294967296 ^ (i/32)*2 ^ (i%32):=by rw [← Bkd,Nat.div_add_mod]
    have hpk:2 ^ (i%32+1)≤4294967296:=(Nat.pow_le_pow_right (by omega) (show i%32+1≤32 by omega):2 ^ (i%32+1)≤2 ^ 32)
    have hor:T2 .u32 ((Q[i/32]:Nat):Int) (IntKind.wrap .u32 ((1:Int)*2 ^ (min (Int.toNat ((i%32:Nat):Int)) 32)))=((Q[i/32]+2 ^ (i%32):Nat):Int)∧Q[i/32]+2 ^ (i%32)<4294967296:=by
      obtain ⟨c,hc⟩:=hfree
      have hpos:0<2 ^ (i%32):=Nat.pow_pos (by omega)
      have hlt:Q[i/32]+2 ^ (i%32)<4294967296:=by
        obtain ⟨w,hw⟩:∃ w,4294967296=2 ^ (i%32+1)*w:=⟨2 ^ (31 - i%32),by rw [← Nat.pow_add,show i%32+1+(31 - i%32)=32 by omega]⟩
        have x1:c<w:=by rw [hc,hw] at qj;exact Nat.lt_of_mul_lt_mul_left qj
        have x2:=Nat.mul_le_mul_left (2 ^ (i%32+1)) (show c+1≤w from x1)
        rw [Nat.mul_add,← hw,← hc,Nat.mul_one,Nat.pow_succ] at x2
        omega
      refine ⟨?_,hlt⟩
      rw [Int.toNat_natCast,Nat.min_eq_left (by omega),Int.one_mul,show (2:Int) ^ (i%32)=((2 ^ (i%32):Nat):Int) by simp,w32 (by rw [Nat.pow_succ] at hpk;omega),Bzt (k:=.u32) rfl qj (by show 2 ^ (i%32)<4294967296;rw [Nat.pow_succ] at hpk;omega)]
      congr 1
      have e:Q[i/32]=c*2 ^ (i%32+1):=by rw [hc,Nat.mul_comm]
      rw [e];exact Bj6 (by rw [Nat.pow_succ];omega)
    have w1:IntKind.wrap .i64 (Int.tdiv ((i:Nat):Int) 32)=((i/32:Nat):Int):=by rw [show (32:Int)=((32:Nat):Int) by rfl,A7r,i64 (by omega)]
    have w2:IntKind.wrap .u64 (Int.tmod ((i:Nat):Int) 32)=((i%32:Nat):Int):=by rw [show (32:Int)=((32:Nat):Int) by rfl,A2i,w64 (by omega)]
    have l2:(dig (2*r+bt)).length≤b.length+1:=by
      apply B6
      have x1:=Be (Ad B)
      rw [Ah,← hb] at x1
      rw [Nat.pow_succ];omega
    have second:Mk N (D0 N K (Ae a) a.length t o b.length (Ae b) fuel) K (Ae a) a.length t o b.length ((i:Nat):Int) (Ae b) (Ae Q) (dig (2*r+bt)).length (Ae (dig (2*r+bt)))=K (dig (val a/B)).length (dig (val a%B)).length true (Ae (dig (val a/B))) (Ae (dig (val a%B))):=by
      unfold Mk Ah1
      have lb:Ai b:=by rw [hb];exact Ad _
      have vb:val b=B:=by rw [hb,Ah]
      rw [Nat.mul_one,Nat.mul_one,List.take_of_length_le (by rw [Br];omega),List.take_of_length_le (by rw [Br];omega),Bkc rfl rfl (Ad _) lb (hf.le (by omega)),Ah,vb]
      by_cases hge:B≤2*r+bt
      · have hq1 : val a / 2 ^ i / B = 2 * (H / B) + 1 := by
          rw [hsum,show B*(2*(H/B))+(2*r+bt)=B*(2*(H/B)+1)+(2*r+bt - B) by rw [Nat.mul_add];omega,Nat.mul_add_div hB,Nat.div_eq_of_lt (show 2*r+bt - B<B by omega),Nat.add_zero]
        have hm1:val a/2 ^ i%B=2*r+bt - B:=by
          rw [hsum,show B*(2*(H/B))+(2*r+bt)=B*(2*(H/B)+1)+(2*r+bt - B) by rw [Nat.mul_add];omega,Nat.mul_add_mod,Nat.mod_eq_of_lt (by omega)]
        rw [if_pos hge,ct,w1,w2,Am (by omega),ct,Bfk hj,show decide (((i%32:Nat):Int)<0)=false by rw [decide_eq_false_iff_not];omega,cf,ct,st1 hj,ct,hor.1,A2g,i64 (by omega)]
        refine Bke ha hb hB hf i fuel (Q.set (i/32) (Q[i/32]+2 ^ (i%32))) (2*r+bt - B) (by omega) (by omega) (Ch hQ hor.2 _) (by simpa using hl) hm1.symm ?_ K
        have x1:=Bfn (v:=Q[i/32]+2 ^ (i%32)) hj
        rw [Nat.mul_add,← hpw] at x1
        rw [hq1,Nat.add_mul,Nat.one_mul,Nat.mul_comm 2,Nat.mul_assoc,Nat.mul_comm 2,← Nat.pow_succ,← hv]
        omega
      · have hq1:val a/2 ^ i/B=2*(H/B):=by rw [hsum,Nat.mul_add_div hB,Nat.div_eq_of_lt (show 2*r+bt<B by omega),Nat.add_zero]
        have hm1:val a/2 ^ i%B=2*r+bt:=by rw [hsum,Nat.mul_add_mod,Nat.mod_eq_of_lt (by omega)]
        rw [if_neg hge,cf,i64 (by omega)]
        refine Bke ha hb hB hf i fuel Q (2*r+bt) (by omega) (by omega) hQ hl hm1.symm ?_ K
        rw [hq1,Nat.mul_comm 2,Nat.mul_assoc,Nat.mul_comm 2,← Nat.pow_succ,← hv]
    rw [D0];unfold U9
    rw [show (((i+1:Nat):Int) - 1)=((i:Nat):Int) by omega,show decide (((i:Nat):Int)≥0)=true by rw [decide_eq_true_eq];omega,ct,Nat.mul_one,List.take_of_length_le (by rw [Br];omega),Bkb rfl rfl (Ad _) (Ad _) (hf.le (by omega)),Ah,B9r rfl ha (by omega) (by omega),hbit]
    have l3:(dig (r+r)).length≤b.length+1:=by
      apply B6
      have x1:=Be (Ad B)
      rw [Ah,← hb] at x1
      rw [Nat.pow_succ];omega
    rcases (show bt=0∨bt=1 by omega) with rfl | rfl
    · rw [show (((0:Nat):Int)==1)=false by rfl,cf]
      rw [show 2*r+0=r+r by omega] at second
      exact second
    · rw [show (((1:Nat):Int)==1)=true by rfl,ct,Nat.mul_one,List.take_of_length_le (by rw [Br];omega)]
      have:=Bkb (R:=R) (N:=N) (a:=dig (r+r)) (b:=[1]) (n:=(dig (r+r)).length) (m:=1) (t:=false) (o:=true) (t':=false) (o':=true) (K:=fun af ag=>Mk N (D0 N K (Ae a) a.length t o b.length (Ae b) fuel) K (Ae a) a.length t o b.length ((i:Nat):Int) (Ae b) (Ae Q) af ag) rfl rfl (Ad _) (by intro x hx;simp at hx;omega) (hf.le (by simp;omega))
      rw [Ah,show val [1]=1 by rfl,show r+r+1=2*r+1 by omega] at this
      exact this.trans second
end
end Gx

namespace Gx
open Go Go.Proofs
section
variable {R:Type}
theorem Au9 {N:Nat} {a b:List Nat} {n m:Nat} {t o t' o':Bool} {K:Nat→Nat→Bool→LA→LA→Option R} (hn:n=a.length) (hm:m=b.length) (ha:Ai a) (hb:Ai b) (hb0:val b≠0) (hf:fit (a.length+2*b.length+4) N) :
    X7 N (Ae a) n t o (Ae b) m t' o' K=K (dig (val a/val b)).length (dig (val a%val b)).length true (Ae (dig (val a/val b))) (Ae (dig (val a%val b))):=by
  have h1:=hf.1;have h2:=hf.2
  have lb:=(Bn hb).2
  have hbl:(dig (val b)).length≠0:=fun h=>hb0 (Bo.1 h)
  rw [Azh];unfold Azg Azf
  dsimp only
  have long:Zz N K (Ae a) n t o (dig (val b)).length (Ae (dig (val b)))=K (dig (val a/val b)).length (dig (val a%val b)).length true (Ae (dig (val a/val b))) (Ae (dig (val a%val b))):=by
    obtain ⟨nb,n1,n2,n3,n4,n5⟩:=B68 (R:=R) (N:=N) (a:=a) (n:=n) (t:=false) (o:=o) hn ha (hf.le (by omega))
    unfold Zz Ah2
    dsimp only
    rw [n5,hn,mk4 (by omega),ct,Cz,i64 (by omega)]
    have hz:val a/2 ^ nb=0:=Nat.div_eq_of_lt n2
    have:=Bke (R:=R) (N:=N) (a:=a) (b:=dig (val b)) (t:=t) (o:=o) (B:=val b) ha rfl (by omega) (hf.le (by omega)) nb N (List.replicate a.length 0) 0 (by omega) n1 (Ce _) (by simp) (by rw [hz];simp) (by rw [hz,D3];simp) K
    exact this
  rw [Df hm hb (hf.le (by omega)),i0F hbl,cf,Au8 hn ha (hf.le (by omega)),Nat.mul_one,List.take_of_length_le (by rw [Br];exact Nat.le_refl _)]
  by_cases ha2:val a<18446744073709551616
  · rw [if_pos ha2,Au8 rfl (Ad _) (hf.le (by omega)),Ah]
    by_cases hb2:val b<18446744073709551616
    · have q64:val a/val b<18446744073709551616:=Nat.lt_of_le_of_lt (Nat.div_le_self _ _) ha2
      have r64:val a%val b<18446744073709551616:=Nat.lt_of_le_of_lt (Nat.mod_le _ _) ha2
      rw [if_pos hb2,show ((true:Bool)==true)=true by rfl,ct,ctB,ct,i0F hb0,cf,A7r,w64 q64,Amw q64 (by omega),cf,A2i,Amw r64 (by omega)]
    · rw [if_neg hb2,show ((true:Bool)==true)=true by rfl,ct,ctB,cf,long]
  · rw [if_neg ha2,Au8 rfl (Ad _) (hf.le (by omega)),Ah]
    by_cases hb2:val b<18446744073709551616
    · rw [if_pos hb2,show ((false:Bool)==true)=false by rfl,cf,long]
    · rw [if_neg hb2,show ((false:Bool)==true)=false by rfl,cf,long]
theorem B9s {N:Nat}:∀ (k fuel A B:Nat),k<fuel→A*B<2 ^ k→B<A→fit (3*(dig A).length+4) N→∀ K:Nat→LA→Option R,Ei N K fuel (dig A).length (dig B).length (Ae (dig A)) (Ae (dig B))=K (dig (Nat.gcd A B)).length (Ae (dig (Nat.gcd A B))):=by
  have base:∀ (fuel A:Nat) (K:Nat→LA→Option R),Ei N K (fuel+1) (dig A).length (dig 0).length (Ae (dig A)) (Ae (dig 0))=K (dig (Nat.gcd A 0)).length (Ae (dig (Nat.gcd A 0))):=by
    intro fuel A K
    rw [Ei];unfold T6
    rw [Dx,show decide ((((([]:List Nat).length:Nat)):Int)>0)=false by decide,cf,Nat.gcd_zero_right]
  intro k
  induction k with
  | zero =>
    intro fuel A B hfu hxy hle hf K
    obtain ⟨fuel,rfl⟩:∃ F,fuel=F+1:=⟨fuel - 1,by omega⟩
    have hy:B=0:=by
      rcases Nat.eq_zero_or_pos B with h | h
      · exact h
      · have h3:=Nat.mul_le_mul_left A (show 1≤B by omega)
        rw [Nat.pow_zero] at hxy;omega
    subst hy
    exact base fuel A K
  | succ k ih =>
    intro fuel A B hfu hxy hle hf K
    have h1:=hf.1;have h2:=hf.2
    obtain ⟨fuel,rfl⟩:∃ F,fuel=F+1:=⟨fuel - 1,by omega⟩
    rcases Nat.eq_zero_or_pos B with h | h
    · subst h;exact base fuel A K
    have hll:=Bv (Nat.le_of_lt hle)
    have hbl:(dig B).length≠0:=fun h0=>by have:=Bo.1 h0;omega
    have hm:=Nat.mod_lt A h
    have hh:=A2l (show 1≤B by omega) (Nat.le_of_lt hle)
    have:=ih fuel B (A%B) (by omega) (by rw [Nat.pow_succ] at hxy;omega) hm (hf.le (by omega)) K
    have hg:Nat.gcd B (A%B)=Nat.gcd A B:=by rw [Nat.gcd_comm,← Nat.gcd_rec,Nat.gcd_comm]
    rw [hg] at this
    rw [Ei];unfold T6
    rw [show decide ((((dig B).length:Nat):Int)>0)=true by rw [decide_eq_true_eq];omega,ct,Nat.mul_one,Nat.mul_one,List.take_of_length_le (by rw [Br];exact Nat.le_refl _),List.take_of_length_le (by rw [Br];exact Nat.le_refl _),Au9 rfl rfl (Ad _) (Ad _) (by rw [Ah];omega) (hf.le (by omega)),Ah,Ah]
    exact this
theorem B9t {N:Nat} {a b:List Nat} {n m:Nat} {t o t' o':Bool} {K:Nat→LA→Option R} (hn:n=a.length) (hm:m=b.length) (ha:Ai a) (hb:Ai b) (hf:fit (3*(a.length+b.length)+4) N) :
    Bdo N (Ae a) n t o (Ae b) m t' o' K=K (dig (Nat.gcd (val a) (val b))).length (Ae (dig (Nat.gcd (val a) (val b)))):=by
  have h1:=hf.1;have h2:=hf.2
  have la:=(Bn ha).2
  have lb:=(Bn hb).2
  have hprod:val a*val b<2 ^ (32*(a.length+b.length)):=by rw [← B40];exact Nat.mul_lt_mul'' (Be ha) (Be hb)
  rw [Bl3];unfold Bro Brn
  dsimp only
  rw [Df hn ha (hf.le (by omega)),Df hm hb (hf.le (by omega))]
  obtain ⟨F,hF⟩:∃ F,N=F+1:=⟨N - 1,by omega⟩
  rcases Nat.eq_zero_or_pos (val b) with h | h
  · rw [h,Dx,Nat.gcd_zero_right,hF,Ei];unfold T6
    rw [show decide ((((([]:List Nat).length:Nat)):Int)>0)=false by decide,cf]
  · have hm':=Nat.mod_lt (val a) h
    have hbl:(dig (val b)).length≠0:=fun h0=>by have:=Bo.1 h0;omega
    have hprod2:val b*(val a%val b)<2 ^ (32*(a.length+b.length)):=by
      have:val b*(val a%val b)≤val b*val a:=Nat.mul_le_mul_left _ (Nat.mod_le _ _)
      rw [Nat.mul_comm (val b) (val a)] at this;omega
    have:=B9s (R:=R) (N:=N) (32*(a.length+b.length)) F (val b) (val a%val b) (by omega) hprod2 hm' (hf.le (by omega)) K
    have hg:Nat.gcd (val b) (val a%val b)=Nat.gcd (val a) (val b):=by rw [Nat.gcd_comm,← Nat.gcd_rec,Nat.gcd_comm]
    rw [hg] at this
    have e:Ei N K (F+1) (dig (val a)).length (dig (val b)).length (Ae (dig (val a))) (Ae (dig (val b)))=Ei N K F (dig (val b)).length (dig (val a%val b)).length (Ae (dig (val b))) (Ae (dig (val a%val b))):=by
      rw [Ei];unfold T6
      rw [show decide ((((dig (val b)).length:Nat):Int)>0)=true by rw [decide_eq_true_eq];omega,ct,Nat.mul_one,Nat.mul_one,List.take_of_length_le (by rw [Br];exact Nat.le_refl _),List.take_of_length_le (by rw [Br];exact Nat.le_refl _),Au9 rfl rfl (Ad _) (Ad _) (by rw [Ah];omega) (hf.le (by omega)),Ah,Ah]
    conv=>lhs;rw [show (Ei N K N)=Ei N K (F+1) by rw [← hF]]
    rw [e];exact this
end
end Gx

namespace Gx
open Go Go.Proofs
section
variable {R:Type}
inductive LS where
  | nil
  | of (l:List Nat) (t o:Bool)
def LS.l:LS→List Nat
  | .nil=>[]
  | .of l _ _=>l
def LS.av:LS→AV
  | .nil=>.nsl
  | .of l t o=>.imm (Ae l) l.length 1 t o
theorem B69 {s:LS} {r:List AV} {f:List AV→Nat→Option R}:rdL 1 (s.av::r) f=f (Ae s.l) s.l.length:=by
  cases s<;>simp [rdL,LS.av,LS.l,B94,Ae]
theorem Ccl {b:Bool} {r:List AV} {f:Bool→Option R}:rdB (.bool b::r) f=f b:=by simp [rdB,asBool]
def Kw (neg:Bool) (s:LS):List AV:=[.bool neg,s.av]
def Aw (neg:Bool) (s:LS):Int:=if neg then -(val s.l:Int) else (val s.l:Int)
theorem Ck (neg:Bool) (s:LS):(Aw neg s).natAbs=val s.l:=by unfold Aw;cases neg<;>simp
theorem Wt {neg:Bool} {s:LS} {f:Bool→Option R}:rdB (Kw neg s) f=f neg:=Ccl
theorem Qy {neg:Bool} {s:LS} {f:List AV→Nat→Option R}:rdL 1 (List.drop 1 (Kw neg s)) f=f (Ae s.l) s.l.length:=by rw [Kw,List.drop_succ_cons,List.drop_zero,B69]
theorem Om {N:Nat} {c:Bool} {a:Nat} {b:LA} {K:Bool→Option R}:Jy N c a b K=K (c&&decide (0<a)):=by
  rw [A6m];unfold A9u A9t
  cases c<;>simp
theorem Ahd {z:Int} {c:Bool} {m:Nat} (h:z=if c then -(m:Int) else (m:Int)):(c&&decide (0<(dig m).length))=decide (z<0)∧z.natAbs=m:=by
  have hz:z.natAbs=m:=by rw [h];cases c<;>simp
  refine ⟨?_,hz⟩
  by_cases h0:m=0
  · subst h0;rw [h,Dx];cases c<;>simp
  · have : 0 < (dig m).length := by
      rcases Nat.eq_zero_or_pos (dig m).length with h1 | h1
      · exact absurd (Bo.1 h1) h0
      · exact h1
    rw [h];cases c<;>simp [this]<;>omega
theorem Bxn {N:Nat} {v:Int} (hv:-9223372036854775808≤v∧v≤9223372036854775807) (hN:4≤N):∃ S,Ai S∧val S=v.natAbs∧∀ K:Bool→Nat→LA→Option R,Ah9 N v K=K (decide (v<0)) (dig v.natAbs).length (Ae S):=by
  have hb:v.natAbs<18446744073709551616:=by omega
  obtain ⟨S,s1,s2,s3⟩:=Lm (R:=R) (N:=N) hb hN
  refine ⟨S,s1,s2,fun K=>?_⟩
  rw [Azt];unfold Azs Azr
  by_cases h:v<0
  · have e:IntKind.wrap .u64 ((0:Int) - IntKind.wrap .u64 v)=(v.natAbs:Int):=by rw [Bb5,Bb5];omega
    rw [decide_eq_true h,ct,e,s3,Om]
    have h0:v.natAbs≠0:=by omega
    have:0<(dig v.natAbs).length:=by
      rcases Nat.eq_zero_or_pos (dig v.natAbs).length with h1 | h1
      · exact absurd (Bo.1 h1) h0
      · exact h1
    simp [this]
  · have e:IntKind.wrap .u64 v=(v.natAbs:Int):=by rw [Bb5];omega
    rw [decide_eq_false h,cf,e,s3,Om];rfl
theorem Bb7 {N:Nat} {neg:Bool} {s:LS} {o:Bool} {K:Int→Option R} (hs:Ai s.l) (hf:fit s.l.length N):Ass N (Kw neg s) o K=K (Aw neg s).sign:=by
  rw [Bmb];unfold Br9 Br8
  rw [Qy,Bu2 rfl hs hf]
  unfold Aw
  by_cases h:val s.l=0
  · rw [h,Ahb,show ((0:Int)==0)=true by rfl,ct];cases neg<;>rfl
  · have:Hp (val s.l) 0=1:=by unfold Hp;rw [if_neg (by omega),if_pos (by omega)]
    rw [this,show ((1:Int)==0)=false by rfl,cf,Wt]
    cases neg
    · rw [cf];simp only [Bool.false_eq_true,if_false]
      congr 1
      rw [Int.sign_eq_one_of_pos];omega
    · rw [ct];simp only [if_true]
      congr 1
      rw [Int.sign_eq_neg_one_of_neg];omega
theorem Aqq {N:Nat} {n1 n2:Bool} {s1 s2:LS} {o1 o2:Bool} (h1:Ai s1.l) (h2:Ai s2.l) (hf:fit (s1.l.length+s2.l.length) N):∃ S,Ai S∧val S=(Aw n1 s1*Aw n2 s2).natAbs∧∀ K:Bool→Nat→LA→Option R,As5 N (Kw n1 s1) o1 (Kw n2 s2) o2 K=K (decide (Aw n1 s1*Aw n2 s2<0)) (dig (Aw n1 s1*Aw n2 s2).natAbs).length (Ae S):=by
  obtain ⟨S,a1,a2,a3⟩:=A2h (R:=R) (N:=N) (a:=s1.l) (b:=s2.l) (t:=false) (o:=o1) (t':=false) (o':=o2) rfl rfl h1 h2 hf
  have hz:Aw n1 s1*Aw n2 s2=if (!(n1==n2)) then -((val s1.l*val s2.l:Nat):Int) else ((val s1.l*val s2.l:Nat):Int):=by
    unfold Aw;cases n1<;>cases n2<;>simp [Int.mul_neg,Int.neg_mul]
  obtain ⟨c1,c2⟩:=Ahd hz
  refine ⟨S,a1,by rw [a2,c2],fun K=>?_⟩
  rw [Bsk];unfold B1s B1r
  rw [Wt,Wt,Qy,Qy,a3,Om,c1,c2]
theorem Bz6 {N:Nat} {n1 n2:Bool} {s1 s2:LS} {o1 o2:Bool} (h1:Ai s1.l) (h2:Ai s2.l) (hf:fit (s1.l.length+s2.l.length+1) N):∃ S,Ai S∧val S=(Aw n1 s1+Aw n2 s2).natAbs∧∀ K:Bool→Nat→LA→Option R,Bi0 N (Kw n1 s1) o1 (Kw n2 s2) o2 K=K (decide (Aw n1 s1+Aw n2 s2<0)) (dig (Aw n1 s1+Aw n2 s2).natAbs).length (Ae S):=by
  by_cases hn:n1=n2
  · subst hn
    obtain ⟨S,a1,a2,a3⟩:=Car (R:=R) (N:=N) (a:=s1.l) (b:=s2.l) (t:=false) (o:=o1) (t':=false) (o':=o2) rfl rfl h1 h2 hf
    have hz:Aw n1 s1+Aw n1 s2=if n1 then -((val s1.l+val s2.l:Nat):Int) else ((val s1.l+val s2.l:Nat):Int):=by
      unfold Aw;cases n1<;>simp;omega
    obtain ⟨c1,c2⟩:=Ahd hz
    refine ⟨S,a1,by rw [a2,c2],fun K=>?_⟩
    rw [Ato];unfold Bek Bej
    rw [Wt,Wt,show (n1==n1)=true by simp,ct,Wt,Qy,Qy,a3,Om,c1,c2]
  · have hne:(n1==n2)=false:=by simp [hn]
    by_cases hle:val s2.l≤val s1.l
    · obtain ⟨S,a1,a2,a3⟩:=Bu5 (R:=R) (N:=N) (a:=s1.l) (b:=s2.l) (t:=false) (o:=o1) (t':=false) (o':=o2) rfl rfl h1 h2 (hf.le (by omega)) hle
      have hz:Aw n1 s1+Aw n2 s2=if n1 then -((val s1.l - val s2.l:Nat):Int) else ((val s1.l - val s2.l:Nat):Int):=by
        unfold Aw;cases n1<;>cases n2<;>simp at hn ⊢<;>omega
      obtain ⟨c1,c2⟩:=Ahd hz
      refine ⟨S,a1,by rw [a2,c2],fun K=>?_⟩
      rw [Ato];unfold Bek Bej
      rw [Wt,Wt,hne,cf,Qy,Qy,a3,ct,Wt,Om,c1,c2]
    · obtain ⟨S,a1,a2,a3⟩:=Bu5 (R:=R) (N:=N) (a:=s2.l) (b:=s1.l) (t:=false) (o:=o2) (t':=false) (o':=o1) rfl rfl h2 h1 (hf.le (by omega)) (by omega)
      have hz:Aw n1 s1+Aw n2 s2=if n2 then -((val s2.l - val s1.l:Nat):Int) else ((val s2.l - val s1.l:Nat):Int):=by
        unfold Aw;cases n1<;>cases n2<;>simp at hn ⊢<;>omega
      obtain ⟨c1,c2⟩:=Ahd hz
      refine ⟨S,a1,by rw [a2,c2],fun K=>?_⟩
      rw [Ato];unfold Bek Bej
      rw [Wt,Wt,hne,cf,Qy,Qy,Cas rfl rfl h1 h2 (hf.le (by omega)) (by omega),cf,Qy,Qy,a3,Wt,Om,c1,c2]
theorem B7a {N:Nat} {n1:Bool} {s1:LS} {o1:Bool} {K:Bool→Nat→LA→Option R} (h1:Ai s1.l) (hf:fit s1.l.length N):Bd5 N (Kw n1 s1) o1 K=K (decide (Aw n1 s1<0)) (dig (Aw n1 s1).natAbs).length (Ae (dig (Aw n1 s1).natAbs)):=by
  obtain ⟨c1,c2⟩:=Ahd (z:=Aw n1 s1) (c:=n1) (m:=val s1.l) (by unfold Aw;cases n1<;>simp)
  rw [Bmi];unfold Bsr Bsq
  rw [Wt,Qy,A5a rfl h1 hf,Om,c1,c2]
def Bfs (x y:Int):Int:=if x<y then -1 else if y<x then 1 else 0
theorem Ca5 (x y:Nat):Bfs (x:Int) (y:Int)=Hp x y:=by unfold Bfs Hp;simp
theorem Ca6 (x y:Nat):Bfs (-(x:Int)) (-(y:Int))=Hp y x:=by
  unfold Bfs Hp
  by_cases h:y<x
  · rw [if_pos (by omega),if_pos h]
  · rw [if_neg (by omega),if_neg h]
    by_cases h2:x<y
    · rw [if_pos (by omega),if_pos h2]
    · rw [if_neg (by omega),if_neg h2]
theorem Bxo {N:Nat} {n1 n2:Bool} {s1 s2:LS} {o1 o2:Bool} {K:Int→Option R} (h1:Ai s1.l) (h2:Ai s2.l) (hf:fit (s1.l.length+s2.l.length) N):Aim N (Kw n1 s1) o1 (Kw n2 s2) o2 K=K (Bfs (Aw n1 s1) (Aw n2 s2)):=by
  rw [Az7];unfold Az6 Az5
  have l2:∀ n s,List.take 2 (Kw n s)=Kw n s:=fun n s=>rfl
  have l3:∀ n s,Nat.ble 2 (List.length (Kw n s))=true:=fun n s=>rfl
  rw [l2,l2,l3,l3,ct,Bb7 h1 (hf.le (by omega)),ct,Bb7 h2 (hf.le (by omega))]
  have sg:∀ z:Int,z.sign=if z<0 then -1 else if 0<z then 1 else 0:=by
    intro z
    rcases Int.lt_trichotomy z 0 with h | h | h
    · rw [Int.sign_eq_neg_one_of_neg h,if_pos h]
    · subst h;rfl
    · rw [Int.sign_eq_one_of_pos h,if_neg (by omega),if_pos h]
  by_cases c1:(Aw n1 s1).sign<(Aw n2 s2).sign
  · rw [decide_eq_true c1,ct]
    rw [sg,sg] at c1
    unfold Bfs;rw [if_pos]
    split at c1<;>split at c1<;>(try split at c1)<;>(try split at c1)<;>omega
  · rw [decide_eq_false c1,cf]
    by_cases c2:(Aw n1 s1).sign>(Aw n2 s2).sign
    · rw [decide_eq_true c2,ct]
      rw [sg,sg] at c2
      unfold Bfs;rw [if_neg,if_pos]
      · split at c2<;>split at c2<;>(try split at c2)<;>(try split at c2)<;>omega
      · split at c2<;>split at c2<;>(try split at c2)<;>(try split at c2)<;>omega
    · rw [decide_eq_false c2,cf]
      have he:(Aw n1 s1).sign=(Aw n2 s2).sign:=by omega
      by_cases c3:(Aw n1 s1).sign<0
      · rw [decide_eq_true c3,ct,Qy,Qy,Ug rfl rfl h2 h1 (hf.le (by omega))]
        have p1:Aw n1 s1<0:=by rw [sg] at c3;split at c3;assumption;split at c3<;>omega
        have p2:Aw n2 s2<0:=by rw [he,sg] at c3;split at c3;assumption;split at c3<;>omega
        have e1:Aw n1 s1=-(val s1.l:Int):=by unfold Aw at p1 ⊢;cases n1<;>simp at p1 ⊢;omega
        have e2:Aw n2 s2=-(val s2.l:Int):=by unfold Aw at p2 ⊢;cases n2<;>simp at p2 ⊢;omega
        rw [e1,e2,Ca6]
      · rw [decide_eq_false c3,cf,Qy,Qy,Ug rfl rfl h1 h2 (hf.le (by omega))]
        have p1:0≤Aw n1 s1:=by
          apply Int.not_lt.1;intro h;rw [Int.sign_eq_neg_one_of_neg h] at c3;omega
        have p2:0≤Aw n2 s2:=by
          apply Int.not_lt.1;intro h;rw [he,Int.sign_eq_neg_one_of_neg h] at c3;omega
        have e1:Aw n1 s1=(val s1.l:Int):=by have:=Ck n1 s1;omega
        have e2:Aw n2 s2=(val s2.l:Int):=by have:=Ck n2 s2;omega
        rw [e1,e2,Ca5]
end
end Gx

namespace Gx
open Go Go.Proofs
section
variable {R:Type}
theorem Bu9 (z:Int) (d:Nat) (hd:d≠0):(mkRat z d).num.natAbs=z.natAbs/Nat.gcd z.natAbs d∧((mkRat z d).num<0↔z<0)∧(mkRat z d).den=d/Nat.gcd z.natAbs d:=by
  have hg:0<Nat.gcd z.natAbs d:=Nat.gcd_pos_of_pos_right _ (by omega)
  rw [Rat.num_mkRat,Rat.den_mkRat,if_neg hd,if_neg hd,Nat.gcd_comm d]
  have hdv:((Nat.gcd z.natAbs d:Nat):Int)∣z:=Int.dvd_natAbs.1 (Int.natCast_dvd_natCast.2 (Nat.gcd_dvd_left _ _))
  obtain ⟨c,hc⟩:=hdv
  have hgz:z.natAbs.gcd d=Nat.gcd z.natAbs d:=rfl
  generalize Nat.gcd z.natAbs d=g at *
  refine ⟨?_,?_,rfl⟩
  · rw [hc,Int.mul_ediv_cancel_left _ (by omega),Int.natAbs_mul,Int.natAbs_natCast,Nat.mul_div_cancel_left _ hg]
  · rw [hc,Int.mul_ediv_cancel_left _ (by omega)]
    constructor
    · intro h;exact Int.mul_neg_of_pos_of_neg (by omega) h
    · intro h;rcases Int.lt_or_le c 0 with h1 | h1
      · exact h1
      · have:=Int.mul_nonneg (show (0:Int)≤g by omega) h1;omega
structure RatD where
  neg:Bool
  ns:LS
  ds:LS
def RatD.av (x:RatD):List AV:=[.bool x.neg,x.ns.av,x.ds.av]
def RatD.ok (x:RatD):Prop:=Ai x.ns.l∧Ai x.ds.l
def RatD.m (x:RatD):Nat:=max x.ns.l.length x.ds.l.length
def RatD.q (x:RatD):Rat:=mkRat (Aw x.neg x.ns) (val x.ds.l)
def RatD.can (x:RatD) (q:Rat):Prop:=x.neg=decide (q.num<0)∧x.ns.l=dig q.num.natAbs∧x.ds.l=dig q.den
def qm (q:Rat):Nat:=max (dig q.num.natAbs).length (dig q.den).length
theorem RatD.can.ok {x:RatD} {q:Rat} (h:x.can q):x.ok:=⟨by rw [h.2.1];exact Ad _,by rw [h.2.2];exact Ad _⟩
theorem RatD.can.m {x:RatD} {q:Rat} (h:x.can q):x.m=qm q:=by unfold RatD.m qm;rw [h.2.1,h.2.2]
theorem RatD.can.q {x:RatD} {q:Rat} (h:x.can q):x.q=q:=by
  unfold RatD.q Aw
  rw [h.1,h.2.1,h.2.2,Ah,Ah]
  have:(if decide (q.num<0)=true then -(q.num.natAbs:Int) else (q.num.natAbs:Int))=q.num:=by
    by_cases h0:q.num<0
    · rw [if_pos (by simpa using h0)];omega
    · rw [if_neg (by simpa using h0)];omega
  rw [this,Rat.mkRat_self]
theorem Cc3 {x:RatD} {f:Bool→Option R}:rdB x.av f=f x.neg:=Ccl
theorem Ca7 {x:RatD} {f:List AV→Nat→Option R}:rdL 1 (List.drop 1 x.av) f=f (Ae x.ns.l) x.ns.l.length:=by rw [RatD.av,List.drop_succ_cons,List.drop_zero,B69]
theorem Bva {x:RatD} {f:List AV→Nat→Option R}:rdL 1 (List.drop 2 x.av) f=f (Ae x.ds.l) x.ds.l.length:=by rw [RatD.av,List.drop_succ_cons,List.drop_succ_cons,List.drop_zero,B69]
theorem Ht (x:RatD):Nat.ble 3 (List.length x.av)=true:=rfl
theorem Db (x:RatD):List.take 3 x.av=x.av:=rfl
theorem Ccm (x:RatD):List.take 2 x.av=Kw x.neg x.ns:=rfl
theorem Cdp (x:RatD):Nat.beq (List.length x.av) 3=true:=rfl
theorem A7s (n:Bool) (s:LS):((Nat.beq 0 0)&&((Nat.beq (List.length (Kw n s)) 2)&&(Nat.beq 2 2)))=true:=rfl
theorem Bb8 (n:Bool) (s:LS):Nat.ble 2 (List.length (Kw n s))=true:=rfl
theorem tk2 (n:Bool) (s:LS):List.take 2 (Kw n s)=Kw n s:=rfl
theorem Ca8:([.int .u32 1]:List AV)=Ae [1]:=rfl
theorem B9u:Ai [1]:=by intro x hx;simp at hx;omega
theorem Af1:dig 1=[1]:=by rw [Au2 (by omega)];simp [Dx]
theorem D6 {v:Nat} {S:List Nat} (h1:Ai S) (h2:val S=v):List.take ((dig v).length*1) (Ae S)=Ae (dig v):=by rw [← h2,Mv h1]
theorem ofA (neg:Bool) (l:List Nat) (t o:Bool):([.bool neg,.imm (Ae l) l.length 1 t o]:List AV)=Kw neg (.of l t o):=rfl
theorem Jb {z:Int} {t o:Bool}:Aw (decide (z<0)) (.of (dig z.natAbs) t o)=z:=by
  unfold Aw LS.l;rw [Ah]
  by_cases h:z<0
  · rw [if_pos (by simpa using h)];omega
  · rw [if_neg (by simpa using h)];omega
theorem Bxp {N:Nat} {v:Int} (hv:-9223372036854775808≤v∧v≤9223372036854775807) (hN:4≤N):∃ d:RatD,d.can (v:Rat)∧∀ K:LA→Option R,Dt N v K=K d.av:=by
  obtain ⟨S,s1,s2,s3⟩:=Bxn (R:=R) (N:=N) hv hN
  refine ⟨⟨decide (v<0),.of (dig v.natAbs) false false,.of (dig 1) false false⟩,⟨rfl,rfl,rfl⟩,fun K=>?_⟩
  rw [Azw];unfold Azv Azu
  rw [s3,D6 s1 s2,Af1];rfl
theorem On {N:Nat} {x:RatD} {o:Bool} (hx:x.ok) (hf:fit x.m N):∃ (neg:Bool) (s:LS) (l:List Nat) (o1 o2:Bool),Ai s.l∧Ai l∧val l≠0∧s.l.length≤x.m∧l.length≤max x.m 1∧mkRat (Aw neg s) (val l)=x.q∧∀ K:LA→Bool→LA→Nat→Bool→Option R,L9 N x.av o K=K (Kw neg s) o1 (Ae l) l.length o2:=by
  have hm1:x.ns.l.length≤x.m:=Nat.le_max_left _ _
  have hm2:x.ds.l.length≤x.m:=Nat.le_max_right _ _
  by_cases h0:val x.ds.l=0
  · refine ⟨false,.nil,[1],false,false,Zb,B9u,by decide,by simp [LS.l],by simp;omega,?_,fun K=>?_⟩
    · unfold RatD.q;rw [h0];simp [Aw,LS.l,val]
    · rw [Asr];unfold A4c A4b
      rw [Bva,Bu2 rfl hx.2 (hf.le hm2),h0,Ahb];rfl
  · refine ⟨x.neg,x.ns,x.ds.l,o,o,hx.1,hx.2,h0,hm1,by omega,rfl,fun K=>?_⟩
    have:Hp (val x.ds.l) 0=1:=by unfold Hp;rw [if_neg (by omega),if_pos (by omega)]
    rw [Asr];unfold A4c A4b
    rw [Bva,Bu2 rfl hx.2 (hf.le hm2),this,show ((1:Int)==0)=false by rfl,cf,show Nat.ble 2 (List.length x.av)=true by rfl,ct,Bva,Ccm,A7s,ct,Bb8,ct,tk2]
theorem Cdq (z:Int) (d:Nat) (hd:d≠0):(mkRat z d).num.sign=z.sign:=by
  obtain ⟨h1,h2,_⟩:=Bu9 z d hd
  rcases Int.lt_trichotomy z 0 with h | h | h
  · rw [Int.sign_eq_neg_one_of_neg h,Int.sign_eq_neg_one_of_neg (h2.2 h)]
  · subst h;simp
  · have hn:¬ (mkRat z d).num<0:=fun hh=>by have:=h2.1 hh;omega
    have h0:(mkRat z d).num≠0:=fun hh=>by
      have:mkRat z d=0:=Rat.num_eq_zero.1 hh
      rw [Rat.mkRat_eq_zero hd] at this;omega
    rw [Int.sign_eq_one_of_pos h,Int.sign_eq_one_of_pos (by omega)]
theorem Oo {N:Nat} {x:RatD} {o:Bool} {K:Int→Option R} (hx:x.ok) (hf:fit x.m N):Afd N x.av o K=K x.q.num.sign:=by
  obtain ⟨neg,s,l,o1,o2,p1,p2,p3,p4,p5,p6,p7⟩:=On (R:=R) (o:=o) hx hf
  rw [Bmc];unfold Bsd Bsc
  rw [Ht,ct,Db,p7,A7s,ct,Bb8,ct,tk2,Bb7 p1 (hf.le p4),← p6,Cdq _ _ p3]
theorem Iv {N:Nat} {x:RatD} {o:Bool} (hx:x.ok) (hf:fit x.m N):(∃ (n:Int) (d:Nat),-2147483648<n∧n<2147483648∧0<d∧d<2147483648∧mkRat n d=x.q∧∀ K:Int→Int→Bool→Option R,G2 N x.av o K=K n (d:Int) true)∨(∀ K:Int→Int→Bool→Option R,G2 N x.av o K=K 0 0 false):=by
  have hm1:x.ns.l.length≤x.m:=Nat.le_max_left _ _
  have hm2:x.ds.l.length≤x.m:=Nat.le_max_right _ _
  by_cases h1:val x.ns.l<2147483648
  · by_cases h2:val x.ds.l<2147483648
    · left
      have e:∀ K:Int→Int→Bool→Option R,G2 N x.av o K=Gb N K (val x.ns.l:Int) (val x.ds.l:Int) o x.av false:=by
        intro K
        rw [Afe];unfold Ap2 Ap1
        rw [Ca7,Ol rfl hx.1 (hf.le hm1),if_pos (by omega),Bva,Ol rfl hx.2 (hf.le hm2),if_pos (by omega)]
        rw [show ((!true)==false)=true by rfl,ct,show ((cond false true (!true))==false)=true by rfl,ct,show decide (((val x.ns.l:Nat):Int)≥2147483648)=false by rw [decide_eq_false_iff_not];omega,show ((cond false true false)==false)=true by rfl,ct,show decide (((val x.ds.l:Nat):Int)≥2147483648)=false by rw [decide_eq_false_iff_not];omega]
        rfl
      by_cases h0:val x.ds.l=0
      · refine ⟨0,1,by omega,by omega,by omega,by omega,by unfold RatD.q;rw [h0];simp,fun K=>?_⟩
        rw [e];unfold Gb Fz
        rw [cf,i0T h0,ct];rfl
      · have hn:=Ck x.neg x.ns
        refine ⟨Aw x.neg x.ns,val x.ds.l,by omega,by omega,by omega,h2,rfl,fun K=>?_⟩
        rw [e];unfold Gb Fz
        rw [cf,i0F h0,cf,Cc3,i64 (a:=((val x.ns.l:Nat):Int)) (by omega),i64 (a:=((val x.ds.l:Nat):Int)) (by omega)]
        unfold Aw
        cases x.neg
        · rfl
        · rw [ct,i64 (by omega),Int.zero_sub];rfl
    · right
      intro K
      rw [Afe];unfold Ap2 Ap1
      rw [Ca7,Ol rfl hx.1 (hf.le hm1),if_pos (by omega),Bva,Ol rfl hx.2 (hf.le hm2),show ((!true)==false)=true by rfl]
      by_cases h3:val x.ds.l<18446744073709551616
      · rw [if_pos h3,ct,show ((cond false true (!true))==false)=true by rfl,ct,show decide (((val x.ns.l:Nat):Int)≥2147483648)=false by rw [decide_eq_false_iff_not];omega,show ((cond false true false)==false)=true by rfl,ct,show decide (((val x.ds.l:Nat):Int)≥2147483648)=true by rw [decide_eq_true_eq];omega]
        unfold Gb Fz;rfl
      · rw [if_neg h3,ct,show ((cond false true (!false))==false)=false by rfl,cf]
        unfold Gb Fz;rfl
  · right
    intro K
    rw [Afe];unfold Ap2 Ap1
    rw [Ca7,Ol rfl hx.1 (hf.le hm1)]
    by_cases h3:val x.ns.l<18446744073709551616
    · rw [if_pos h3,Bva,Ol rfl hx.2 (hf.le hm2),show ((!true)==false)=true by rfl,show decide (((val x.ns.l:Nat):Int)≥2147483648)=true by rw [decide_eq_true_eq];omega]
      by_cases h4:val x.ds.l<18446744073709551616
      · rw [if_pos h4,ct,show ((cond false true (!true))==false)=true by rfl,ct]
        unfold Gb Fz;rfl
      · rw [if_neg h4,ct,show ((cond false true (!false))==false)=false by rfl,cf]
        unfold Gb Fz;rfl
    · rw [if_neg h3,Bva,Ol rfl hx.2 (hf.le hm2),show ((!false)==false)=false by rfl]
      split<;>(rw [cf];unfold Gb Fz;rfl)
theorem Bz7 {N:Nat} {a b c:Nat} {s:Int} (hN:4≤N) (ha:a<18446744073709551616) (hb:b<9223372036854775808) (hg0:0<c) (hga:c∣a):∀ (k fuel x y:Nat),k<fuel→x*y<2 ^ k→y≤x→Nat.gcd x y=c→∃ d:RatD,d.neg=decide (s<0)∧d.ns.l=dig (a/c)∧d.ds.l=dig (b/c)∧∀ K:LA→Option R,Cx N K s (b:Int) (a:Int) fuel (x:Int) (y:Int)=K d.av:=by
  have base:∀ (fuel:Nat),∃ d:RatD,d.neg=decide (s<0)∧d.ns.l=dig (a/c)∧d.ds.l=dig (b/c)∧∀ K:LA→Option R,Cx N K s (b:Int) (a:Int) (fuel+1) (c:Int) ((0:Nat):Int)=K d.av:=by
    intro fuel
    have q1:a/c<18446744073709551616:=Nat.lt_of_le_of_lt (Nat.div_le_self _ _) ha
    have q2:b/c<18446744073709551616:=Nat.lt_of_le_of_lt (Nat.div_le_self _ _) (by omega)
    obtain ⟨S1,s1,s2,s3⟩:=Lm (R:=R) (N:=N) q1 hN
    obtain ⟨S2,t1,t2,t3⟩:=Lm (R:=R) (N:=N) q2 hN
    refine ⟨⟨decide (s<0),.of (dig (a/c)) false false,.of (dig (b/c)) false false⟩,rfl,rfl,rfl,fun K=>?_⟩
    rw [Cx];unfold Mc
    rw [show (((0:Nat):Int) != 0)=false by rfl,cf,i0F (by omega),cf,A7r,w64 q1,s3,cf,w64 (show b<18446744073709551616 by omega),A7r,w64 q2,t3,D6 s1 s2,D6 t1 t2];rfl
  intro k
  induction k with
  | zero =>
    intro fuel x y hf hxy hle hg
    obtain ⟨fuel,rfl⟩:∃ F,fuel=F+1:=⟨fuel - 1,by omega⟩
    have hy:y=0:=by
      rcases Nat.eq_zero_or_pos y with h | h
      · exact h
      · have h3:=Nat.mul_le_mul_left x (show 1≤y by omega)
        rw [Nat.pow_zero] at hxy;omega
    subst hy
    rw [Nat.gcd_zero_right] at hg;subst hg
    exact base fuel
  | succ k ih =>
    intro fuel x y hf hxy hle hg
    obtain ⟨fuel,rfl⟩:∃ F,fuel=F+1:=⟨fuel - 1,by omega⟩
    rcases Nat.eq_zero_or_pos y with h | h
    · subst h;rw [Nat.gcd_zero_right] at hg;subst hg;exact base fuel
    · have hh:=A2l (show 1≤y by omega) hle
      have hm:=Nat.mod_lt x h
      have hg2:Nat.gcd y (x%y)=Nat.gcd x y:=by rw [Nat.gcd_comm,← Nat.gcd_rec,Nat.gcd_comm]
      obtain ⟨d,d1,d2,d3,d4⟩:=ih fuel y (x%y) (by omega) (by rw [Nat.pow_succ] at hxy;omega) (by omega) (by rw [hg2,hg])
      refine ⟨d,d1,d2,d3,fun K=>?_⟩
      rw [Cx];unfold Mc
      rw [show ((y:Int) != 0)=true by rw [bne_iff_ne];omega,ct,i0F (by omega),cf,A2i]
      exact d4 K
theorem Ao6 {N:Nat} {s:Int} {b:Nat} (hs:-9223372036854775808≤s∧s≤9223372036854775807) (hb0:0<b) (hb:b<9223372036854775808) (hN:1000≤N):∃ d:RatD,d.can (mkRat s b)∧∀ K:LA→Option R,K0 N s (b:Int) K=K d.av:=by
  obtain ⟨m1,m2,m3⟩:=Bu9 s b (by omega)
  have hcan:∀ d:RatD,d.neg=decide (s<0)→d.ns.l=dig (s.natAbs/Nat.gcd s.natAbs b)→d.ds.l=dig (b/Nat.gcd s.natAbs b)→d.can (mkRat s b):=by
    intro d h1 h2 h3
    exact ⟨by rw [h1];congr 1;exact propext m2.symm,by rw [h2,m1],by rw [h3,m3]⟩
  have ha:s.natAbs<18446744073709551616:=by omega
  have start:∀ K:LA→Option R,K0 N s (b:Int) K=Cx N K s (b:Int) (s.natAbs:Int) N (b:Int) (s.natAbs:Int):=by
    intro K
    rw [Awx];unfold As9 As8 Aio Aco
    dsimp only
    by_cases h:s<0
    · have e:IntKind.wrap .u64 ((0:Int) - IntKind.wrap .u64 s)=(s.natAbs:Int):=by rw [Bb5,Bb5];omega
      rw [decide_eq_true h,ct,e,w64 (by omega)]
    · have e:IntKind.wrap .u64 s=(s.natAbs:Int):=by rw [Bb5];omega
      rw [decide_eq_false h,cf,e,w64 (by omega)]
  have hg0:0<Nat.gcd s.natAbs b:=Nat.gcd_pos_of_pos_right _ hb0
  by_cases hle:s.natAbs≤b
  · obtain ⟨d, d1, d2, d3, d4⟩ := Bz7 (R := R) (N := N) (a := s.natAbs) (b := b) (c := Nat.gcd s.natAbs b) (s := s) (by omega) ha hb hg0 (Nat.gcd_dvd_left _ _) 128 N b s.natAbs (by omega) (by
      have:=Nat.mul_lt_mul'' (show b<18446744073709551616 by omega) ha;exact this) hle (Nat.gcd_comm _ _)
    exact ⟨d,hcan d d1 d2 d3,fun K=>by rw [start,d4]⟩
  · obtain ⟨F,hF⟩:∃ F,N=F+1:=⟨N - 1,by omega⟩
    obtain ⟨d,d1,d2,d3,d4⟩:=Bz7 (R:=R) (N:=N) (a:=s.natAbs) (b:=b) (c:=Nat.gcd s.natAbs b) (s:=s) (by omega) ha hb hg0 (Nat.gcd_dvd_left _ _) 128 F s.natAbs (b%s.natAbs) (by omega) (by
      rw [Nat.mod_eq_of_lt (by omega)]
      have:=Nat.mul_lt_mul'' ha (show b<18446744073709551616 by omega);exact this) (by rw [Nat.mod_eq_of_lt (by omega)];omega) (by rw [Nat.mod_eq_of_lt (by omega)])
    refine ⟨d,hcan d d1 d2 d3,fun K=>?_⟩
    rw [start,← d4 K]
    conv=>lhs;rw [show (Cx N K s (b:Int) (s.natAbs:Int) N)=Cx N K s (b:Int) (s.natAbs:Int) (F+1) by rw [← hF]]
    rw [Cx];unfold Mc
    rw [show (((s.natAbs:Nat):Int) != 0)=true by rw [bne_iff_ne];omega,ct,i0F (by omega),cf,A2i]
end
end Gx

namespace Gx
open Go Go.Proofs
section
variable {R:Type}
theorem Cbv {S:List Nat} {g:Nat} (h1:Ai S) (h2:val S=g) (hl:(dig g).length=1) {f:Int→Option R}:rdI .u32 (Ae S) f=f (g:Int):=by
  have h3:=(Bn h1).2
  rw [h2,hl] at h3
  have h4:=B4o h1
  rw [h2,hl] at h4
  obtain ⟨a,hd⟩:∃ a,dig g=[a]:=by
    match h:dig g,hl with
    | [a],_=>exact ⟨a,rfl⟩
  have ha:a=g:=by have:=Ah g;rw [hd] at this;simpa [val] using this
  rw [hd,ha] at h4
  match S,h3,h4 with
  | x::r,_,h4 =>
    simp at h4;subst h4
    rw [Aha,B5]
theorem Amx {N:Nat} {neg:Bool} {s:LS} {l:List Nat} {n:Nat} {o t o':Bool} (hn:n=l.length) (hs:Ai s.l) (hl:Ai l) (hl0:val l≠0) (hf:fit (2*(s.l.length+l.length)+8) N) :
    ∃ d:RatD,d.can (mkRat (Aw neg s) (val l))∧∀ K:LA→Option R,Pq N (Kw neg s) o (Ae l) n t o' K=K d.av:=by
  obtain ⟨m1,m2,m3⟩:=Bu9 (Aw neg s) (val l) hl0
  have hna:=Ck neg s
  have ls:=(Bn hs).2
  have ll:=(Bn hl).2
  generalize hz:Aw neg s=z at *
  have start:∀ K:LA→Option R,Pq N (Kw neg s) o (Ae l) n t o' K=cond ((((dig z.natAbs).length:Nat):Int)==(0:Int)) (K [(.bool false),.nsl,(.imm [(.int .u32 1)] 1 1 false false)]) (Bat N (Ae (dig z.natAbs)) (dig z.natAbs).length false true (Ae (dig (val l))) (dig (val l)).length false true (fun f g=>(cond ((((f:Nat):Int) != (1:Int))==false) (cond (Ak (0:Int) f) (rdI .u32 g fun y=>(cond (cond false true (y != (1:Int))) (En N (Ae (dig z.natAbs)) (dig z.natAbs).length false true (List.take (f*1) g) f false true (fun p ae af z2 ag=>(En N (Ae (dig (val l))) (dig (val l)).length false true (List.take (f*1) g) f false true (fun q ah ai aa aj=>(K [(.bool (decide (z<0))),(.imm (List.take (p*1) z2) p 1 false false),(.imm (List.take (q*1) aa) q 1 false false)]))))) (K [(.bool (decide (z<0))),(.imm (Ae (dig z.natAbs)) (dig z.natAbs).length 1 false false),(.imm (Ae (dig (val l))) (dig (val l)).length 1 false false)]))) none) (En N (Ae (dig z.natAbs)) (dig z.natAbs).length false true (List.take (f*1) g) f false true (fun r ak al ab am=>(En N (Ae (dig (val l))) (dig (val l)).length false true (List.take (f*1) g) f false true (fun s an ao ac ap=>(K [(.bool (decide (z<0))),(.imm (List.take (r*1) ab) r 1 false false),(.imm (List.take (s*1) ac) s 1 false false)])))))))):=by
    intro K
    rw [A7d];unfold Bav Bau
    have tk:∀ v:Nat,List.take ((dig v).length*1) (Ae (dig v))=Ae (dig v):=fun v=>D6 (Ad _) (Ah v)
    rw [Wt,Qy,show Nat.beq (List.length (Kw neg s)) 2=true by rfl,ct,ofA,B7a (s1:=.of s.l false o) hs (hf.le (by simp [LS.l];omega)),show Aw neg (.of s.l false o)=z by rw [← hz];rfl,A5a hn hl (hf.le (by omega)),tk,tk]
  by_cases h0:z=0
  · refine ⟨⟨false,.nil,.of [1] false false⟩,?_,fun K=>?_⟩
    · rw [h0];simp only [Rat.zero_mkRat]
      exact ⟨rfl,rfl,Af1.symm⟩
    · rw [start,h0];rfl
  · have hz0:z.natAbs≠0:=by omega
    have hlen:(dig z.natAbs).length≠0:=fun h=>hz0 (Bo.1 h)
    have hg0:0<Nat.gcd z.natAbs (val l):=Nat.gcd_pos_of_pos_right _ (by omega)
    have lz:(dig z.natAbs).length≤s.l.length:=by rw [hna];exact ls
    obtain ⟨G,g1,g2,g3⟩:=Ca2 (R:=R) (N:=N) (a:=dig z.natAbs) (b:=dig (val l)) (t:=false) (o:=true) (t':=false) (o':=true) rfl rfl (Ad _) (Ad _) (hf.le (by omega))
    rw [Ah,Ah] at g2 g3
    have lg:(dig (Nat.gcd z.natAbs (val l))).length≤l.length:=Nat.le_trans (Bv (Nat.gcd_le_right _ (by omega))) ll
    obtain ⟨Q1,R1,a1,a2,a3,a4,a5⟩:=A2k (R:=R) (N:=N) (a:=dig z.natAbs) (b:=dig (Nat.gcd z.natAbs (val l))) (t:=false) (o:=true) (t':=false) (o':=true) rfl rfl (Ad _) (Ad _) (by rw [Ah];omega) (hf.le (by omega))
    obtain ⟨Q2,R2,b1,b2,b3,b4,b5⟩:=A2k (R:=R) (N:=N) (a:=dig (val l)) (b:=dig (Nat.gcd z.natAbs (val l))) (t:=false) (o:=true) (t':=false) (o':=true) rfl rfl (Ad _) (Ad _) (by rw [Ah];omega) (hf.le (by omega))
    rw [Ah,Ah] at a2 a5 b2 b5
    have hn2:decide (z<0)=decide ((mkRat z (val l)).num<0):=by congr 1;exact propext m2.symm
    refine ⟨⟨decide (z<0),.of (dig (z.natAbs/Nat.gcd z.natAbs (val l))) false false,.of (dig (val l/Nat.gcd z.natAbs (val l))) false false⟩,⟨hn2,by rw [m1];rfl,by rw [m3];rfl⟩,fun K=>?_⟩
    rw [start,i0F hlen,cf,g3,D6 g1 g2]
    by_cases hl1:(dig (Nat.gcd z.natAbs (val l))).length=1
    · rw [show ((((((dig (Nat.gcd z.natAbs (val l))).length:Nat):Int) != (1:Int))==false))=true by rw [hl1];rfl,ct,show Ak 0 (dig (Nat.gcd z.natAbs (val l))).length=true by rw [hl1];rfl,ct,Cbv g1 g2 hl1]
      by_cases he:Nat.gcd z.natAbs (val l)=1
      · rw [he,show (cond false true (((1:Nat):Int) != 1))=false by rfl,cf,Nat.div_one,Nat.div_one];rfl
      · rw [show (cond false true (((Nat.gcd z.natAbs (val l):Nat):Int) != 1))=true by (show (((Nat.gcd z.natAbs (val l):Nat):Int) != 1)=true;rw [bne_iff_ne];omega),ct,a5,b5,D6 a1 a2,D6 b1 b2];rfl
    · rw [show ((((((dig (Nat.gcd z.natAbs (val l))).length:Nat):Int) != (1:Int))==false))=false by (rw [show ((((dig (Nat.gcd z.natAbs (val l))).length:Nat):Int) != (1:Int))=true by rw [bne_iff_ne];omega];rfl),cf,a5,b5,D6 a1 a2,D6 b1 b2];rfl
theorem Ava {N:Nat} {x:RatD} {o:Bool} (hx:x.ok) (hf:fit (4*x.m+10) N):∃ d:RatD,d.can x.q∧∀ K:LA→Option R,Alu N x.av o K=K d.av:=by
  have h1:=hf.1
  rcases Iv (R:=R) (N:=N) (o:=o) hx (hf.le (by omega)) with ⟨n,d,n1,n2,d1,d2,e,hK⟩ | hK
  · obtain ⟨c,c1,c2⟩:=Ao6 (R:=R) (N:=N) (s:=n) (b:=d) (by omega) d1 (by omega) (by omega)
    rw [e] at c1
    refine ⟨c,c1,fun K=>?_⟩
    rw [A0r];unfold Beh Beg
    rw [Ht,ct,Db,hK,ct,c2];rfl
  · obtain ⟨neg,s,l,o1,o2,p1,p2,p3,p4,p5,p6,p7⟩:=On (R:=R) (N:=N) (o:=o) hx (hf.le (by omega))
    obtain ⟨c,c1,c2⟩:=Amx (R:=R) (N:=N) (neg:=neg) (s:=s) (l:=l) (n:=l.length) (o:=o1) (t:=false) (o':=o2) rfl p1 p2 p3 (hf.le (by omega))
    rw [p6] at c1
    refine ⟨c,c1,fun K=>?_⟩
    rw [A0r];unfold Beh Beg
    rw [Ht,ct,Db,hK,cf,ct,p7,c2];rfl
def Wu (x y:Rat):Int:=if x<y then -1 else if y<x then 1 else 0
theorem B8k {d:Nat} (h:0<d):(0:Rat)<(d:Rat):=Rat.natCast_pos.2 h
theorem Bz8 {a c:Int} {b d:Nat} (hb:0<b) (hd:0<d):mkRat a b<mkRat c d↔a*d<c*b:=by
  rw [Rat.mkRat_eq_div,Rat.mkRat_eq_div,Rat.div_lt_iff (B8k hb)]
  have e:(c:Rat)/(d:Rat)*(b:Rat)=(c*b:Rat)/(d:Rat):=by rw [Rat.div_def,Rat.div_def,Rat.mul_assoc,Rat.mul_assoc,Rat.mul_comm (d:Rat)⁻¹]
  rw [e,Rat.lt_div_iff (B8k hd)]
  have e1:(a:Rat)*(d:Rat)=((a*d:Int):Rat):=by rw [Rat.intCast_mul];rfl
  have e2:(c:Rat)*(b:Rat)=((c*b:Int):Rat):=by rw [Rat.intCast_mul];rfl
  rw [e1,e2,Rat.intCast_lt_intCast]
theorem B8l {a c:Int} {b d:Nat} (hb:0<b) (hd:0<d):Wu (mkRat a b) (mkRat c d)=Bfs (a*d) (c*b):=by
  unfold Wu Bfs
  by_cases h:a*d<c*b
  · rw [if_pos h,if_pos ((Bz8 hb hd).2 h)]
  · rw [if_neg h,if_neg (fun hh=>h ((Bz8 hb hd).1 hh))]
    by_cases h2:c*b<a*d
    · rw [if_pos h2,if_pos ((Bz8 hd hb).2 h2)]
    · rw [if_neg h2,if_neg (fun hh=>h2 ((Bz8 hd hb).1 hh))]
theorem B44 {N:Nat} {a b:Int} {K:Int→Option R}:Ma N a b K=K (Bfs a b):=by
  rw [Adi];unfold Yg Yf
  rw [All];unfold Aid Aic
  rw [show (a != a)=false by simp,show (b != b)=false by simp]
  dsimp only
  rw [cf,cf]
  unfold Bfs
  by_cases h:a<b
  · rw [decide_eq_true h,ct,if_pos h]
  · rw [decide_eq_false h,cf,if_neg h]
    by_cases h2:b<a
    · rw [decide_eq_true (show a>b from h2),ct,if_pos h2]
    · rw [decide_eq_false (show ¬ a>b from h2),cf,if_neg h2]
theorem Bxq {N:Nat} {a b:Int} {K:Int→Option R}:H6 N a b K=K (Bfs a b):=by
  rw [Xl];unfold Tm Tl
  rw [Adj];unfold Yj Yi
  rw [show (a != a)=false by simp,show (b != b)=false by simp]
  dsimp only
  rw [cf,cf]
  unfold Bfs
  by_cases h:a<b
  · rw [decide_eq_true h,ct,if_pos h]
  · rw [decide_eq_false h,cf,if_neg h]
    by_cases h2:b<a
    · rw [decide_eq_true (show a>b from h2),ct,if_pos h2]
    · rw [decide_eq_false (show ¬ a>b from h2),cf,if_neg h2]
theorem Ca9 {p q:Rat} (h:p.num.sign<q.num.sign):p<q:=by
  rw [Rat.lt_iff]
  have hp:=p.den_pos;have hq:=q.den_pos
  rcases Int.lt_trichotomy p.num 0 with h1 | h1 | h1
  · rcases Int.lt_or_le q.num 0 with h2 | h2
    · rw [Int.sign_eq_neg_one_of_neg h1,Int.sign_eq_neg_one_of_neg h2] at h;omega
    · have x1:p.num*q.den<0:=Int.mul_neg_of_neg_of_pos h1 (by omega)
      have x2:0≤q.num*p.den:=Int.mul_nonneg h2 (by omega)
      omega
  · rw [h1] at h ⊢
    have:0<q.num:=by simpa using h
    have x2:0<q.num*p.den:=Int.mul_pos this (by omega)
    rw [Int.zero_mul];exact x2
  · rw [Int.sign_eq_one_of_pos h1] at h
    have:=Int.sign_trichotomy q.num
    omega
theorem Avb {a b:Int} (h1:-2147483648<a∧a<2147483648) (h2:-2147483648<b∧b<2147483648):-4611686018427387904<a*b∧a*b<4611686018427387904:=by
  have h3:a.natAbs*b.natAbs≤2147483647*2147483647:=Nat.mul_le_mul (by omega) (by omega)
  rw [← Int.natAbs_mul] at h3
  omega
theorem Ao7 {N:Nat} {x y:RatD} {o o':Bool} {K:Int→Option R} (hx:x.ok) (hy:y.ok) (hf:fit (4*(x.m+y.m)+10) N):Is N x.av o y.av o' K=K (Wu x.q y.q):=by
  have h1:=hf.1
  rw [A0a];unfold Az9 Az8
  rw [Ht,ct,Db,Oo hx (hf.le (by omega)),Ht,ct,Db,Oo hy (hf.le (by omega))]
  by_cases hs:x.q.num.sign=y.q.num.sign
  · rw [show (x.q.num.sign != y.q.num.sign)=false by simp [hs],cf,ct]
    have gen:Aab N K o x.av o' y.av=K (Wu x.q y.q):=by
      obtain ⟨n1,s1,l1,a1,b1,p1,p2,p3,p4,p5,p6,p7⟩:=On (R:=R) (N:=N) (o:=o) hx (hf.le (by omega))
      obtain ⟨n2,s2,l2,a2,b2,q1,q2,q3,q4,q5,q6,q7⟩:=On (R:=R) (N:=N) (o:=o') hy (hf.le (by omega))
      obtain ⟨S1,t1,t2,t3⟩:=Aqq (R:=R) (N:=N) (n1:=n1) (n2:=false) (s1:=s1) (s2:=.of l2 false b2) (o1:=a1) (o2:=(b2||false)) p1 q2 (hf.le (show s1.l.length+l2.length≤_ by omega))
      obtain ⟨S2,u1,u2,u3⟩:=Aqq (R:=R) (N:=N) (n1:=n2) (n2:=false) (s1:=s2) (s2:=.of l1 false b1) (o1:=a2) (o2:=(b1||false)) q1 p2 (hf.le (show s2.l.length+l1.length≤_ by omega))
      have v1:Aw false (.of l2 false b2)=(val l2:Int):=rfl
      have v2:Aw false (.of l1 false b1)=(val l1:Int):=rfl
      rw [v1] at t2 t3;rw [v2] at u2 u3
      have l1':(dig (Aw n1 s1*(val l2:Int)).natAbs).length≤x.m+max y.m 1:=Nat.le_trans (B6 (by
        rw [Int.natAbs_mul,Ck,Int.natAbs_natCast,Nat.pow_add]
        exact Nat.mul_lt_mul'' (Nat.lt_of_lt_of_le (Be p1) (Nat.pow_le_pow_right (by omega) p4)) (Nat.lt_of_lt_of_le (Be q2) (Nat.pow_le_pow_right (by omega) q5)))) (Nat.le_refl _)
      have l2':(dig (Aw n2 s2*(val l1:Int)).natAbs).length≤y.m+max x.m 1:=Nat.le_trans (B6 (by
        rw [Int.natAbs_mul,Ck,Int.natAbs_natCast,Nat.pow_add]
        exact Nat.mul_lt_mul'' (Nat.lt_of_lt_of_le (Be q1) (Nat.pow_le_pow_right (by omega) q4)) (Nat.lt_of_lt_of_le (Be p2) (Nat.pow_le_pow_right (by omega) p5)))) (Nat.le_refl _)
      unfold Aab Ain
      rw [Ht,ct,Db,p7,A7s,ct,Ht,ct,Db,q7,A7s,ct,Bb8,ct,tk2,ofA,t3,Bb8,ct,tk2,ofA,u3,D6 t1 t2,D6 u1 u2,ofA,ofA,Bxo (s1:=.of (dig (Aw n1 s1*(val l2:Int)).natAbs) false true) (s2:=.of (dig (Aw n2 s2*(val l1:Int)).natAbs) false true) (Ad _) (Ad _) (hf.le (show (dig (Aw n1 s1*(val l2:Int)).natAbs).length+(dig (Aw n2 s2*(val l1:Int)).natAbs).length≤_ by omega)),Jb,Jb,← p6,← q6,B8l (by omega) (by omega)]
    rcases Iv (R:=R) (N:=N) (o:=o) hx (hf.le (by omega)) with ⟨n,d,n1,n2,d1,d2,e,hK⟩ | hK
    · rcases Iv (R:=R) (N:=N) (o:=o') hy (hf.le (by omega)) with ⟨n',d',n1',n2',d1',d2',e',hK'⟩ | hK'
      · have b1:=Avb (a:=n) (b:=(d':Int)) ⟨n1,n2⟩ (by omega)
        have b2:=Avb (a:=n') (b:=(d:Int)) ⟨n1',n2'⟩ (by omega)
        rw [hK,ct,hK',show ((true:Bool)==true)=true by rfl,ct,ctB,ct,Bxq,i64 (by omega),i64 (by omega),← e,← e',B8l d1 d1']
      · rw [hK,ct,hK',show ((true:Bool)==true)=true by rfl,ct,ctB,cf,gen]
    · rcases Iv (R:=R) (N:=N) (o:=o') hy (hf.le (by omega)) with ⟨n',d',n1',n2',d1',d2',e',hK'⟩ | hK'
      · rw [hK,ct,hK',show ((false:Bool)==true)=false by rfl,cf,gen]
      · rw [hK,ct,hK',show ((false:Bool)==true)=false by rfl,cf,gen]
  · rw [show (x.q.num.sign != y.q.num.sign)=true by simp [hs],ct,B44]
    congr 1
    unfold Bfs Wu
    by_cases h:x.q.num.sign<y.q.num.sign
    · rw [if_pos h,if_pos (Ca9 h)]
    · have h2:y.q.num.sign<x.q.num.sign:=by omega
      have:=Ca9 h2
      rw [if_neg h,if_pos h2,if_neg (fun hh=>absurd (Rat.le_of_lt this) (Rat.not_le.2 hh)),if_pos this]
end
end Gx

namespace Gx
open Go Go.Proofs
section
variable {R:Type}
theorem B45 {q:Rat} (h:q.num.sign=0):q=0:=Rat.num_eq_zero.1 (Int.sign_eq_zero_iff_zero.1 h)
theorem Ha {a b:Int} {k l:Nat} (ha:a.natAbs<4294967296 ^ k) (hb:b.natAbs<4294967296 ^ l):(a*b).natAbs<4294967296 ^ (k+l):=by
  rw [Int.natAbs_mul,Nat.pow_add];exact Nat.mul_lt_mul'' ha hb
theorem Bft {a b:Int} {k:Nat} (ha:a.natAbs<4294967296 ^ k) (hb:b.natAbs<4294967296 ^ k):(a+b).natAbs<4294967296 ^ (k+1):=by
  rw [Nat.pow_succ];omega
theorem Hb {k l:Nat} (h:k≤l):4294967296 ^ k≤4294967296 ^ l:=Nat.pow_le_pow_right (by omega) h
theorem Cba {v k:Nat} (h:(dig v).length≤k):v<4294967296 ^ k:=by
  have:=Be (Ad v);rw [Ah] at this
  exact Nat.lt_of_lt_of_le this (Hb h)
theorem B46 (p r:Int) (d:Nat) (hd:d≠0):mkRat (p+r) d=mkRat p d+mkRat r d:=by
  rw [Rat.mkRat_add_mkRat _ _ hd hd,← Int.add_mul]
  exact (Rat.mkRat_mul_right hd).symm
theorem Cbw {N:Nat} {x y:RatD} {o o':Bool} (hx:x.ok) (hy:y.ok) (hf:fit (8*(x.m+y.m)+40) N):∃ d:RatD,d.can (x.q+y.q)∧∀ K:LA→Option R,Aqg N K o x.av o' y.av=K d.av:=by
  obtain ⟨n1,s1,l1,a1,b1,p1,p2,p3,p4,p5,p6,p7⟩:=On (R:=R) (N:=N) (o:=o) hx (hf.le (by omega))
  obtain ⟨n2,s2,l2,a2,b2,q1,q2,q3,q4,q5,q6,q7⟩:=On (R:=R) (N:=N) (o:=o') hy (hf.le (by omega))
  have zl1:(Aw n1 s1).natAbs<4294967296 ^ x.m:=by rw [Ck];exact Nat.lt_of_lt_of_le (Be p1) (Hb p4)
  have zl2:(Aw n2 s2).natAbs<4294967296 ^ y.m:=by rw [Ck];exact Nat.lt_of_lt_of_le (Be q1) (Hb q4)
  have dl1:((val l1:Nat):Int).natAbs<4294967296 ^ (x.m+1):=by rw [Int.natAbs_natCast];exact Nat.lt_of_lt_of_le (Be p2) (Hb (by omega))
  have dl2:((val l2:Nat):Int).natAbs<4294967296 ^ (y.m+1):=by rw [Int.natAbs_natCast];exact Nat.lt_of_lt_of_le (Be q2) (Hb (by omega))
  by_cases he:val l1=val l2
  · obtain ⟨S,t1,t2,t3⟩:=Bz6 (R:=R) (N:=N) (n1:=n1) (n2:=n2) (s1:=s1) (s2:=s2) (o1:=a1) (o2:=a2) p1 q1 (hf.le (by omega))
    have lz:(dig (Aw n1 s1+Aw n2 s2).natAbs).length≤x.m+y.m+1:=B6 (Bft (k:=x.m+y.m) (Nat.lt_of_lt_of_le zl1 (Hb (by omega))) (Nat.lt_of_lt_of_le zl2 (Hb (by omega))))
    obtain ⟨c,c1,c2⟩:=Amx (R:=R) (N:=N) (neg:=decide (Aw n1 s1+Aw n2 s2<0)) (s:=.of (dig (Aw n1 s1+Aw n2 s2).natAbs) false true) (l:=l1) (n:=l1.length) (o:=true) (t:=false) (o':=b1) rfl (Ad _) p2 p3 (hf.le (show 2*((dig (Aw n1 s1+Aw n2 s2).natAbs).length+l1.length)+8≤_ by omega))
    rw [Jb,B46 _ _ _ p3,p6] at c1
    rw [show mkRat (Aw n2 s2) (val l1)=y.q by rw [he,q6]] at c1
    refine ⟨c,c1,fun K=>?_⟩
    unfold Aqg Atq
    rw [Ht,ct,Db,p7,A7s,ct,Ht,ct,Db,q7,A7s,ct,Ug rfl rfl p2 q2 (hf.le (by omega)),he,Ahb,show ((0:Int)==0)=true by rfl,ct,Bb8,ct,Bb8,ct,tk2,tk2,t3,D6 t1 t2,ofA,c2];rfl
  · obtain ⟨S1,t1,t2,t3⟩:=Aqq (R:=R) (N:=N) (n1:=n1) (n2:=false) (s1:=s1) (s2:=.of l2 false b2) (o1:=a1) (o2:=(b2||false)) p1 q2 (hf.le (show s1.l.length+l2.length≤_ by omega))
    obtain ⟨S2,u1,u2,u3⟩:=Aqq (R:=R) (N:=N) (n1:=n2) (n2:=false) (s1:=s2) (s2:=.of l1 false b1) (o1:=a2) (o2:=(b1||false)) q1 p2 (hf.le (show s2.l.length+l1.length≤_ by omega))
    rw [show Aw false (.of l2 false b2)=(val l2:Int) by rfl] at t2 t3
    rw [show Aw false (.of l1 false b1)=(val l1:Int) by rfl] at u2 u3
    have z1:=Ha zl1 dl2
    have z2:=Ha zl2 dl1
    have L1:=B6 z1
    have L2:=B6 z2
    obtain ⟨S3,w1,w2,w3⟩:=Bz6 (R:=R) (N:=N) (n1:=decide (Aw n1 s1*(val l2:Int)<0)) (n2:=decide (Aw n2 s2*(val l1:Int)<0)) (s1:=.of (dig (Aw n1 s1*(val l2:Int)).natAbs) false true) (s2:=.of (dig (Aw n2 s2*(val l1:Int)).natAbs) false true) (o1:=true) (o2:=true) (Ad _) (Ad _) (hf.le (show (dig (Aw n1 s1*(val l2:Int)).natAbs).length+(dig (Aw n2 s2*(val l1:Int)).natAbs).length+1≤_ by omega))
    rw [Jb,Jb] at w2 w3
    obtain ⟨S4,v1,v2,v3⟩:=A2h (R:=R) (N:=N) (a:=l1) (b:=l2) (t:=false) (o:=b1) (t':=false) (o':=b2) rfl rfl p2 q2 (hf.le (by omega))
    have z3:=Bft (k:=x.m+y.m+1) (Nat.lt_of_lt_of_le z1 (Hb (by omega))) (Nat.lt_of_lt_of_le z2 (Hb (by omega)))
    have L3:=B6 z3
    have z4:val l1*val l2<4294967296 ^ (x.m+1+(y.m+1)):=by
      have:=Ha dl1 dl2;rw [Int.natAbs_mul,Int.natAbs_natCast,Int.natAbs_natCast] at this;exact this
    have L4:=B6 z4
    obtain ⟨c,c1,c2⟩:=Amx (R:=R) (N:=N) (neg:=decide (Aw n1 s1*(val l2:Int)+Aw n2 s2*(val l1:Int)<0)) (s:=.of (dig (Aw n1 s1*(val l2:Int)+Aw n2 s2*(val l1:Int)).natAbs) false true) (l:=dig (val l1*val l2)) (n:=(dig (val l1*val l2)).length) (o:=true) (t:=false) (o':=true) rfl (Ad _) (Ad _) (by rw [Ah];exact Nat.mul_ne_zero p3 q3) (hf.le (show 2*((dig (Aw n1 s1*(val l2:Int)+Aw n2 s2*(val l1:Int)).natAbs).length+(dig (val l1*val l2)).length)+8≤_ by omega))
    rw [Jb,Ah,← Rat.mkRat_add_mkRat _ _ p3 q3,p6,q6] at c1
    refine ⟨c,c1,fun K=>?_⟩
    unfold Aqg Atq
    have hc:(Hp (val l1) (val l2)==0)=false:=by
      rw [beq_eq_false_iff_ne];unfold Hp;split
      · omega
      · rw [if_pos (by omega)];omega
    rw [Ht,ct,Db,p7,A7s,ct,Ht,ct,Db,q7,A7s,ct,Ug rfl rfl p2 q2 (hf.le (by omega)),hc,cf,Bb8,ct,tk2,ofA,t3,Bb8,ct,tk2,ofA,u3,D6 t1 t2,D6 u1 u2,ofA,ofA,w3,v3,D6 w1 w2,D6 v1 v2,ofA,c2];rfl
theorem Bz9 {N:Nat} {x y:RatD} {o o':Bool} (hx:x.ok) (hy:y.ok) (hf:fit (8*(x.m+y.m)+40) N):∃ d:RatD,d.can (x.q+y.q)∧∀ K:LA→Option R,A0s N x.av o y.av o' K=K d.av:=by
  have h1:=hf.1
  by_cases hz:x.q.num.sign=0
  · obtain ⟨c,c1,c2⟩:=Ava (R:=R) (N:=N) (o:=o') hy (hf.le (by omega))
    refine ⟨c,by rw [B45 hz,Rat.zero_add];exact c1,fun K=>?_⟩
    rw [Ats];unfold Bem Bel
    rw [Ht,ct,Db,Oo hx (hf.le (by omega)),hz,show ((0:Int)==0)=true by rfl,ct,Ht,ct,Db,c2];rfl
  · have hzb:(x.q.num.sign==0)=false:=by rw [beq_eq_false_iff_ne];exact hz
    by_cases hw:y.q.num.sign=0
    · obtain ⟨c,c1,c2⟩:=Ava (R:=R) (N:=N) (o:=o) hx (hf.le (by omega))
      refine ⟨c,by rw [B45 hw,Rat.add_zero];exact c1,fun K=>?_⟩
      rw [Ats];unfold Bem Bel
      rw [Ht,ct,Db,Oo hx (hf.le (by omega)),hzb,cf,Ht,ct,Db,Oo hy (hf.le (by omega)),hw,show ((0:Int)==0)=true by rfl,ct,ct,c2];rfl
    · have hwb:(y.q.num.sign==0)=false:=by rw [beq_eq_false_iff_ne];exact hw
      have start:∀ K:LA→Option R,A0s N x.av o y.av o' K=G2 N x.av o (fun g e aw=>G2 N y.av o' (fun i f ax=>(cond (aw==true) (Y1 N K g e i f o x.av o' y.av (cond true ax false)) (Y1 N K g e i f o x.av o' y.av false)))):=by
        intro K
        rw [Ats];unfold Bem Bel
        rw [Ht,ct,Db,Oo hx (hf.le (by omega)),hzb,cf,Ht,ct,Db,Oo hy (hf.le (by omega)),hwb,cf,ct];rfl
      have gen:∃ d:RatD,d.can (x.q+y.q)∧∀ (K:LA→Option R) (g e i f:Int),Y1 N K g e i f o x.av o' y.av false=K d.av:=by
        obtain ⟨c,c1,c2⟩:=Cbw (R:=R) (N:=N) (o:=o) (o':=o') hx hy hf
        exact ⟨c,c1,fun K g e i f=>by unfold Y1 Atr;rw [cf,c2]⟩
      rcases Iv (R:=R) (N:=N) (o:=o) hx (hf.le (by omega)) with ⟨n,d,n1,n2,d1,d2,e,hK⟩ | hK
      · rcases Iv (R:=R) (N:=N) (o:=o') hy (hf.le (by omega)) with ⟨n',d',n1',n2',d1',d2',e',hK'⟩ | hK'
        · have b1:=Avb (a:=n) (b:=(d':Int)) ⟨n1,n2⟩ (by omega)
          have b2:=Avb (a:=n') (b:=(d:Int)) ⟨n1',n2'⟩ (by omega)
          have b3:=Avb (a:=(d:Int)) (b:=(d':Int)) (by omega) (by omega)
          have b4:((d*d':Nat):Int)=(d:Int)*(d':Int):=by simp
          obtain ⟨c,c1,c2⟩:=Ao6 (R:=R) (N:=N) (s:=n*d'+n'*d) (b:=d*d') (by omega) (Nat.mul_pos d1 d1') (by omega) (by omega)
          rw [← Rat.mkRat_add_mkRat _ _ (by omega) (by omega),e,e'] at c1
          refine ⟨c,c1,fun K=>?_⟩
          rw [start,hK,hK',show ((true:Bool)==true)=true by rfl,ct,ctB]
          unfold Y1 Atr
          rw [ct,i64 (a:=n*(d':Int)) (by omega),i64 (a:=n'*(d:Int)) (by omega),i64 (by omega),i64 (by omega),← b4,c2];rfl
        · obtain ⟨c,c1,c2⟩:=gen
          refine ⟨c,c1,fun K=>?_⟩
          rw [start,hK,hK',show ((true:Bool)==true)=true by rfl,ct,ctB,c2]
      · obtain ⟨c,c1,c2⟩:=gen
        refine ⟨c,c1,fun K=>?_⟩
        rw [start,hK]
        rcases Iv (R:=R) (N:=N) (o:=o') hy (hf.le (by omega)) with ⟨n',d',n1',n2',d1',d2',e',hK'⟩ | hK'
        · rw [hK',show ((false:Bool)==true)=false by rfl,cf,c2]
        · rw [hK',show ((false:Bool)==true)=false by rfl,cf,c2]
theorem B47 (n:Bool) (s:LS):Aw (!n) s=-Aw n s:=by unfold Aw;cases n<;>simp
theorem B0a {N:Nat} {x y:RatD} {o o':Bool} (hx:x.ok) (hy:y.ok) (hf:fit (8*(x.m+y.m)+40) N):∃ d:RatD,d.can (x.q - y.q)∧∀ K:LA→Option R,A0t N x.av o y.av o' K=K d.av:=by
  obtain ⟨c,c1,c2⟩:=Bz9 (R:=R) (N:=N) (x:=⟨x.neg,.of x.ns.l false o,.of x.ds.l false o⟩) (y:=⟨!y.neg,.of y.ns.l false o',.of y.ds.l false o'⟩) (o:=(o||(o||false))) (o':=(o'||(o'||false))) hx hy hf
  have e1:RatD.q ⟨x.neg,.of x.ns.l false o,.of x.ds.l false o⟩=x.q:=rfl
  have e2:RatD.q ⟨!y.neg,.of y.ns.l false o',.of y.ds.l false o'⟩=-y.q:=by
    show mkRat (Aw (!y.neg) (.of y.ns.l false o')) (val y.ds.l)=_
    rw [B47,← Rat.neg_mkRat];rfl
  rw [e1,e2,← Rat.sub_eq_add_neg] at c1
  refine ⟨c,c1,fun K=>?_⟩
  rw [Bs1];unfold B15 B14
  rw [Cc3,Ca7,Bva,Cdp,ct,Cc3,Ca7,Bva,Cdp,ct]
  exact (c2 _).trans rfl
theorem Cbx {N:Nat} {x y:RatD} {o o':Bool} (hx:x.ok) (hy:y.ok) (hf:fit (8*(x.m+y.m)+40) N):∃ d:RatD,d.can (x.q*y.q)∧∀ K:LA→Option R,A4y N K o x.av o' y.av=K d.av:=by
  obtain ⟨n1,s1,l1,a1,b1,p1,p2,p3,p4,p5,p6,p7⟩:=On (R:=R) (N:=N) (o:=o) hx (hf.le (by omega))
  obtain ⟨n2,s2,l2,a2,b2,q1,q2,q3,q4,q5,q6,q7⟩:=On (R:=R) (N:=N) (o:=o') hy (hf.le (by omega))
  have zl1:(Aw n1 s1).natAbs<4294967296 ^ x.m:=by rw [Ck];exact Nat.lt_of_lt_of_le (Be p1) (Hb p4)
  have zl2:(Aw n2 s2).natAbs<4294967296 ^ y.m:=by rw [Ck];exact Nat.lt_of_lt_of_le (Be q1) (Hb q4)
  have dl1:((val l1:Nat):Int).natAbs<4294967296 ^ (x.m+1):=by rw [Int.natAbs_natCast];exact Nat.lt_of_lt_of_le (Be p2) (Hb (by omega))
  have dl2:((val l2:Nat):Int).natAbs<4294967296 ^ (y.m+1):=by rw [Int.natAbs_natCast];exact Nat.lt_of_lt_of_le (Be q2) (Hb (by omega))
  obtain ⟨S1,t1,t2,t3⟩:=Aqq (R:=R) (N:=N) (n1:=n1) (n2:=n2) (s1:=s1) (s2:=s2) (o1:=a1) (o2:=a2) p1 q1 (hf.le (by omega))
  have L1:=B6 (Ha zl1 zl2)
  obtain ⟨S4,v1,v2,v3⟩:=A2h (R:=R) (N:=N) (a:=l1) (b:=l2) (t:=false) (o:=b1) (t':=false) (o':=b2) rfl rfl p2 q2 (hf.le (by omega))
  have z4:val l1*val l2<4294967296 ^ (x.m+1+(y.m+1)):=by
    have:=Ha dl1 dl2;rw [Int.natAbs_mul,Int.natAbs_natCast,Int.natAbs_natCast] at this;exact this
  have L4:=B6 z4
  obtain ⟨c,c1,c2⟩:=Amx (R:=R) (N:=N) (neg:=decide (Aw n1 s1*Aw n2 s2<0)) (s:=.of (dig (Aw n1 s1*Aw n2 s2).natAbs) false true) (l:=dig (val l1*val l2)) (n:=(dig (val l1*val l2)).length) (o:=true) (t:=false) (o':=true) rfl (Ad _) (Ad _) (by rw [Ah];exact Nat.mul_ne_zero p3 q3) (hf.le (show 2*((dig (Aw n1 s1*Aw n2 s2).natAbs).length+(dig (val l1*val l2)).length)+8≤_ by omega))
  rw [Jb,Ah,← Rat.mkRat_mul_mkRat,p6,q6] at c1
  refine ⟨c,c1,fun K=>?_⟩
  unfold A4y Ba2
  rw [Ht,ct,Db,p7,A7s,ct,Ht,ct,Db,q7,A7s,ct,Bb8,ct,Bb8,ct,tk2,tk2,t3,v3,D6 t1 t2,D6 v1 v2,ofA,c2];rfl
theorem B9v {N:Nat} {x y:RatD} {o o':Bool} (hx:x.ok) (hy:y.ok) (hf:fit (8*(x.m+y.m)+40) N):∃ d:RatD,d.can (x.q*y.q)∧∀ K:LA→Option R,Bja N x.av o y.av o' K=K d.av:=by
  have h1:=hf.1
  obtain ⟨g,g1,g2⟩:=Cbx (R:=R) (N:=N) (o:=o) (o':=o') hx hy hf
  rcases Iv (R:=R) (N:=N) (o:=o) hx (hf.le (by omega)) with ⟨n,d,n1,n2,d1,d2,e,hK⟩ | hK
  · rcases Iv (R:=R) (N:=N) (o:=o') hy (hf.le (by omega)) with ⟨n',d',n1',n2',d1',d2',e',hK'⟩ | hK'
    · have b1:=Avb (a:=n) (b:=n') ⟨n1,n2⟩ ⟨n1',n2'⟩
      have b3:=Avb (a:=(d:Int)) (b:=(d':Int)) (by omega) (by omega)
      have b4:((d*d':Nat):Int)=(d:Int)*(d':Int):=by simp
      obtain ⟨c,c1,c2⟩:=Ao6 (R:=R) (N:=N) (s:=n*n') (b:=d*d') (by omega) (Nat.mul_pos d1 d1') (by omega) (by omega)
      rw [← Rat.mkRat_mul_mkRat,e,e'] at c1
      refine ⟨c,c1,fun K=>?_⟩
      rw [Atw];unfold Bep Beo
      rw [Ht,ct,Db,hK,Ht,ct,Db,hK',show ((true:Bool)==true)=true by rfl,ct,ctB,ct,i64 (by omega),i64 (by omega),← b4,c2];rfl
    · refine ⟨g,g1,fun K=>?_⟩
      rw [Atw];unfold Bep Beo
      rw [Ht,ct,Db,hK,Ht,ct,Db,hK',show ((true:Bool)==true)=true by rfl,ct,ctB,cf,g2]
  · refine ⟨g,g1,fun K=>?_⟩
    rw [Atw];unfold Bep Beo
    rcases Iv (R:=R) (N:=N) (o:=o') hy (hf.le (by omega)) with ⟨n',d',n1',n2',d1',d2',e',hK'⟩ | hK'
    · rw [Ht,ct,Db,hK,Ht,ct,Db,hK',show ((false:Bool)==true)=false by rfl,cf,g2]
    · rw [Ht,ct,Db,hK,Ht,ct,Db,hK',show ((false:Bool)==true)=false by rfl,cf,g2]
theorem B2i {a b:Rat}:Wu a b≤0↔a≤b:=by
  unfold Wu
  by_cases h:a<b
  · rw [if_pos h];exact ⟨fun _=>Rat.le_of_lt h,fun _=>by omega⟩
  · rw [if_neg h]
    by_cases h2:b<a
    · rw [if_pos h2];exact ⟨fun hh=>by omega,fun hh=>absurd hh (Rat.not_le.2 h2)⟩
    · rw [if_neg h2];exact ⟨fun _=>Rat.not_lt.1 h2,fun _=>by omega⟩
theorem B9w {N:Nat} {x y:RatD} {o o':Bool} (hx:x.ok) (hy:y.ok) (hf:fit (8*(x.m+y.m)+40) N):∃ d:RatD,d.can (if x.q≤y.q then x.q else y.q)∧∀ K:LA→Option R,Bi7 N x.av o y.av o' K=K d.av:=by
  by_cases h:x.q≤y.q
  · obtain ⟨c,c1,c2⟩:=Ava (R:=R) (N:=N) (o:=o) hx (hf.le (by omega))
    refine ⟨c,by rw [if_pos h];exact c1,fun K=>?_⟩
    rw [Ba1];unfold Bpr Bpq
    rw [Ht,ct,Ht,ct,Db,Db,Ao7 hx hy (hf.le (by omega)),decide_eq_true (B2i.2 h),ct,ct,c2];rfl
  · obtain ⟨c,c1,c2⟩:=Ava (R:=R) (N:=N) (o:=o') hy (hf.le (by omega))
    refine ⟨c,by rw [if_neg h];exact c1,fun K=>?_⟩
    rw [Ba1];unfold Bpr Bpq
    rw [Ht,ct,Ht,ct,Db,Db,Ao7 hx hy (hf.le (by omega)),decide_eq_false (fun hh=>h (B2i.1 hh)),cf,ct,c2];rfl
end
end Gx

namespace Gx
open Go Go.Proofs
section
variable {R:Type}
def F3 (z:Int):List AV:=Kw (decide (z<0)) (.of (dig z.natAbs) false false)
theorem Bfu (z:Int) (K:LA→Option R):(cond ((Nat.beq 0 0)&&((Nat.beq (List.length (F3 z)) 2)&&(Nat.beq 2 2))) (cond (Nat.ble 2 (List.length (F3 z))) (K (List.take 2 (F3 z))) none) none)=K (F3 z):=rfl
theorem tkc (z:Int):List.take 2 (F3 z)=F3 z:=rfl
theorem Cdx (z:Int):Nat.beq (List.length (F3 z)) 2=true:=rfl
theorem tkd (v:Nat):List.take ((dig v).length*1) (Ae (dig v))=Ae (dig v):=D6 (Ad _) (Ah v)
theorem Hc {N:Nat} {neg:Bool} {l:List Nat} {n:Nat} {t o:Bool} {K:LA→Option R} (hn:n=l.length) (hl:Ai l) (hf:fit l.length N):Fu N neg (Ae l) n t o K=K (F3 (if neg then -(val l:Int) else (val l:Int))):=by
  obtain ⟨c1,c2⟩:=Ahd (z:=if neg then -(val l:Int) else (val l:Int)) (c:=neg) (m:=val l) rfl
  rw [Bdf];unfold Bhs Bhr
  rw [Df hn hl hf,tkd]
  unfold F3
  rw [← c1,c2]
  cases neg
  · rfl
  · rw [show ((true:Bool)==true)=true by rfl,ct,ctB];simp [Kw,LS.av]
theorem Aa3 {N:Nat} {v:Int} {K:LA→Option R} (hv:-9223372036854775808≤v∧v≤9223372036854775807) (hN:2000≤N):F9 N v K=K (F3 v):=by
  have hb:v.natAbs<18446744073709551616:=by omega
  have hl:=Afz hb
  rw [Awu];unfold Arv Aru
  by_cases h:v<0
  · have e : IntKind.wrap .u64 (IntKind.wrap .u64 (IntKind.wrap .i64 ((0 : Int) - IntKind.wrap .i64 (v + 1))) + 1) = (v.natAbs : Int) := by
      rw [i64 (a:=v+1) (by omega),i64 (by omega),Bb5,Bb5];omega
    rw [decide_eq_true h,ct,e,Amw hb (by omega),tkd,Hc rfl (Ad _) ⟨by omega,by omega⟩,Ah]
    have:(if true=true then -(v.natAbs:Int) else (v.natAbs:Int))=v:=by rw [if_pos rfl];omega
    rw [this];exact Bfu _ _
  · have e:IntKind.wrap .u64 v=(v.natAbs:Int):=by rw [Bb5];omega
    rw [decide_eq_false h,cf,e,Amw hb (by omega),tkd,Hc rfl (Ad _) ⟨by omega,by omega⟩,Ah]
    have:(if false=true then -(v.natAbs:Int) else (v.natAbs:Int))=v:=by rw [if_neg (by decide)];omega
    rw [this];exact Bfu _ _
theorem Bb9 {N:Nat} {n:Bool} {s:LS} {o:Bool} {K:LA→Option R} (hs:Ai s.l) (hf:fit s.l.length N):Ahw N (Kw n s) o K=K (F3 (Aw n s)):=by
  rw [Bdg];unfold Bhu Bht
  rw [Wt,Qy,Hc rfl hs hf];exact Bfu _ _
theorem Bvb {N:Nat} {n:Bool} {s:LS} {o:Bool} {K:Int→Option R} (hs:Ai s.l) (hf:fit s.l.length N):Ahx N (Kw n s) o K=K (Aw n s).sign:=by
  rw [Bdh];unfold Bhw Bhv
  rw [Bb8,ct,tk2,Bb9 hs hf,Cdx,show ((true&&(true&&(!false))))=true by rfl,ct]
  have e:setCells (Kw n s) 0 (F3 (Aw n s))=F3 (Aw n s):=rfl
  rw [e]
  generalize Aw n s=z
  unfold F3
  rw [Wt]
  rcases Int.lt_trichotomy z 0 with h | h | h
  · rw [decide_eq_true h,ct,Int.sign_eq_neg_one_of_neg h]
  · subst h;rfl
  · rw [decide_eq_false (by omega),cf,Qy]
    have:(dig z.natAbs).length≠0:=fun hh=>by have:=Bo.1 hh;omega
    simp only [LS.l]
    rw [i0F this,cf,Int.sign_eq_one_of_pos h]
theorem B9x {N:Nat} {n:Bool} {s:LS} {o:Bool} {K:LA→Option R} (hs:Ai s.l) (hf:fit s.l.length N):Ae2 N (Kw n s) o K=K (F3 (-Aw n s)):=by
  rw [Bl6];unfold Br2 Br1
  rw [Wt,Qy,Hc rfl hs hf,← B47];exact Bfu _ _
theorem B7b {N:Nat} {n1 n2:Bool} {s1 s2:LS} {o1 o2:Bool} {K:LA→Option R} (h1:Ai s1.l) (h2:Ai s2.l) (hf:fit (s1.l.length+s2.l.length) N):Sf N (Kw n1 s1) o1 (Kw n2 s2) o2 K=K (F3 (Aw n1 s1*Aw n2 s2)):=by
  have hl:(dig (val s1.l*val s2.l)).length≤s1.l.length+s2.l.length:=B6 (by rw [Nat.pow_add];exact Nat.mul_lt_mul'' (Be h1) (Be h2))
  rw [Bmn];unfold Bth Btg
  rw [Wt,Wt,Qy,Qy,B9q rfl rfl h1 h2 hf,tkd,Hc rfl (Ad _) (hf.le hl),Ah]
  have hz:Aw n1 s1*Aw n2 s2=if (!(n1==n2)) then -((val s1.l*val s2.l:Nat):Int) else ((val s1.l*val s2.l:Nat):Int):=by
    unfold Aw;cases n1<;>cases n2<;>simp [Int.mul_neg,Int.neg_mul]
  rw [← hz];exact Bfu _ _
theorem B7c {N:Nat} {n1 n2:Bool} {s1 s2:LS} {o1 o2:Bool} {K:LA→Option R} (h1:Ai s1.l) (h2:Ai s2.l) (hf:fit (s1.l.length+s2.l.length+1) N):Ae1 N (Kw n1 s1) o1 (Kw n2 s2) o2 K=K (F3 (Aw n1 s1+Aw n2 s2)):=by
  have v1:=Be h1
  have v2:=Be h2
  have w1:=Hb (show s1.l.length≤s1.l.length+s2.l.length by omega)
  have w2:=Hb (show s2.l.length≤s1.l.length+s2.l.length by omega)
  rw [Bl5];unfold Brz Bry
  rw [Wt,Wt]
  by_cases hn:n1=n2
  · subst hn
    have hl:(dig (val s1.l+val s2.l)).length≤s1.l.length+s2.l.length+1:=B6 (by rw [Nat.pow_succ];omega)
    have hz:Aw n1 s1+Aw n1 s2=if n1 then -((val s1.l+val s2.l:Nat):Int) else ((val s1.l+val s2.l:Nat):Int):=by
      unfold Aw;cases n1<;>simp;omega
    rw [show (n1==n1)=true by simp,ct,Wt,Qy,Qy,Bkb rfl rfl h1 h2 hf,tkd,Hc rfl (Ad _) (hf.le hl),Ah,← hz];exact Bfu _ _
  · rw [show (n1==n2)=false by simp [hn],cf,Qy,Qy,Bkc rfl rfl h1 h2 (hf.le (by omega))]
    by_cases hle:val s2.l≤val s1.l
    · have hl:(dig (val s1.l - val s2.l)).length≤s1.l.length+s2.l.length+1:=B6 (by rw [Nat.pow_succ];omega)
      have hz:Aw n1 s1+Aw n2 s2=if n1 then -((val s1.l - val s2.l:Nat):Int) else ((val s1.l - val s2.l:Nat):Int):=by
        unfold Aw;cases n1<;>cases n2<;>simp at hn ⊢<;>omega
      rw [if_pos hle,ct,Wt,tkd,Hc rfl (Ad _) (hf.le hl),Ah,← hz];exact Bfu _ _
    · have hl:(dig (val s2.l - val s1.l)).length≤s1.l.length+s2.l.length+1:=B6 (by rw [Nat.pow_succ];omega)
      have hz:Aw n1 s1+Aw n2 s2=if n2 then -((val s2.l - val s1.l:Nat):Int) else ((val s2.l - val s1.l:Nat):Int):=by
        unfold Aw;cases n1<;>cases n2<;>simp at hn ⊢<;>omega
      rw [if_neg hle,cf,Qy,Qy,Bkc rfl rfl h2 h1 (hf.le (by omega)),if_pos (by omega),Wt,tkd,Hc rfl (Ad _) (hf.le hl),Ah,← hz];exact Bfu _ _
theorem B9y {N:Nat} {n1 n2:Bool} {s1 s2:LS} {o1 o2:Bool} {K:LA→Option R} (h1:Ai s1.l) (h2:Ai s2.l) (hf:fit (3*(s1.l.length+s2.l.length)+4) N):Bdp N (Kw n1 s1) o1 (Kw n2 s2) o2 K=K (F3 ((Nat.gcd (Aw n1 s1).natAbs (Aw n2 s2).natAbs:Nat):Int)):=by
  have hl:(dig (Nat.gcd (val s1.l) (val s2.l))).length≤s1.l.length+s2.l.length:=by
    rcases Nat.eq_zero_or_pos (val s1.l) with h | h
    · rw [h,Nat.gcd_zero_left];have:=(Bn h2).2;omega
    · have:=Bv (Nat.gcd_le_left (val s2.l) h);have:=(Bn h1).2;omega
  rw [Bl4];unfold Brt Brs
  rw [Qy,Qy,B9t rfl rfl h1 h2 hf,tkd,Hc rfl (Ad _) (hf.le (by omega)),Ah,Ck,Ck];exact Bfu _ _
theorem A2m {N:Nat} {n1:Bool} {s1:LS} {g:Nat} {o1 o2:Bool} {K:LA→LA→Bool→Option R} (h1:Ai s1.l) (hg:0<g) (hd:g∣val s1.l) (hf:fit (s1.l.length+2*(dig g).length+4) N):X9 N (Kw n1 s1) o1 (F3 (g:Int)) o2 K=K (F3 (Aw n1 s1/(g:Int))) (F3 0) true:=by
  have hc:F3 (g:Int)=Kw false (.of (dig g) false false):=by
    unfold F3;rw [decide_eq_false (by omega),Int.natAbs_natCast]
  have hq:(dig (val s1.l/g)).length≤s1.l.length:=Nat.le_trans (Bv (Nat.div_le_self _ _)) (Bn h1).2
  rw [hc,Azk];unfold Azj Azi
  rw [Qy,Qy,show (LS.of (dig g) false false).l=dig g by rfl]
  rw [Au9 rfl rfl h1 (Ad _) (by rw [Ah];omega) hf,Ah,Nat.mod_eq_zero_of_dvd hd,show (!true)=false by rfl,cf,Wt,Wt,tkd,Hc rfl (Ad _) (hf.le (by omega)),Wt,tkd,Hc rfl (Ad _) (hf.le (by simp [Dx])),Ah,Ah]
  have e0:(if n1=true then -((0:Nat):Int) else ((0:Nat):Int))=0:=by cases n1<;>rfl
  have e1:(if (!(n1==false))=true then -((val s1.l/g:Nat):Int) else ((val s1.l/g:Nat):Int))=Aw n1 s1/(g:Int):=by
    obtain ⟨c,hc⟩:=hd
    have hv:val s1.l/g=c:=by rw [hc,Nat.mul_div_cancel_left _ hg]
    rw [hv];unfold Aw;rw [hc]
    cases n1
    · simp;rw [Int.mul_ediv_cancel_left _ (by omega)]
    · simp only [Bool.true_beq,Bool.not_false,if_true]
      rw [show -((g*c:Nat):Int)=(g:Int)*(-(c:Int)) by rw [Int.mul_neg];simp,Int.mul_ediv_cancel_left _ (by omega)]
  rw [e0,e1]
  generalize Aw n1 s1/(g:Int)=q
  have r0:∀ (f:Bool→Option R),rdB (F3 0) f=f false:=fun f=>Wt
  rw [show ((Nat.beq 0 0)&&((Nat.beq (List.length (F3 q)) 2)&&(Nat.beq 2 2)))=true by rfl,ct,show ((Nat.beq 0 0)&&((Nat.beq (List.length (F3 0)) 2)&&(Nat.beq 2 2)))=true by rfl,ct,r0,cf]
  rfl
end
end Gx

namespace Gx
open Go Go.Proofs
section
variable {R:Type}
def cqD (q:Rat):RatD:=⟨decide (q.num<0),.of (dig q.num.natAbs) false false,.of (dig q.den) false false⟩
def cq (q:Rat):List AV:=(cqD q).av
theorem Bpu (q:Rat):(cqD q).can q:=⟨rfl,rfl,rfl⟩
theorem B48 (q:Rat):(cqD q).q=q:=(Bpu q).q
theorem B2j (q:Rat):(cqD q).ok:=(Bpu q).ok
theorem B8m (q:Rat):(cqD q).m=qm q:=(Bpu q).m
theorem Bnj (q:Rat) (K:LA→Option R):(cond ((Nat.beq 0 0)&&((Nat.beq (List.length (cq q)) 3)&&(Nat.beq 3 3))) (cond (Nat.ble 3 (List.length (cq q))) (K (List.take 3 (cq q))) none) none)=K (cq q):=rfl
theorem Bnk (q:Rat):Nat.ble 2 (List.length (cq q))=true:=rfl
theorem A2n (q:Rat):List.take 2 (cq q)=F3 q.num:=rfl
theorem Cby:cq 0=[(.bool false),(.imm [] 0 1 false false),(.imm [(.int .u32 1)] 1 1 false false)]:=by
  have e:cq 0=[.bool false,.imm (Ae (dig 0)) (dig 0).length 1 false false,.imm (Ae (dig 1)) (dig 1).length 1 false false]:=rfl
  rw [e,Af1];rfl
theorem B7d {N:Nat} {K:LA→Option R}:Ay2 N K=K (cq 0):=by
  rw [Bdi];unfold Bhy Bhx
  rw [Cby]
theorem Cdy {N:Nat} {z:Int} {o:Bool} {K:LA→Option R} (hf:fit (dig z.natAbs).length N):Ae2 N (F3 z) o K=K (F3 (-z)):=by
  have:=B9x (R:=R) (N:=N) (n:=decide (z<0)) (s:=.of (dig z.natAbs) false false) (o:=o) (K:=K) (Ad _) hf
  rw [Jb] at this;exact this
theorem Cdr {N:Nat} {z:Int} {o:Bool} {K:Int→Option R} (hf:fit (dig z.natAbs).length N):Ahx N (F3 z) o K=K z.sign:=by
  have:=Bvb (R:=R) (N:=N) (n:=decide (z<0)) (s:=.of (dig z.natAbs) false false) (o:=o) (K:=K) (Ad _) hf
  rw [Jb] at this;exact this
theorem B7e {N:Nat} {z w:Int} {o o':Bool} {K:LA→Option R} (hf:fit ((dig z.natAbs).length+(dig w.natAbs).length) N):Sf N (F3 z) o (F3 w) o' K=K (F3 (z*w)):=by
  have:=B7b (R:=R) (N:=N) (n1:=decide (z<0)) (s1:=.of (dig z.natAbs) false false) (n2:=decide (w<0)) (s2:=.of (dig w.natAbs) false false) (o1:=o) (o2:=o') (K:=K) (Ad _) (Ad _) hf
  rw [Jb,Jb] at this;exact this
theorem Cdz {N:Nat} {z w:Int} {o o':Bool} {K:LA→Option R} (hf:fit ((dig z.natAbs).length+(dig w.natAbs).length+1) N):Ae1 N (F3 z) o (F3 w) o' K=K (F3 (z+w)):=by
  have:=B7c (R:=R) (N:=N) (n1:=decide (z<0)) (s1:=.of (dig z.natAbs) false false) (n2:=decide (w<0)) (s2:=.of (dig w.natAbs) false false) (o1:=o) (o2:=o') (K:=K) (Ad _) (Ad _) hf
  rw [Jb,Jb] at this;exact this
theorem B7f (z:Int):mkRat z 1=(z:Rat):=by
  apply Rat.ext
  · rw [Rat.num_mkRat,if_neg (by decide),Nat.gcd_one_left];simp
  · rw [Rat.den_mkRat,if_neg (by decide),Nat.gcd_one_left];simp
theorem Cbz (z:Int) (w:Nat) (hw:w≠0):(mkRat z w).num=z/((Nat.gcd z.natAbs w:Nat):Int)∧(mkRat z w).den=w/Nat.gcd z.natAbs w:=by
  refine ⟨?_,?_⟩
  · rw [Rat.num_mkRat,if_neg hw,Nat.gcd_comm w]
  · rw [Rat.den_mkRat,if_neg hw,Nat.gcd_comm w]
theorem Bnl {N:Nat} {n1 n2:Bool} {s1 s2:LS} {o1 o2:Bool} {K:LA→Option R} (h1:Ai s1.l) (h2:Ai s2.l) (hpos:0≤Aw n2 s2) (hf:fit (4*(s1.l.length+s2.l.length)+10) N):L8 N (Kw n1 s1) o1 (Kw n2 s2) o2 K=K (cq (mkRat (Aw n1 s1) (Aw n2 s2).natAbs)):=by
  have hna:=Ck n2 s2
  have hna1:=Ck n1 s1
  rw [Bdq];unfold Bia Bh9
  rw [Bb8,ct,tk2,Bvb h2 (hf.le (by omega))]
  by_cases h0:Aw n2 s2=0
  · rw [h0,show ((0:Int).sign==0)=true by rfl,ct,B7d]
    rw [show (0:Int).natAbs=0 by rfl,Rat.mkRat_zero];exact Bnj _ _
  · have hw:(Aw n2 s2).natAbs≠0:=by omega
    have hs1:((Aw n2 s2).sign==0)=false:=by rw [Int.sign_eq_one_of_pos (by omega)];rfl
    rw [hs1,cf,ct,Bb9 h2 (hf.le (by omega)),show ((Nat.beq 0 0)&&((Nat.beq (List.length (F3 (Aw n2 s2))) 2)&&(Nat.beq 2 2)))=true by rfl,ct]
    have rb:∀ (z:Int) (f:Bool→Option R),rdB (F3 z) f=f (decide (z<0)):=fun z f=>Wt
    have rl:∀ (z:Int) (f:List AV→Nat→Option R),rdL 1 (List.drop 1 (F3 z)) f=f (Ae (dig z.natAbs)) (dig z.natAbs).length:=fun z f=>Qy
    have l2:=(Bn h2).2
    have l1:=(Bn h1).2
    rw [rb,decide_eq_false (by omega),show ((!false)==true)=true by rfl,ct,rl,Ca8,Ca3 (a:=dig (Aw n2 s2).natAbs) (b:=[1]) (m:=1) rfl rfl (hf.le (by rw [hna];omega)),ctB]
    by_cases hone:(Aw n2 s2).natAbs=1
    · rw [hone,Af1,show decide (([1]:List Nat)=[1])=true by decide,ct,Bb8,ct,tk2,Bb9 h1 (hf.le (by omega)),rl,hone,Af1]
      rw [B7f]
      have e2:cq ((Aw n1 s1:Int):Rat)=[.bool (decide (Aw n1 s1<0)),.imm (Ae (dig (Aw n1 s1).natAbs)) (dig (Aw n1 s1).natAbs).length 1 false false,.imm (Ae [1]) 1 1 false false]:=by
        unfold cq cqD RatD.av LS.av
        rw [Rat.num_intCast,Rat.den_intCast,Af1];rfl
      rw [e2];rfl
    · have hne : decide (dig (Aw n2 s2).natAbs = [1]) = false := by
        rw [decide_eq_false_iff_not];intro hh
        have:=congrArg val hh
        rw [Ah] at this;simp [val] at this;omega
      rw [hne,cf]
      unfold Azl Asf
      have hg0:0<Nat.gcd (Aw n1 s1).natAbs (Aw n2 s2).natAbs:=Nat.gcd_pos_of_pos_right _ (by omega)
      have hgl:(dig (Nat.gcd (Aw n1 s1).natAbs (Aw n2 s2).natAbs)).length≤s2.l.length:=Nat.le_trans (Bv (Nat.gcd_le_right _ (by omega))) (by rw [hna];exact l2)
      have hd1:Nat.gcd (Aw n1 s1).natAbs (Aw n2 s2).natAbs∣val s1.l:=by rw [← hna1];exact Nat.gcd_dvd_left _ _
      have hd2:Nat.gcd (Aw n1 s1).natAbs (Aw n2 s2).natAbs∣val s2.l:=by rw [← hna];exact Nat.gcd_dvd_right _ _
      obtain ⟨q1,q2⟩:=Cbz (Aw n1 s1) (Aw n2 s2).natAbs hw
      rw [Bb8,ct,Bb8,ct,tk2,tk2,B9y h1 h2 (hf.le (by omega))]
      generalize hgd:Nat.gcd (Aw n1 s1).natAbs (Aw n2 s2).natAbs=g at *
      rw [show ((Nat.beq 0 0)&&((Nat.beq (List.length (F3 (g:Int))) 2)&&(Nat.beq 2 2)))=true by rfl,ct,ct,show Nat.ble 2 (List.length (F3 (g:Int)))=true by rfl,ct,tkc,A2m h1 hg0 hd1 (hf.le (by omega))]
      rw [show ∀ z:Int,((Nat.beq 0 0)&&((Nat.beq (List.length (F3 z)) 2)&&(Nat.beq 2 2)))=true from fun z=>rfl,ct,show ((Nat.beq 0 0)&&((Nat.beq (List.length (F3 0)) 2)&&(Nat.beq 2 2)))=true by rfl,ct,ct,A2m h2 hg0 hd2 (hf.le (by omega))]
      have hwz:Aw n2 s2/(g:Int)=(((Aw n2 s2).natAbs/g:Nat):Int):=by
        rw [show Aw n2 s2=(((Aw n2 s2).natAbs:Nat):Int) by omega];rfl
      rw [show ∀ z:Int,((Nat.beq 0 0)&&((Nat.beq (List.length (F3 z)) 2)&&(Nat.beq 2 2)))=true from fun z=>rfl,ct,ct,rb,hwz,decide_eq_false (by omega),cf,show ∀ z:Int,Nat.ble 2 (List.length (F3 z))=true from fun z=>rfl,ct,rl,Int.natAbs_natCast,← q2]
      rw [← q1];rfl
theorem B0b {N:Nat} {z w:Int} {o o':Bool} {K:LA→Option R} (hw:0≤w) (hf:fit (4*((dig z.natAbs).length+(dig w.natAbs).length)+10) N):L8 N (F3 z) o (F3 w) o' K=K (cq (mkRat z w.natAbs)):=by
  have:=Bnl (R:=R) (N:=N) (n1:=decide (z<0)) (s1:=.of (dig z.natAbs) false false) (n2:=decide (w<0)) (s2:=.of (dig w.natAbs) false false) (o1:=o) (o2:=o') (K:=K) (Ad _) (Ad _) (by rw [Jb];exact hw) hf
  rw [Jb,Jb] at this;exact this
theorem Ib {N:Nat} {x:RatD} {o:Bool} {K:LA→Option R} (hx:x.ok) (hf:fit (8*x.m+10) N):Kb N x.av o K=K (cq x.q):=by
  have m1:x.ns.l.length≤x.m:=Nat.le_max_left _ _
  have m2:x.ds.l.length≤x.m:=Nat.le_max_right _ _
  rw [Bes];unfold Bjd Bjc
  rw [show Nat.ble 2 (List.length x.av)=true by rfl,ct,Bva,Ccm,ofA,Bnl (s2:=.of x.ds.l false o) hx.1 hx.2 (by unfold Aw;simp) (hf.le (show 4*(x.ns.l.length+x.ds.l.length)+10≤_ by omega))]
  have:mkRat (Aw x.neg x.ns) (Aw false (.of x.ds.l false o)).natAbs=x.q:=by rw [Ck];rfl
  rw [this];exact Bnj _ _
theorem Py {N:Nat} {x:RatD} {o:Bool} {K:LA→Option R} (hx:x.ok) (hf:fit (8*x.m+10) N):Pr N x.av o K=K (F3 (x.q.den:Int)):=by
  rw [Bmk];unfold Bs5 Bs4
  rw [Ht,ct,Db,Ib hx hf]
  have:=Bva (R:=R) (x:=cqD x.q) (f:=fun e f=>K [(.bool false),(.imm e f 1 false false)])
  refine this.trans ?_
  unfold F3;rw [decide_eq_false (by omega),Int.natAbs_natCast];rfl
theorem Axk (x:RatD) (hx:x.ok):qm x.q≤x.m+1:=by
  have m1:x.ns.l.length≤x.m:=Nat.le_max_left _ _
  have m2:x.ds.l.length≤x.m:=Nat.le_max_right _ _
  unfold qm
  by_cases h:val x.ds.l=0
  · have:x.q=0:=by unfold RatD.q;rw [h,Rat.mkRat_zero]
    rw [this,Rat.zero_num,Rat.zero_den,Af1];simp [Dx]
  · obtain ⟨a1,_,a3⟩:=Bu9 (Aw x.neg x.ns) (val x.ds.l) h
    have b1:x.q.num.natAbs≤val x.ns.l:=by show (mkRat _ _).num.natAbs≤_;rw [a1,Ck];exact Nat.div_le_self _ _
    have b2:x.q.den≤val x.ds.l:=by show (mkRat _ _).den≤_;rw [a3];exact Nat.div_le_self _ _
    have c1:=Nat.le_trans (Bv b1) (Bn hx.1).2
    have c2:=Nat.le_trans (Bv b2) (Bn hx.2).2
    omega
theorem B8n (z:Int) (d:Nat) (k:Nat) (h1:z.natAbs<4294967296 ^ k) (h2:d<4294967296 ^ k) (hd:d≠0):qm (mkRat z d)≤k:=by
  obtain ⟨a1,_,a3⟩:=Bu9 z d hd
  unfold qm
  have b1:(mkRat z d).num.natAbs≤z.natAbs:=by rw [a1];exact Nat.div_le_self _ _
  have b2:(mkRat z d).den≤d:=by rw [a3];exact Nat.div_le_self _ _
  have c1:=B6 (Nat.lt_of_le_of_lt b1 h1)
  have c2:=B6 (Nat.lt_of_le_of_lt b2 h2)
  omega
theorem Ao8 (q:Rat):q.num.natAbs<4294967296 ^ qm q:=Cba (Nat.le_max_left _ _)
theorem Ac3 (q:Rat):q.den<4294967296 ^ qm q:=Cba (Nat.le_max_right _ _)
theorem Bkf (a b:Rat):qm (a+b)≤qm a+qm b+1:=by
  rw [Rat.add_def']
  have da:((a.den:Nat):Int).natAbs<4294967296 ^ qm a:=by rw [Int.natAbs_natCast];exact Ac3 a
  have db:((b.den:Nat):Int).natAbs<4294967296 ^ qm b:=by rw [Int.natAbs_natCast];exact Ac3 b
  refine B8n _ _ _ ?_ ?_ (Nat.mul_ne_zero a.den_nz b.den_nz)
  · refine Bft (Ha (Ao8 a) db) ?_
    have:=Ha (Ao8 b) da
    rwa [Nat.add_comm (qm b)] at this
  · rw [Nat.pow_succ,Nat.pow_add]
    have:=Nat.mul_lt_mul'' (Ac3 a) (Ac3 b)
    omega
theorem Bvc (a b:Rat):qm (a*b)≤qm a+qm b:=by
  rw [Rat.mul_def']
  refine B8n _ _ _ (Ha (Ao8 a) (Ao8 b)) ?_ (Nat.mul_ne_zero a.den_nz b.den_nz)
  rw [Nat.pow_add];exact Nat.mul_lt_mul'' (Ac3 a) (Ac3 b)
theorem Cbb (a:Rat):qm (-a)=qm a:=by unfold qm;rw [Rat.neg_num,Rat.neg_den,Int.natAbs_neg]
theorem Bca (a b:Rat):qm (a - b)≤qm a+qm b+1:=by rw [Rat.sub_eq_add_neg,← Cbb b];exact Bkf _ _
theorem Cc4 {v:Int} (h:v.natAbs<18446744073709551616):qm (v:Rat)≤2:=by
  unfold qm;rw [Rat.num_intCast,Rat.den_intCast,Af1]
  have:=Afz h
  simp;omega
theorem mkq {a:Int} {b:Nat}:mkRat a ((b:Int)).natAbs=mkRat a b:=by rw [Int.natAbs_natCast]
theorem B7g {N:Nat} {x:RatD} {o:Bool} {K:LA→Option R} (hx:x.ok) (hf:fit (16*x.m+40) N):Bet N x.av o K=K (cq (-x.q)):=by
  have hq:=Axk x hx
  have q1:(dig x.q.num.natAbs).length≤qm x.q:=Nat.le_max_left _ _
  have q2:(dig x.q.den).length≤qm x.q:=Nat.le_max_right _ _
  rw [Bml];unfold Bs8 Bs7
  rw [Ht,ct,Db,Ib hx (hf.le (by omega)),Bnk,ct,A2n,Cdy (hf.le (show (dig x.q.num.natAbs).length≤_ by omega)),ct,Py hx (hf.le (by omega)),B0b (by omega) (hf.le (show 4*((dig (-x.q.num).natAbs).length+(dig ((x.q.den:Nat):Int).natAbs).length)+10≤_ by rw [Int.natAbs_neg,Int.natAbs_natCast];omega)),mkq]
  have:mkRat (-x.q.num) x.q.den=-x.q:=by rw [← Rat.neg_mkRat,Rat.mkRat_self]
  rw [this];exact Bnj _ _
theorem Bvd {N:Nat} {x y:RatD} {o o':Bool} {K:LA→Option R} (hx:x.ok) (hy:y.ok) (hf:fit (16*(x.m+y.m)+80) N):Afo N x.av o y.av o' K=K (cq (x.q+y.q)):=by
  have hqx:=Axk x hx
  have hqy:=Axk y hy
  have x1:=Ao8 x.q
  have x2:((x.q.den:Nat):Int).natAbs<4294967296 ^ qm x.q:=by rw [Int.natAbs_natCast];exact Ac3 _
  have y1:=Ao8 y.q
  have y2:((y.q.den:Nat):Int).natAbs<4294967296 ^ qm y.q:=by rw [Int.natAbs_natCast];exact Ac3 _
  have L1:=B6 x1
  have L2:=B6 x2
  have L3:=B6 y1
  have L4:=B6 y2
  have z1:=Ha x1 y2
  have z2:=Ha y1 x2
  have z3:=Bft (k:=qm x.q+qm y.q) z1 (by rwa [Nat.add_comm])
  have z4:=Ha x2 y2
  have M1:=B6 z1
  have M2:=B6 z2
  have M3:=B6 z3
  have M4:=B6 z4
  rw [Bmo];unfold Btk Btj
  rw [Ht,ct,Db,Ib hx (hf.le (by omega)),Ht,ct,Db,Ib hy (hf.le (by omega)),show ∀ q,((Nat.beq 0 0)&&((Nat.beq (List.length (cq q)) 3)&&(Nat.beq 3 3)))=true from fun q=>rfl,ct,show ∀ q,((Nat.beq 0 0)&&((Nat.beq (List.length (cq q)) 3)&&(Nat.beq 3 3)))=true from fun q=>rfl,ct,Bnk,ct,ct,Py hy (hf.le (by omega)),A2n,B7e (hf.le (show (dig x.q.num.natAbs).length+(dig ((y.q.den:Nat):Int).natAbs).length≤_ by omega)),Bnk,ct,ct,Py hx (hf.le (by omega)),A2n,B7e (hf.le (show (dig y.q.num.natAbs).length+(dig ((x.q.den:Nat):Int).natAbs).length≤_ by omega)),Cdz (hf.le (show (dig (x.q.num*((y.q.den:Nat):Int)).natAbs).length+(dig (y.q.num*((x.q.den:Nat):Int)).natAbs).length+1≤_ by omega)),ct,Py hx (hf.le (by omega)),ct,Py hy (hf.le (by omega)),B7e (hf.le (show (dig ((x.q.den:Nat):Int).natAbs).length+(dig ((y.q.den:Nat):Int).natAbs).length≤_ by omega)),B0b (Int.mul_nonneg (by omega) (by omega)) (hf.le (show 4*((dig (x.q.num*((y.q.den:Nat):Int)+y.q.num*((x.q.den:Nat):Int)).natAbs).length+(dig (((x.q.den:Nat):Int)*((y.q.den:Nat):Int)).natAbs).length)+10≤_ by omega))]
  have:mkRat (x.q.num*((y.q.den:Nat):Int)+y.q.num*((x.q.den:Nat):Int)) (((x.q.den:Nat):Int)*((y.q.den:Nat):Int)).natAbs=x.q+y.q:=by
    rw [Rat.add_def',Int.natAbs_mul,Int.natAbs_natCast,Int.natAbs_natCast]
  rw [this];exact Bnj _ _
theorem Bve {N:Nat} {x y:RatD} {o o':Bool} {K:LA→Option R} (hx:x.ok) (hy:y.ok) (hf:fit (16*(x.m+y.m)+100) N):Afp N x.av o y.av o' K=K (cq (x.q - y.q)):=by
  have hqy:=Axk y hy
  rw [Bmp];unfold Bto Btn
  rw [Ht,ct,Ht,ct,Db,Db,B7g hy (hf.le (by omega))]
  have:=Bvd (R:=R) (N:=N) (x:=x) (y:=cqD (-y.q)) (o:=o) (o':=false) (K:=fun e=>(cond ((Nat.beq 0 0)&&((Nat.beq (List.length e) 3)&&(Nat.beq 3 3))) (cond (Nat.ble 3 (List.length e)) (K (List.take 3 e)) none) none)) hx (B2j _) (hf.le (by rw [B8m,Cbb];omega))
  rw [B48,← Rat.sub_eq_add_neg] at this
  exact this.trans (Bnj _ _)
theorem A2o {N:Nat} {x:RatD} {o:Bool} {K:Int→Option R} (hx:x.ok) (hf:fit (8*x.m+10) N):Abv N x.av o K=K x.q.num.sign:=by
  have hq:=Axk x hx
  have q1:(dig x.q.num.natAbs).length≤qm x.q:=Nat.le_max_left _ _
  rw [Bev];unfold Bjk Bjj
  rw [Ht,ct,Db,Ib hx hf,Bnk,ct,A2n,Cdr (hf.le (show (dig x.q.num.natAbs).length≤_ by omega))]
theorem B49 (a b:Rat):(a - b).num.sign=Wu a b:=by
  unfold Wu
  by_cases h:a<b
  · rw [if_pos h]
    have h1:a - b<0:=by grind
    have:(a - b).num<0:=by
      apply Int.not_le.1;intro h2
      exact absurd (Rat.num_nonneg.1 h2) (Rat.not_le.2 h1)
    exact Int.sign_eq_neg_one_of_neg this
  · rw [if_neg h]
    by_cases h2:b<a
    · rw [if_pos h2]
      have h1:0<a - b:=by grind
      have h3:0≤(a - b).num:=Rat.num_nonneg.2 (Rat.le_of_lt h1)
      have h4:(a - b).num≠0:=fun hh=>by
        have:=Rat.num_eq_zero.1 hh
        rw [this] at h1;exact absurd h1 Rat.lt_irrefl
      exact Int.sign_eq_one_of_pos (by omega)
    · rw [if_neg h2]
      have:a=b:=Rat.le_antisymm (Rat.not_lt.1 h2) (Rat.not_lt.1 h)
      rw [this,Rat.sub_self];rfl
theorem Bvf {N:Nat} {x y:RatD} {o o':Bool} {K:Int→Option R} (hx:x.ok) (hy:y.ok) (hf:fit (16*(x.m+y.m)+100) N):Ef N x.av o y.av o' K=K (Wu x.q y.q):=by
  have hqx:=Axk x hx
  have hqy:=Axk y hy
  have hs:=Bca x.q y.q
  rw [Aw7];unfold At4 At3
  rw [Ht,ct,Ht,ct,Db,Db,Bve hx hy hf]
  have:=A2o (R:=R) (N:=N) (x:=cqD (x.q - y.q)) (o:=false) (K:=fun g=>K g) (B2j _) (hf.le (by rw [B8m];omega))
  rw [B48,B49] at this
  exact this
theorem B7h {N:Nat} {x y:RatD} {o o':Bool} {K:LA→Option R} (hx:x.ok) (hy:y.ok) (hf:fit (16*(x.m+y.m)+80) N):At6 N x.av o y.av o' K=K (cq (x.q*y.q)):=by
  have hqx:=Axk x hx
  have hqy:=Axk y hy
  have x1:=Ao8 x.q
  have x2:((x.q.den:Nat):Int).natAbs<4294967296 ^ qm x.q:=by rw [Int.natAbs_natCast];exact Ac3 _
  have y1:=Ao8 y.q
  have y2:((y.q.den:Nat):Int).natAbs<4294967296 ^ qm y.q:=by rw [Int.natAbs_natCast];exact Ac3 _
  have L1:=B6 x1
  have L2:=B6 x2
  have L3:=B6 y1
  have L4:=B6 y2
  have M1:=B6 (Ha x1 y1)
  have M4:=B6 (Ha x2 y2)
  rw [Bmr];unfold Btu Btt
  rw [Ht,ct,Db,Ib hx (hf.le (by omega)),Bnk,ct,Ht,ct,Db,Ib hy (hf.le (by omega)),Bnk,ct,A2n,A2n,B7e (hf.le (show (dig x.q.num.natAbs).length+(dig y.q.num.natAbs).length≤_ by omega)),ct,Py hx (hf.le (by omega)),ct,Py hy (hf.le (by omega)),B7e (hf.le (show (dig ((x.q.den:Nat):Int).natAbs).length+(dig ((y.q.den:Nat):Int).natAbs).length≤_ by omega)),B0b (Int.mul_nonneg (by omega) (by omega)) (hf.le (show 4*((dig (x.q.num*y.q.num).natAbs).length+(dig (((x.q.den:Nat):Int)*((y.q.den:Nat):Int)).natAbs).length)+10≤_ by omega))]
  have:mkRat (x.q.num*y.q.num) (((x.q.den:Nat):Int)*((y.q.den:Nat):Int)).natAbs=x.q*y.q:=by
    rw [Rat.mul_def',Int.natAbs_mul,Int.natAbs_natCast,Int.natAbs_natCast]
  rw [this];exact Bnj _ _
theorem Bvg {N:Nat} {v:Int} {K:LA→Option R} (hv:-9223372036854775808≤v∧v≤9223372036854775807) (hN:4000≤N):E1 N v K=K (cq (v:Rat)):=by
  have hl:=Afz (show v.natAbs<18446744073709551616 by omega)
  rw [Aww];unfold Asj Asi
  rw [Aa3 hv (by omega),Aa3 (by omega) (by omega),B0b (by omega) ⟨show 100*(4*((dig v.natAbs).length+(dig (1:Int).natAbs).length)+10)+1000≤N by (rw [show (1:Int).natAbs=1 by rfl,Af1];simp;omega),show 4*((dig v.natAbs).length+(dig (1:Int).natAbs).length)+10≤1000000000 by (rw [show (1:Int).natAbs=1 by rfl,Af1];simp;omega)⟩]
  have:mkRat v (1:Int).natAbs=(v:Rat):=B7f v
  rw [this];exact Bnj _ _
theorem B5a {N:Nat} {v w:Int} {K:LA→Option R} (hv:-9223372036854775808≤v∧v≤9223372036854775807) (hw:0≤w∧w≤9223372036854775807) (hN:4000≤N):Bjl N v w K=K (cq (mkRat v w.natAbs)):=by
  have hl:=Afz (show v.natAbs<18446744073709551616 by omega)
  have hl2:=Afz (show w.natAbs<18446744073709551616 by omega)
  rw [Btr];unfold B18 B17
  rw [Aa3 hv (by omega),Aa3 (by omega) (by omega),B0b (by omega) ⟨show 100*(4*((dig v.natAbs).length+(dig w.natAbs).length)+10)+1000≤N by omega,show 4*((dig v.natAbs).length+(dig w.natAbs).length)+10≤1000000000 by omega⟩]
  exact Bnj _ _
end
end Gx

namespace Gx
open Go Go.Proofs
set_option maxRecDepth 100000
noncomputable section
variable {R:Type}
def B8o (N:Nat) (r0:Option R)  (a:LA) (b:Nat) (c d:Bool):Option R :=
 r0
def B8p (N:Nat) (a:LA) (b:Nat) (c d:Bool) (r0:Option R):Option R:=(B8o N r0 a b c d)
def B2k:=(Aj (@B8p R)).1
theorem B7i:@B2k R=@B8p R:=(Aj _).2
def B0c:Hints:={ H:=(hS (hR [0]) (hS (hR [2]) hL)),nils:=[],modes:=[],free:=[],cob:=[] }
def Bvh (N:Nat):List (Nat×Tw):=[]
def Bkg (a:LA) (b:Nat) (c d:Bool) (F:KF R):Option R:=F (.optr 300000 0) [(300000,⟨false,false,false,false,0,[(.imm a b 1 c d),(.int .i64 0)],false⟩)]
theorem Bkh (N:Nat) (a:LA) (b:Nat) (c d:Bool) (F:KF R):Ac Tryz.prog muts (Bvh N) B0c N 105 [(.imm a b 1 c d)] [] F=(B2k N a b c d (Bkg a b c d F)):=by
 have hK:Ac Tryz.prog muts (Bvh N) B0c N 105 [(.imm a b 1 c d)] [] F=(B8o N (Bkg a b c d F) a b c d):=by kernel_rfl
 rw [B7i]
 exact hK
def Avc (N:Nat) (args:List AV) (h:Al) (k:KF R):Option R :=
 match args,h with
 | [(.imm a b 1 c d)],[]=>(B2k N a b c d (Bkg a b c d k))
 | _,_=>none
def B0d (N:Nat):Tw:=⟨Avc N,fun args h k=>by
 unfold Avc;split
 exact twE (Bkh ..) (Bkh ..)
 rfl⟩
theorem B9z (N:Nat):A0 Tryz.prog 105 (B0d N):=fun args h res e hh=>by
 change Avc N args h (fun v e=>some (v,e))=_ at hh
 unfold Avc at hh;split at hh
 exact Aa (T:=Bvh N) trivial follows ((Bkh ..).trans hh)
 cases hh
def B8q (N:Nat) (r0:Int→Option R)  (b a:Int):Option R :=
 (cond ((IntKind.wrap .u64 a)==(0:Int)) none (r0 (IntKind.wrap .i64 (Int.tmod (IntKind.wrap .u64 b) (IntKind.wrap .u64 a)))))
def B8r (N:Nat) (b a:Int) (r0:Int→Option R):Option R:=(B8q N r0 b a)
def B2l:=(Aj (@B8r R)).1
theorem B7j:@B2l R=@B8r R:=(Aj _).2
def B0e:Hints:={ H:=(hS (hR [0,1]) (hS (hR [4]) hL)),nils:=[],modes:=[],free:=[],cob:=[] }
def Bvi (N:Nat):List (Nat×Tw):=[]
def Bki  (F:KF R):Int→Option R:=(fun d=>F (.int .i64 d) [])
theorem Bkj (N:Nat) (b a:Int) (F:KF R):Ac Tryz.prog muts (Bvi N) B0e N 150 [(.int .i64 b),(.int .i64 a)] [] F=(B2l N b a (Bki F)):=by
 have hK:Ac Tryz.prog muts (Bvi N) B0e N 150 [(.int .i64 b),(.int .i64 a)] [] F=(B8q N (Bki F) b a):=by kernel_rfl
 rw [B7j]
 exact hK
def Avd (N:Nat) (args:List AV) (h:Al) (k:KF R):Option R :=
 match args,h with
 | [(.int .i64 b),(.int .i64 a)],[]=>(B2l N b a (Bki k))
 | _,_=>none
def B0f (N:Nat):Tw:=⟨Avd N,fun args h k=>by
 unfold Avd;split
 exact twE (Bkj ..) (Bkj ..)
 rfl⟩
theorem B90 (N:Nat):A0 Tryz.prog 150 (B0f N):=fun args h res c hh=>by
 change Avd N args h (fun v c=>some (v,c))=_ at hh
 unfold Avd at hh;split at hh
 exact Aa (T:=Bvi N) trivial follows ((Bkj ..).trans hh)
 cases hh
end
end Gx

namespace Gx
open Go Go.Proofs
section
variable {R:Type}
theorem tk3 (x:RatD):List.take 3 x.av=x.av:=rfl
theorem b3 (x:RatD):Nat.ble 3 (List.length x.av)=true:=rfl
theorem c3 (x:RatD):((Nat.beq 0 0)&&((Nat.beq (List.length x.av) 3)&&(Nat.beq 3 3)))=true:=rfl
theorem c4 (x y:RatD):((Nat.beq (List.length x.av) 3)&&((Nat.ble 3 (List.length y.av))&&(!false)))=true:=rfl
theorem c4' (x:RatD):((Nat.beq (List.length x.av) 3)&&(true&&(!false)))=true:=rfl
theorem Cb0 (x y:RatD):setCells x.av 0 y.av=y.av:=rfl
section
variable {N:Nat} {X:Option R} {K:LA→Option R} {x y:RatD} {o o':Bool} {p q:Rat}
theorem Cc5 (hx:x.can p) (hy:y.can q) (hf:fit (8*(qm p+qm q)+40) N) (h:∀ d:RatD,d.can (p+q)→K d.av=X):A0s N x.av o y.av o' K=X:=by
  obtain ⟨d,hd,e⟩:=Bz9 (R:=R) (N:=N) (o:=o) (o':=o') hx.ok hy.ok (by rw [hx.m,hy.m];exact hf)
  rw [e];exact h d (by rw [hx.q,hy.q] at hd;exact hd)
theorem Cc6 (hx:x.can p) (hy:y.can q) (hf:fit (8*(qm p+qm q)+40) N) (h:∀ d:RatD,d.can (p - q)→K d.av=X):A0t N x.av o y.av o' K=X:=by
  obtain ⟨d,hd,e⟩:=B0a (R:=R) (N:=N) (o:=o) (o':=o') hx.ok hy.ok (by rw [hx.m,hy.m];exact hf)
  rw [e];exact h d (by rw [hx.q,hy.q] at hd;exact hd)
theorem Cc7 (hx:x.can p) (hy:y.can q) (hf:fit (8*(qm p+qm q)+40) N) (h:∀ d:RatD,d.can (p*q)→K d.av=X):Bja N x.av o y.av o' K=X:=by
  obtain ⟨d,hd,e⟩:=B9v (R:=R) (N:=N) (o:=o) (o':=o') hx.ok hy.ok (by rw [hx.m,hy.m];exact hf)
  rw [e];exact h d (by rw [hx.q,hy.q] at hd;exact hd)
theorem Cc8 (hx:x.can p) (hy:y.can q) (hf:fit (8*(qm p+qm q)+40) N) (h:∀ d:RatD,d.can (if p≤q then p else q)→K d.av=X):Bi7 N x.av o y.av o' K=X:=by
  obtain ⟨d,hd,e⟩:=B9w (R:=R) (N:=N) (o:=o) (o':=o') hx.ok hy.ok (by rw [hx.m,hy.m];exact hf)
  rw [e];exact h d (by rw [hx.q,hy.q] at hd;exact hd)
theorem Aa4 {v:Int} (hv:-9223372036854775808≤v∧v≤9223372036854775807) (hN:4≤N) (h:∀ d:RatD,d.can (v:Rat)→K d.av=X):Dt N v K=X:=by
  obtain ⟨d,hd,e⟩:=Bxp (R:=R) (N:=N) hv hN
  rw [e];exact h d hd
end
theorem Cb1 {q:Rat}:decide (q.num.sign≤0)=decide (q≤0):=by
  have e:q≤0↔q.num≤0:=by
    rw [Rat.le_iff_sub_nonneg,← Rat.num_nonneg,Rat.sub_eq_add_neg,Rat.zero_add,Rat.neg_num];omega
  rw [decide_eq_decide,e]
  rcases Int.lt_trichotomy q.num 0 with h | h | h
  · rw [Int.sign_eq_neg_one_of_neg h];omega
  · rw [h];simp
  · rw [Int.sign_eq_one_of_pos h];omega
theorem qi {v:Int} (h:-9223372036854775808≤v∧v≤9223372036854775807):qm (v:Rat)≤2:=Cc4 (by omega)
def Kg:Rat→List SegD→Rat
  | _,[]=>0
  | Xi,s::r=>if Xi≤0 then 0 else (s.price:Rat)*(if Xi≤(s.width:Rat) then Xi else (s.width:Rat))+Kg (Xi - (if Xi≤(s.width:Rat) then Xi else (s.width:Rat))) r
def sgR (l:List SegD):Prop:=∀ s ∈ l,-1048576≤s.width∧s.width≤1048576∧-1048576≤s.price∧s.price≤1048576
theorem Cbc {N:Nat} {X:Option R} {K:LA→Option R} {v:Int} {x:RatD} {q:Rat} {o:Bool} (hv:-9223372036854775808≤v∧v≤9223372036854775807) (hx:x.can q) (hf:fit (8*(2+qm q)+40) N) (h:∀ d:RatD,d.can ((v:Rat)*q)→K d.av=X):A1h N v x.av o K=X:=by
  rw [Be3];unfold Bj0 Bjz
  refine Aa4 hv (by have:=hf.1;omega) fun d hd=>?_
  simp only [tk3,b3,ct]
  refine Cc7 hd hx (hf.le (by have:=qi hv;omega)) fun d' hd'=>?_
  simp only [tk3,b3,c3,ct]
  exact h d' hd'
theorem Cb2 {N:Nat} {X:Option R} {K:LA→Option R} {l:List SegD} {d:Bool} {A:Nat} (hl:sgR l) (h8:l.length≤8) (hA:2≤A) (hf:fit (100*A+6000) N):∀ (m j fuel:Nat) (x y:RatD) (p q:Rat),j+m=l.length→m<fuel→x.can p→y.can q→qm p≤A+3*j→qm q≤2+j*(A+31) →
    (∀ d:RatD,d.can (q+Kg p (l.drop j))→K d.av=X)→E9 N K (l.flatMap SegD.av) l.length d fuel (l.length:Int) (j:Int) x.av y.av=X:=by
  intro m
  induction m with
  | zero =>
    intro j fuel x y p q hj hfu hx hy _ _ hX
    obtain ⟨fuel,rfl⟩:∃ k,fuel=k+1:=⟨fuel - 1,by omega⟩
    rw [E9];unfold Lj
    rw [ltF (by omega),cf]
    simp only [tk3,b3,c3,ct]
    rw [B4s (l:=l) (by omega)] at hX
    exact hX y (by rw [Kg,Rat.add_zero];exact hy)
  | succ m ih =>
    intro j fuel x y p q hj hfu hx hy hp hq hX
    obtain ⟨fuel,rfl⟩:∃ k,fuel=k+1:=⟨fuel - 1,by omega⟩
    rw [E9];unfold Lj
    have h:j<l.length:=by omega
    have hj8:j≤8:=by omega
    have hr:=hl l[j] (List.getElem_mem h)
    have hjA:j*(A+31)≤8*(A+31):=Nat.mul_le_mul_right _ hj8
    rw [ltT h,ct,Am h,ct,B2d h]
    have p0:List.take 2 ((AV.int .i64 l[j].width)::(AV.int .i64 l[j].price)::(l.drop (j+1)).flatMap SegD.av)=[(.int .i64 l[j].width),(.int .i64 l[j].price)]:=rfl
    rw [p0,show Nat.ble 2 (List.length ((AV.int .i64 l[j].width)::(AV.int .i64 l[j].price)::(l.drop (j+1)).flatMap SegD.av))=true by simp,ct]
    rw [show ((!d)||Bp [(AV.int .i64 l[j].width),(.int .i64 l[j].price)])=true by cases d<;>rfl,ct]
    rw [show ((Nat.beq (List.length [(AV.int .i64 l[j].width),(.int .i64 l[j].price)]) 2)&&((Nat.ble 2 2)&&(!false)))=true from rfl,ct]
    simp only [tk3,b3,c3,ct,B2e,Bfm]
    rw [Oo hx.ok (hf.le (by rw [hx.m];omega)),hx.q,Cb1]
    rw [B4r h,Kg] at hX
    by_cases hp0:p≤0
    · rw [decide_eq_true hp0,ct]
      rw [if_pos hp0,Rat.add_zero] at hX
      exact hX y hy
    · rw [decide_eq_false hp0,cf]
      rw [if_neg hp0] at hX
      refine Aa4 (by omega) (by have:=hf.1;omega) fun wd hwd=>?_
      have hqw:=qi (v:=l[j].width) (by omega)
      have hqp:=qi (v:=l[j].price) (by omega)
      refine Cc8 hx hwd (hf.le (by omega)) fun pd hpd=>?_
      simp only [tk3,b3,c3,ct]
      generalize hpart:(if p≤(l[j].width:Rat) then p else (l[j].width:Rat))=part at hpd hX
      have hqpart:qm part≤A+3*j:=by rw [← hpart];split<;>omega
      refine Cbc (by omega) hpd (hf.le (by omega)) fun td htd=>?_
      have hqt:qm ((l[j].price:Rat)*part)≤2+(A+3*j):=by have:=Bvc (l[j].price:Rat) part;omega
      refine Cc5 hy htd (hf.le (by omega)) fun ad had=>?_
      rw [c4',ct]
      refine Cc6 hx hpd (hf.le (by omega)) fun sd hsd=>?_
      rw [c4',ct,Cb0,Cb0]
      rw [wS (by omega)]
      have hqa:qm (q+(l[j].price:Rat)*part)≤2+(j+1)*(A+31):=by
        have:=Bkf q ((l[j].price:Rat)*part)
        rw [Nat.add_mul];omega
      have hqs:qm (p - part)≤A+3*(j+1):=by
        rw [← hpart]
        split
        · rw [Rat.sub_self]
          have:qm ((0:Int):Rat)≤2:=qi (by omega)
          have e:((0:Int):Rat)=0:=rfl
          rw [e] at this;omega
        · have:=Bca p (l[j].width:Rat);omega
      refine ih (j+1) fuel sd ad _ _ (by omega) (by omega) hsd had hqs hqa fun d hd=>hX d ?_
      rw [← Rat.add_assoc];exact hd
def RatD.is (x:RatD) (q:Rat) (m:Nat):Prop:=x.ok∧x.q=q∧x.m≤m
theorem RatD.can.is {x:RatD} {q:Rat} {m:Nat} (h:x.can q) (hm:qm q≤m):x.is q m:=⟨h.ok,h.q,by rw [h.m];exact hm⟩
def Bop:RatD:=⟨false,.nil,.nil⟩
theorem Amy {m:Nat}:Bop.is 0 m:=by
  refine ⟨⟨?_,?_⟩,?_,?_⟩
  · intro x hx;simp [Bop,LS.l] at hx
  · intro x hx;simp [Bop,LS.l] at hx
  · simp [Bop,RatD.q,LS.l,Aw,val]
  · simp [Bop,RatD.m,LS.l]
theorem RatD.is.qm {x:RatD} {q:Rat} {m:Nat} (h:x.is q m):qm q≤m+1:=by
  have:=Axk x h.1
  rw [h.2.1] at this;have:=h.2.2;omega
section
variable {N:Nat} {X:Option R} {K:LA→Option R} {K':Int→Option R} {x y:RatD} {o o':Bool} {p q:Rat} {m n:Nat}
theorem Cb3 (hx:x.is p m) (hy:y.is q n) (hf:fit (8*(m+n)+40) N) (h:∀ d:RatD,d.can (p - q)→K d.av=X):A0t N x.av o y.av o' K=X:=by
  obtain ⟨d,hd,e⟩:=B0a (R:=R) (N:=N) (o:=o) (o':=o') hx.1 hy.1 (hf.le (by have:=hx.2.2;have:=hy.2.2;omega))
  rw [e];exact h d (by rw [hx.2.1,hy.2.1] at hd;exact hd)
theorem Cb4 (hx:x.is p m) (hy:y.is q n) (hf:fit (4*(m+n)+10) N):Is N x.av o y.av o' K'=K' (Wu p q):=by
  rw [Ao7 hx.1 hy.1 (hf.le (by have:=hx.2.2;have:=hy.2.2;omega)),hx.2.1,hy.2.1]
theorem B7k (hx:x.is p m) (hy:y.is q n) (hf:fit (16*(m+n)+100) N):Ef N x.av o y.av o' K'=K' (Wu p q):=by
  rw [Bvf hx.1 hy.1 (hf.le (by have:=hx.2.2;have:=hy.2.2;omega)),hx.2.1,hy.2.1]
theorem Cc9 (hx:x.is p m) (hy:y.is q n) (hf:fit (16*(m+n)+100) N):Afp N x.av o y.av o' K=K (cqD (p - q)).av:=by
  rw [Bve hx.1 hy.1 (hf.le (by have:=hx.2.2;have:=hy.2.2;omega)),hx.2.1,hy.2.1];rfl
theorem Cda (hx:x.is p m) (hy:y.is q n) (hf:fit (16*(m+n)+80) N):Afo N x.av o y.av o' K=K (cqD (p+q)).av:=by
  rw [Bvd hx.1 hy.1 (hf.le (by have:=hx.2.2;have:=hy.2.2;omega)),hx.2.1,hy.2.1];rfl
theorem Cds (hx:x.is p m) (hy:y.is q n) (hf:fit (16*(m+n)+80) N):At6 N x.av o y.av o' K=K (cqD (p*q)).av:=by
  rw [B7h hx.1 hy.1 (hf.le (by have:=hx.2.2;have:=hy.2.2;omega)),hx.2.1,hy.2.1];rfl
theorem B0g {v:Int} (hv:-9223372036854775808≤v∧v≤9223372036854775807) (hN:4000≤N):E1 N v K=K (cqD (v:Rat)).av:=Bvg hv hN
end
theorem Adq {q:Rat} {m:Nat} (h:qm q≤m):(cqD q).is q m:=(Bpu q).is h
theorem qiI {v:Int} (h:-9223372036854775808≤v∧v≤9223372036854775807):(cqD (v:Rat)).is v 2:=Adq (qi h)
theorem B2m {p q:Rat}:decide (Wu p q≥0)=decide (q≤p):=by
  rw [decide_eq_decide];unfold Wu
  by_cases h:p<q
  · rw [if_pos h];simp [Rat.not_le.2 h]
  · rw [if_neg h];have:=Rat.not_lt.1 h;simp only [this,iff_true];split<;>omega
theorem Cbd {p q:Rat}:decide (Wu p q≤0)=decide (p≤q):=by rw [decide_eq_decide];exact B2i
def inQ (p:Rat) (lo hi:Int):Bool:=decide ((lo:Rat)≤p)&&decide (p≤(hi:Rat))
theorem Bnm {N:Nat} {K:Bool→Option R} {x:RatD} {p:Rat} {m:Nat} {o:Bool} {lo hi:Int} (hx:x.is p m) (h1:-9223372036854775808≤lo∧lo≤9223372036854775807) (h2:-9223372036854775808≤hi∧hi≤9223372036854775807) (hf:fit (4*(m+2)+10) N) (hN:4≤N):Ag9 N x.av o lo hi K=K (inQ p lo hi):=by
  rw [A7h];unfold Bbs Bbr
  rw [b3,ct,tk3]
  refine Aa4 h1 hN fun a ha=>?_
  rw [Cb4 hx (ha.is (qi h1)) hf,B2m]
  refine (congrArg (cond _ · _) (Aa4 (X:=K (decide (p≤(hi:Rat)))) h2 hN fun b hb=>?_)).trans ?_
  · rw [Cb4 hx (hb.is (qi h2)) hf,Cbd];rfl
  · unfold inQ;cases decide ((lo:Rat)≤p)<;>rfl
theorem B7l {N:Nat} {X:Option R} {K:LA→Option R} {u:UnitD} {x:RatD} {o o':Bool} {p:Rat} {m:Nat} (hx:x.is p m) (hl:sgR u.segs.l) (h8:u.segs.l.length≤8) (hu:-1048576≤u.min∧u.min≤1048576) (hf:fit (100*(m+8)+6000) N)
    (h:∀ d:RatD,d.can (Kg (p - (u.min:Rat)) u.segs.l)→K d.av=X):Og N u.av o x.av o' K=X:=by
  rw [Ajd];unfold Acw Acv
  rw [b3,ct,tk3,u2]
  refine Aa4 (by omega) (by have:=hf.1;omega) fun a ha=>?_
  refine Cb3 hx (ha.is (qi (by omega))) (hf.le (by omega)) fun r hr=>?_
  rw [c3,ct]
  refine Aa4 (by omega) (by have:=hf.1;omega) fun z hz=>?_
  rw [c3,ct,u4]
  have hq:qm (p - (u.min:Rat))≤m+4:=by have:=Bca p (u.min:Rat);have:=hx.qm;have:=qi (v:=u.min) (by omega);omega
  refine Cb2 (A:=m+4) hl h8 (by omega) (hf.le (by omega)) u.segs.l.length 0 N r z (p - (u.min:Rat)) ((0:Int):Rat) (by omega) (by have:=hf.1;omega) hr hz (by omega) (by have:=qi (v:=0) (by omega);omega) fun d hd=>?_
  exact h d (by rw [List.drop_zero,show (((0:Int):Rat))=0 from rfl,Rat.zero_add] at hd;exact hd)
end
end Gx

namespace Gx
open Go Go.Proofs
section
variable {R:Type}
theorem A5b {u:UnitD} {h:Int} (hv:Fo u h=true):(0≤u.min∧u.min≤1048576)∧(0≤u.max∧u.max≤1048576)∧u.min≤u.max:=by
  simp only [Fo,Bool.and_eq_true,inR,decide_eq_true_eq] at hv
  exact ⟨hv.2.2.1,hv.2.2.2.1,hv.2.2.2.2.2.2.2.1⟩
theorem Ln {u:UnitD} {h:Int} (hv:Fo u h=true):u.segs.l.length≤8∧segOk (-1048576) u.segs.l=true∧Ao4 u.segs.l=u.max - u.min:=by
  simp only [Fo,Bool.and_eq_true] at hv
  have:=hv.2.2.2.2.2.2.2.2.2.2.2.2.2.2.2.1
  simpa [Bu0] using this
theorem B2n:∀ {l:List SegD} {p:Int},segOk p l=true→(∀ s ∈ l,1≤s.width∧s.width≤1048576∧-1048576≤s.price∧s.price≤1048576)
  | [],_,_,_,hs=>by simp at hs
  | a::r,p,h,s,hs=>by
    simp only [segOk,Bool.and_eq_true,inR,decide_eq_true_eq] at h
    rcases List.mem_cons.1 hs with rfl | hs
    · omega
    · exact B2n h.2.2.2 s hs
theorem Bkk {u:UnitD} {h:Int} (hv:Fo u h=true):sgR u.segs.l:=fun s hs=>by
  have:=B2n (Ln hv).2.1 s hs;omega
def scE (u:UnitD) (p:Rat):Int:=cond (Fo u 24) (cond (inQ p u.min u.max) 0 3) 1
def scQ (u:UnitD) (p:Rat):Rat:=cond (Fo u 24&&inQ p u.min u.max) (Kg (p - (u.min:Rat)) u.segs.l) 0
theorem B5b {A:Nat}:∀ (l:List SegD) (p:Rat),sgR l→2≤A→qm p≤A→qm (Kg p l)≤2+l.length*(A+3*l.length+31)
  | [],p,_,_,_=>by
    have:qm (0:Rat)≤2:=qi (v:=0) (by omega)
    rw [Kg];simpa using this
  | s::r,p,hs,hA,hp=>by
    have hr:=hs s (by simp)
    have hqw:=qi (v:=s.width) (by omega)
    have hqp:=qi (v:=s.price) (by omega)
    have h0:qm (0:Rat)≤2:=qi (v:=0) (by omega)
    rw [Kg]
    split
    · omega
    · generalize hpart:(if p≤(s.width:Rat) then p else (s.width:Rat))=part
      have hqpart:qm part≤A:=by rw [← hpart];split<;>omega
      have hsub:qm (p - part)≤A+3:=by
        rw [← hpart];split
        · rw [Rat.sub_self];omega
        · have:=Bca p (s.width:Rat);omega
      have h1:=B5b (A:=A+3) r (p - part) (fun s hs'=>hs s (by simp [hs'])) (by omega) hsub
      have h2:=Bvc (s.price:Rat) part
      have h3:=Bkf ((s.price:Rat)*part) (Kg (p - part) r)
      rw [List.length_cons]
      have:A+3+3*r.length+31=A+3*(r.length+1)+31:=by omega
      rw [this] at h1
      rw [Nat.add_mul];omega
theorem Cdb {u:UnitD} {p:Rat} {m:Nat} (hp:qm p≤m+1):qm (scQ u p)≤8*m+800:=by
  have h0:qm (0:Rat)≤2:=qi (v:=0) (by omega)
  unfold scQ
  cases hv:Fo u 24 with
  | false=>simp only [Bool.false_and,cond_false];omega
  | true =>
    cases inQ p u.min u.max with
    | false=>simp only [Bool.and_false,cond_false];omega
    | true =>
      simp only [Bool.and_self,cond_true]
      have h1:=A5b hv
      have h2:=Ln hv
      have hq:qm (p - (u.min:Rat))≤m+4:=by have:=Bca p (u.min:Rat);have:=qi (v:=u.min) (by omega);omega
      have:=B5b (A:=m+4) u.segs.l _ (Bkk hv) (by omega) hq
      have h3:u.segs.l.length*(m+4+3*u.segs.l.length+31)≤8*(m+4+24+31):=Nat.mul_le_mul h2.1 (by omega)
      omega
theorem Wv {N:Nat} {X:Option R} {K:LA→Int→Option R} {u:UnitD} {x:RatD} {o o':Bool} {p:Rat} {m:Nat} (hx:x.is p m) (ha:u.away.l.length≤1000) (hf:fit (200*(m+8)+12000) N) (hN:4000≤N)
    (h:∀ d:RatD,d.is (scQ u p) (8*m+800)→K d.av (scE u p)=X):E2 N u.av o x.av o' K=X:=by
  rw [Aje];unfold Acy Acx
  simp only [Amu,Ws,ct,b3,tk3,u2,u3]
  rw [Ao5 (by omega) (by omega) (by omega)]
  unfold scE at h
  cases hv:Fo u 24 with
  | false =>
    rw [hv] at h
    exact h Bop (by unfold scQ;rw [hv];exact Amy)
  | true =>
    have h1:=A5b hv
    have h2:=Ln hv
    rw [hv] at h
    rw [show (!true)=false from rfl,cf,Bnm hx (by omega) (by omega) (hf.le (by omega)) (by omega)]
    cases hi:inQ p u.min u.max with
    | false =>
      rw [hi] at h
      exact h Bop (by unfold scQ;rw [hv,hi];exact Amy)
    | true =>
      rw [hi] at h
      rw [show (!true)=false from rfl,cf]
      refine B7l hx (Bkk hv) h2.1 (by omega) (hf.le (by omega)) fun d hd=>?_
      rw [c3,ct,tk3,b3,ct]
      have e:scQ u p=Kg (p - (u.min:Rat)) u.segs.l:=by unfold scQ;rw [hv,hi];rfl
      exact h d ((e▸hd:d.can (scQ u p)).is (Cdb hx.qm))
end
end Gx

namespace Gx
open Go Go.Proofs
section
variable {R:Type}
def Bxr (p:Rat):Int→Bool→Rat→List SegD→Bool×Rat
  | _,b,q,[]=>(b,q)
  | a,b,q,s::r=>cond (decide (Wu p (a:Rat)>0)&&decide (Wu p ((a+s.width:Int):Rat)≤0)) (Bxr p (a+s.width) true (s.price:Rat) r) (Bxr p (a+s.width) b q r)
def Boq (p:Rat):Int→Bool→Rat→List SegD→Bool×Rat
  | _,b,q,[]=>(b,q)
  | a,b,q,s::r=>cond (decide (Wu p (a:Rat)≥0)&&decide (Wu p ((a+s.width:Int):Rat)<0)) (Boq p (a+s.width) true (s.price:Rat) r) (Boq p (a+s.width) b q r)
theorem Cb5 {N:Nat} {X:Option R} {K:LA→LA→Bool→Bool→Option R} {l:List SegD} {d:Bool} {x:RatD} {o:Bool} {p:Rat} {m:Nat} (hx:x.is p m) (hl:sgR l) (h8:l.length≤8) (hf:fit (4*(m+2)+10) N) (hN:4000≤N):∀ (k j fuel:Nat) (a:Int) (bl bh:Bool) (ql qh:Rat) (xl xh:RatD),j+k=l.length→k<fuel→(-1048576*((j:Int)+1)≤a∧a≤1048576*((j:Int)+1))→xl.is ql 2→xh.is qh 2 →
    (∀ (y z:RatD),y.is (Bxr p a bl ql (l.drop j)).2 2→z.is (Boq p a bh qh (l.drop j)).2 2→K y.av z.av (Bxr p a bl ql (l.drop j)).1 (Boq p a bh qh (l.drop j)).1=X) →
    D4 N K (l.flatMap SegD.av) l.length d o x.av fuel bl bh a (l.length:Int) (j:Int) xl.av xh.av=X:=by
  intro k
  induction k with
  | zero =>
    intro j fuel a bl bh ql qh xl xh hj hfu ha hl' hh' hX
    obtain ⟨fuel,rfl⟩:∃ k,fuel=k+1:=⟨fuel - 1,by omega⟩
    rw [D4];unfold Sj
    rw [ltF (by omega),cf]
    rw [B4s (l:=l) (by omega)] at hX
    exact hX xl xh hl' hh'
  | succ k ih =>
    intro j fuel a bl bh ql qh xl xh hj hfu ha hl' hh' hX
    obtain ⟨fuel,rfl⟩:∃ k,fuel=k+1:=⟨fuel - 1,by omega⟩
    rw [D4];unfold Sj
    have h:j<l.length:=by omega
    have hr:=hl l[j] (List.getElem_mem h)
    rw [ltT h,ct,Am h,ct,B2d h]
    have p0:List.take 2 ((AV.int .i64 l[j].width)::(AV.int .i64 l[j].price)::(l.drop (j+1)).flatMap SegD.av)=[(.int .i64 l[j].width),(.int .i64 l[j].price)]:=rfl
    rw [p0,show Nat.ble 2 (List.length ((AV.int .i64 l[j].width)::(AV.int .i64 l[j].price)::(l.drop (j+1)).flatMap SegD.av))=true by simp,ct]
    rw [show ((!d)||Bp [(AV.int .i64 l[j].width),(.int .i64 l[j].price)])=true by cases d<;>rfl,ct]
    rw [show ((Nat.beq (List.length [(AV.int .i64 l[j].width),(.int .i64 l[j].price)]) 2)&&((Nat.ble 2 2)&&(!false)))=true from rfl,ct]
    simp only [tk3,b3,ct,B2e,Bfm]
    have e1:IntKind.wrap .i64 (a+l[j].width)=a+l[j].width:=i64 (by omega)
    rw [e1]
    refine Aa4 (by omega) (by omega) fun f1 hf1=>?_
    rw [Cb4 hx (hf1.is (qi (by omega))) hf]
    refine Aa4 (by omega) (by omega) fun f2 hf2=>?_
    rw [Cb4 hx (hf2.is (qi (by omega))) hf]
    rw [B4r h] at hX
    simp only [Bxr,Boq] at hX
    generalize hA:Wu p (a:Rat)=A at hX ⊢
    generalize hB:Wu p ((a+l[j].width:Int):Rat)=B at hX ⊢
    have second : ∀ (bl' : Bool) (ql' : Rat) (xl' : RatD), xl'.is ql' 2 →
        (∀ (y z:RatD),y.is (Bxr p (a+l[j].width) bl' ql' (l.drop (j+1))).2 2→z.is (cond (decide (A≥0)&&decide (B<0)) (Boq p (a+l[j].width) true (l[j].price:Rat) (l.drop (j+1))) (Boq p (a+l[j].width) bh qh (l.drop (j+1)))).2 2→K y.av z.av (Bxr p (a+l[j].width) bl' ql' (l.drop (j+1))).1 (cond (decide (A≥0)&&decide (B<0)) (Boq p (a+l[j].width) true (l[j].price:Rat) (l.drop (j+1))) (Boq p (a+l[j].width) bh qh (l.drop (j+1)))).1=X) →
        Oh N (D4 N K (l.flatMap SegD.av) l.length d o x.av fuel) K bh A B (l.flatMap SegD.av) l.length d (l.length:Int) (j:Int) o x.av xh.av bl' (a+l[j].width) xl'.av (setCells [(.int .i64 0),(.int .i64 0)] 0 [(.int .i64 l[j].width),(.int .i64 l[j].price)])=X:=by
      intro bl' ql' xl' hxl' hX'
      unfold Oh Acz
      rw [Bfm,wS (by omega)]
      cases hc:(decide (A≥0)&&decide (B<0)) with
      | true =>
        rw [hc] at hX'
        simp only [Bool.and_eq_true] at hc
        rw [hc.1,hc.2]
        refine Aa4 (by omega) (by omega) fun f3 hf3=>?_
        rw [c4,ct,Cb0]
        exact ih (j+1) fuel _ _ _ _ _ _ _ (by omega) (by omega) (by omega) hxl' (hf3.is (qi (by omega))) hX'
      | false =>
        rw [hc] at hX'
        have go:=ih (j+1) fuel (a+l[j].width) bl' bh ql' qh xl' xh (by omega) (by omega) (by omega) hxl' hh' hX'
        rw [go]
        cases h1:decide (A≥0) with
        | false=>rfl
        | true =>
          rw [h1,Bool.true_and] at hc
          rw [hc];rfl
    cases hc:(decide (A>0)&&decide (B≤0)) with
    | true =>
      rw [hc] at hX
      simp only [Bool.and_eq_true] at hc
      rw [hc.1,hc.2]
      refine Aa4 (by omega) (by omega) fun f3 hf3=>?_
      rw [c4',ct,Cb0]
      exact second true _ f3 (hf3.is (qi (by omega))) hX
    | false =>
      rw [hc] at hX
      rw [second bl ql xl hl' hX]
      cases h1:decide (A>0) with
      | false=>rfl
      | true =>
        rw [h1,Bool.true_and] at hc
        rw [hc];rfl
def mgB (u:UnitD) (p:Rat):Bool:=Fo u 24&&inQ p u.min u.max
def mgL (u:UnitD) (p:Rat):Bool×Rat:=cond (mgB u p) (Bxr p u.min false 0 u.segs.l) (false,0)
def mgH (u:UnitD) (p:Rat):Bool×Rat:=cond (mgB u p) (Boq p u.min false 0 u.segs.l) (false,0)
theorem Bnn {N:Nat} {X:Option R} {K:LA→LA→Bool→Bool→Option R} {u:UnitD} {x:RatD} {o o':Bool} {p:Rat} {m:Nat} (hx:x.is p m) (ha:u.away.l.length≤1000) (hf:fit (200*(m+8)+12000) N) (hN:4000≤N)
    (h:∀ y z:RatD,y.is (mgL u p).2 2→z.is (mgH u p).2 2→K y.av z.av (mgL u p).1 (mgH u p).1=X):Uf N u.av o x.av o' K=X:=by
  rw [Axb];unfold Aul Auk
  simp only [Amu,Ws,ct,b3,tk3,u2,u3]
  rw [Ao5 (by omega) (by omega) (by omega)]
  unfold mgL mgH mgB at h
  cases hv:Fo u 24 with
  | false =>
    rw [hv] at h
    exact h Bop Bop Amy Amy
  | true =>
    have h1:=A5b hv
    have h2:=Ln hv
    rw [hv,Bool.true_and] at h
    rw [show ((!true)==false)=true from rfl,ct,Bnm hx (by omega) (by omega) (hf.le (by omega)) (by omega)]
    cases hi:inQ p u.min u.max with
    | false =>
      rw [hi] at h
      exact h Bop Bop Amy Amy
    | true =>
      rw [hi] at h
      rw [show (cond false true (!true))=false from rfl,cf]
      unfold Ajf Ac0
      rw [u2,u4]
      exact Cb5 hx (Bkk hv) h2.1 (hf.le (by omega)) hN u.segs.l.length 0 N u.min false false 0 0 Bop Bop (by omega) (by omega) (by omega) Amy Amy h
end
end Gx

namespace Gx
open Go Go.Proofs
set_option maxRecDepth 100000
section
variable {R:Type}
def exU:UnitD:={ name:=[],bus:=0,min:=10,max:=40,segs:=.of [⟨20,3⟩,⟨10,5⟩] false false,noLoad:=0,rampUp:=5,rampDown:=10,startRamp:=15,stopRamp:=15,upTime:=0,downTime:=0,startTime:=0,hotCost:=0,coldCost:=0,hotHours:=0,reserve:=0,reservePrice:=0,away:=.nil,state:=2,hours:=1,output:=12 }
theorem Cb6 {N:Nat} {K:LA→Option R}:Rm N K=K exU.av:=by rw [Al7];rfl
def s21:List AV:=[.int .i64 2,.int .i64 1]
def s01:List AV:=[.int .i64 0,.int .i64 1]
def Cbe:List AV:=[.int .i64 2,.int .i64 2,.int .i64 0]
theorem Cb7 {n:Nat} {o:Bool} {K:LA→Option R}:Be8 (n+64) exU.av o K=K []:=by rw [Bm5];kernel_rfl
theorem Bfv {n:Nat} {o:Bool} {K:Bool→Option R}:Ro (n+64) exU.av o K=K true:=by
  rw [A7q (by omega)];rfl
theorem B2o {n:Nat} {o:Bool} {K:Int→Int→Option R}:Auo (n+64) exU.av o K=K 1 1:=by
  rw [Bm6];unfold Bua Bt9
  rw [Amu,ct,Ws,Bfv];kernel_rfl
theorem Cb8 {n:Nat} {o:Bool} {K:LA→Option R}:Ajj (n+64) exU.av o K=K s21:=by
  rw [A1t];unfold A1s A1r
  simp only [Amu,ct,Ws,Bfv,B2o];kernel_rfl
theorem Cdc {n:Nat} {o o':Bool} {K:Int→Option R}:Abz (n+64) exU.av o s21 o' K=K 1:=by
  rw [Axe];unfold Aus Aur Ajk Ac1
  simp only [Amu,ct,Ws,Bfv,B2o];kernel_rfl
theorem B2p {n:Nat} {o:Bool} {K:LA→Nat→Option R}:Amp (n+64) exU.av o s21 false K=K (s01++s21) 2:=by
  rw [Bm8];unfold Buf Bue
  rw [show List.take 2 s21=s21 from rfl]
  simp only [Amu,ct,Ws,Cdc,B2o];kernel_rfl
theorem Cbf {N:Nat} {k h v:Int} {o:Bool} {K:Bool→Option R}:Oi N [.int .i64 k,.int .i64 h] o v K=K (k==v):=by
  rw [A13];rfl
theorem B8s {n:Nat} {a:Bool} {K:Int→Option R}:Aq (n+64) (s01++s21) 2 a false 2 K=K 1:=by
  rw [Bt]
  change Oi _ s01 _ _ _=_
  rw [s01,Cbf]
  change Oi _ s21 _ _ _=_
  rw [s21,Cbf];rfl
theorem Cb9 {n:Nat} {a:Bool} {K:Int→Option R}:Aq (n+64) (s01++s21) 2 a false 0 K=K 0:=by
  rw [Bt]
  change Oi _ s01 _ _ _=_
  rw [s01,Cbf];rfl
theorem Cca {n:Nat} {o a b:Bool} {K:Nat→Int→Int→LA→Option R}:Bfc (n+64) exU.av o Cbe 3 a b K=K 3 3 0 (s21++s21++s01):=by
  rw [Bnc];unfold Bul Buk
  simp only [Amu,ct,Ws,Bfv,Cb7,Cb8]
  change Amp _ exU.av _ s21 _ _=_
  rw [B2p]
  change Aq _ (s01++s21) 2 _ _ _ _=_
  rw [B8s]
  change Amp _ exU.av _ s21 _ _=_
  rw [B2p]
  change Aq _ (s01++s21) 2 _ _ _ _=_
  rw [B8s]
  change Amp _ exU.av _ s21 _ _=_
  rw [B2p]
  change Aq _ (s01++s21) 2 _ _ _ _=_
  rw [Cb9]
  kernel_rfl
theorem Cdd {n:Nat} {o a b:Bool} {K:Nat→LA→Option R}:Ajo (n+64) exU.av o 3 Cbe 3 a b K=K 3 [.int .i64 10,.int .i64 17,.int .i64 10,.int .i64 22,.int .i64 0,.int .i64 0]:=by
  rw [A16];kernel_rfl
theorem Cde {n:Nat} {o a b:Bool} {K:LA→Option R}:Ab0 (n+64) exU.av o 3 Cbe 3 a b [.int .i64 10,.int .i64 17,.int .i64 10,.int .i64 22,.int .i64 0,.int .i64 0] K=K [.int .i64 10,.int .i64 17,.int .i64 10,.int .i64 15,.int .i64 0,.int .i64 0]:=by
  rw [Axg];kernel_rfl
theorem Cdf {n:Nat} {o a b:Bool} {K:Nat→Int→LA→Option R}:Ab1 (n+64) exU.av o 3 Cbe 3 a b K=K 3 0 [.int .i64 10,.int .i64 17,.int .i64 10,.int .i64 15,.int .i64 0,.int .i64 0]:=by
  rw [Axi];unfold Auz Auy
  rw [Amu,ct,Ws,Ao5 (by omega) (by decide) (by simp [exU,Sl.l]),show Fo exU 3=true from rfl]
  rw [Cca]
  unfold Ajs Ac2
  rw [Amu,ct,Ws,Cdd,Cde]
  kernel_rfl
theorem Bvj (q:Rat):Wu q q=0:=by
  unfold Wu
  rw [if_neg (Rat.lt_irrefl),if_neg (Rat.lt_irrefl)]
theorem B7m {N:Nat} {K:Bool→Option R} (hf:fit 100000 N):Ab2 N K=K true:=by
  have hN:4000≤N:=by have:=hf.1;omega
  obtain ⟨n,rfl⟩:∃ n,N=n+64:=⟨N - 64,by omega⟩
  rw [Axj];unfold Au1 Au0
  rw [Cb6,show ((Nat.beq 0 0)&&((Nat.beq (List.length exU.av) 22)&&(Nat.beq 22 22)))=true from rfl,ct,Amu,ct,Ws,B0g (by omega) hN]
  refine Wv (m:=2) (qiI (by omega)) (by decide) (hf.le (by omega)) hN fun d hd=>?_
  rw [show scE exU ((35:Int):Rat)=0 by kernel_rfl]
  rw [show scQ exU ((35:Int):Rat)=((85:Int):Rat) by kernel_rfl] at hd
  rw [c3,ct,ct,B0g (by omega) hN]
  refine Bnn (m:=2) (qiI (by omega)) (by decide) (hf.le (by omega)) hN fun y z hy hz=>?_
  rw [show mgL exU ((30:Int):Rat)=(true,((3:Int):Rat)) by kernel_rfl] at hy ⊢
  rw [show mgH exU ((30:Int):Rat)=(true,((5:Int):Rat)) by kernel_rfl] at hz ⊢
  rw [c3,ct,c3,ct,ct]
  rw [show [(AV.int .i64 2),(.int .i64 2),(.int .i64 0)]=Cbe from rfl,Cdf,b3,ct,tk3,B0g (by omega) hN,B7k hd (qiI (by omega)) (hf.le (by omega)),Bvj]
  rw [b3,tk3,B0g (by omega) hN,B7k hy (qiI (by omega)) (hf.le (by omega)),Bvj]
  rw [b3,tk3,B0g (by omega) hN,B7k hz (qiI (by omega)) (hf.le (by omega)),Bvj]
  rfl
end
end Gx

namespace Gx
open Go Go.Proofs
set_option maxRecDepth 100000
noncomputable section
variable {R:Type}
def A7t (N:Nat) (r0:Int→Int→Option R)  (f:Int) (b:LA) (a:Nat) (c d:Bool) (e:Int):Option R :=
 (cond (decide (e≥((a:Nat):Int))) (r0 0 e) (cond (Ak (IntKind.wrap .i64 ((IntKind.wrap .i64 (e+(1:Int))) - (1:Int))) a) (rdI .i64 (List.drop ((Int.toNat (IntKind.wrap .i64 ((IntKind.wrap .i64 (e+(1:Int))) - (1:Int))))*1) b) fun i=>(B2l N i f (fun j=>(r0 j (IntKind.wrap .i64 (e+(1:Int))))))) none))
def A7u (N:Nat) (f:Int) (b:LA) (a:Nat) (c d:Bool) (e:Int) (r0:Int→Int→Option R):Option R:=(A7t N r0 f b a c d e)
def Ag:=(Aj (@A7u R)).1
theorem Bkl:@Ag R=@A7u R:=(Aj _).2
def Axl:Hints:={ H:=(hS (hR [0,1]) (hS (hS (hR [0,1,14]) (hN [0,1] (hS (hR [4]) hL) hL)) (hS (hR [0,1]) (hS (hR [4]) hL)))),nils:=[],modes:=[],free:=[],cob:=[] }
def Ajw (N:Nat):List (Nat×Tw):=[(150,B0f N)]
def Ac4 (b:LA) (a:Nat) (c d:Bool) (F:KF R):Int→Int→Option R:=(fun l m=>F (.int .i64 l) [(100000,⟨false,false,false,false,0,[(.imm b a 1 c d),(.int .i64 m)],false⟩)])
theorem Ac5 (N:Nat) (f:Int) (b:LA) (a:Nat) (c d:Bool) (e:Int) (F:KF R):Ac Tryz.prog muts (Ajw N) Axl N 106 [(.optr 100000 0),(.int .i64 f)] [(100000,⟨false,false,false,false,0,[(.imm b a 1 c d),(.int .i64 e)],false⟩)] F=(Ag N f b a c d e (Ac4 b a c d F)):=by
 have hK:Ac Tryz.prog muts (Ajw N) Axl N 106 [(.optr 100000 0),(.int .i64 f)] [(100000,⟨false,false,false,false,0,[(.imm b a 1 c d),(.int .i64 e)],false⟩)] F=(A7t N (Ac4 b a c d F) f b a c d e):=by kernel_rfl
 rw [Bkl]
 exact hK
def Pz (N:Nat) (args:List AV) (h:Al) (k:KF R):Option R :=
 match args,h with
 | [(.optr 100000 0),(.int .i64 f)],[(100000,⟨false,false,false,false,0,[(.imm b a 1 c d),(.int .i64 e)],false⟩)]=>(Ag N f b a c d e (Ac4 b a c d k))
 | _,_=>none
def Fp (N:Nat):Tw:=⟨Pz N,fun args h k=>by
 unfold Pz;split
 exact twE (Ac5 ..) (Ac5 ..)
 rfl⟩
theorem H2 (N:Nat):A0 Tryz.prog 106 (Fp N):=fun args h res g hh=>by
 change Pz N args h (fun v g=>some (v,g))=_ at hh
 unfold Pz at hh;split at hh
 exact Aa (T:=Ajw N) ⟨B90 N,trivial⟩ follows ((Ac5 ..).trans hh)
 cases hh
def Amz (N:Nat)  (r0:Nat→Int→LA→Option R) (e f:Int) (a:LA) (b:Nat) (c d:Bool) (k0:Nat→Int→Int→LA→Option R)  (g:Nat) (i j:Int) (l:LA):Option R :=
 (cond (decide (i<e)) (Ag N f a b c d j (fun p q=>(cond ((Nat.ble (g+1) 140737488355328)&&(Nat.ble ((g+1)*8) 140737488355328)) (k0 (g+1) (IntKind.wrap .i64 (i+(1:Int))) q ((List.take (g*1) l)++[(.int .i64 p)])) none))) (r0 g j l))
def Zd (N:Nat)  (r0:Nat→Int→LA→Option R) (e f:Int) (a:LA) (b:Nat) (c d:Bool):Nat→Nat→Int→Int→LA→Option R
 | 0,_,_,_,_=>none
 | n+1,g,i,j,l=>(Amz N r0 e f a b c d (Zd N r0 e f a b c d n) g i j l)
def A2p (N:Nat) (r0:Nat→Int→LA→Option R) (q0:Nat→Int→Int→LA→Option R) (e f:Int) (a:LA) (b:Nat) (c d:Bool) (m:Int):Option R :=
 (q0 0 0 m [])
def A2q (N:Nat) (e f:Int) (a:LA) (b:Nat) (c d:Bool) (m:Int) (r0:Nat→Int→LA→Option R):Option R:=(A2p N r0 (fun g i j l=>(Zd N r0 e f a b c d N g i j l)) e f a b c d m)
def Gg:=(Aj (@A2q R)).1
theorem Bfw:@Gg R=@A2q R:=(Aj _).2
def P0:Hints:={ H:=(hS (hR [0,1,2]) (hS (hR [0,1,2,7]) (hS (hS (hR [0,1,2,7,8]) (hN [7] (hN [0,1,2,7,8] (hS (hS (hR [0,1,2,7,8,11]) (hN [0,1,2,7,8] hL hL)) (hS (hN [0,1,2,7,8] (hR [0,1,2,7,8]) hL) (hR [0,1,2,7,8]))) hL) hL)) (hS (hR [6]) hL)))),nils:=[(6,1),(7,1)],modes:=[(2,1)],free:=[],cob:=[] }
def Ss (N:Nat):List (Nat×Tw):=[(106,Fp N)]
def Sw (N:Nat):Env:=mkE 21 P0 (Ss N)
def Bfx (N:Nat) (F:KF R):=Ar (Sw N) Tryz.f107 P0.modes [100000] F
def Aqr (N:Nat) (F:KF R):=atF (Sw N) [100000] N Tryz.f107 P0 (Bfx N F)
def Kh (a:LA) (b:Nat) (c d:Bool) (F:KF R):Nat→Int→LA→Option R:=(fun r t u=>F (.own 300000 0 r) [(100000,⟨false,false,false,false,0,[(.imm a b 1 c d),(.int .i64 t)],false⟩),(300000,⟨false,false,true,false,1,u,false⟩)])
def Gs (e f:Int) (a:LA) (b:Nat) (c d:Bool) (g:Nat) (i j:Int) (l:LA):St:={ s:=[(0,(.optr 100000 0)),(1,(.int .i64 e)),(2,(.int .i64 f)),(7,(.own 300000 0 g)),(8,(.int .i64 i))],h:=[(100000,⟨false,false,false,false,0,[(.imm a b 1 c d),(.int .i64 j)],false⟩),(300000,⟨false,false,true,false,1,l,false⟩)] }
def Aqs (N:Nat) (F:KF R):St→Option R:=A4 (Sw N) [100000] N (Aqr N F [1,1,0,1,0] []) N
def P3 (N:Nat) (F:KF R) (n:Nat):St→Option R:=Av (Sw N) [100000] N (Aqr N F [1,1,0,1,0] []) n
theorem A5t (N:Nat)  (F:KF R) (e f:Int) (a:LA) (b:Nat) (c d:Bool):∀ (n g:Nat) (i j:Int) (l:LA),P3 N F n (Gs e f a b c d g i j l)=(Zd N (Kh a b c d F) e f a b c d n g i j l):=by
 intro n
 induction n with
 | zero=>intros;kernel_rfl
 | succ n ih =>
  intro g i j l
  have e0:=funext fun g=>funext fun i=>funext fun j=>funext fun l=>(show P3 N F n (Gs e f a b c d g i j l)=_ from ih g i j l)
  have hK:P3 N F (n+1) (Gs e f a b c d g i j l)=(Amz N (Kh a b c d F) e f a b c d (fun g i j l=>P3 N F n (Gs e f a b c d g i j l)) g i j l):=by kernel_rfl
  exact hK.trans (by rw [e0];rfl)
theorem Ze (N:Nat) (e f:Int) (a:LA) (b:Nat) (c d:Bool) (m:Int) (F:KF R):Ac Tryz.prog muts (Ss N) P0 N 107 [(.optr 100000 0),(.int .i64 e),(.int .i64 f)] [(100000,⟨false,false,false,false,0,[(.imm a b 1 c d),(.int .i64 m)],false⟩)] F=(Gg N e f a b c d m (Kh a b c d F)):=by
 have e1:=funext fun g=>funext fun i=>funext fun j=>funext fun l=>(show Aqs N F (Gs e f a b c d g i j l)=_ from (An ..).trans (A5t N F e f a b c d N g i j l))
 have hK:Ac Tryz.prog muts (Ss N) P0 N 107 [(.optr 100000 0),(.int .i64 e),(.int .i64 f)] [(100000,⟨false,false,false,false,0,[(.imm a b 1 c d),(.int .i64 m)],false⟩)] F=(A2p N (Kh a b c d F) (fun g i j l=>Aqs N F (Gs e f a b c d g i j l)) e f a b c d m):=by kernel_rfl
 rw [Bfw]
 exact hK.trans (by rw [e1];rfl)
def Nr (N:Nat) (args:List AV) (h:Al) (k:KF R):Option R :=
 match args,h with
 | [(.optr 100000 0),(.int .i64 e),(.int .i64 f)],[(100000,⟨false,false,false,false,0,[(.imm a b 1 c d),(.int .i64 m)],false⟩)]=>(Gg N e f a b c d m (Kh a b c d k))
 | _,_=>none
def Aqt (N:Nat):Tw:=⟨Nr N,fun args h k=>by
 unfold Nr;split
 exact twE (Ze ..) (Ze ..)
 rfl⟩
theorem Bkm (N:Nat):A0 Tryz.prog 107 (Aqt N):=fun args h res o hh=>by
 change Nr N args h (fun v o=>some (v,o))=_ at hh
 unfold Nr at hh;split at hh
 exact Aa (T:=Ss N) ⟨H2 N,trivial⟩ follows ((Ze ..).trans hh)
 cases hh
def B5c (N:Nat) (r0:List UInt8→Option R)  (b:List UInt8) (a:Int):Option R :=
 (cond ((decide ((0:Int)≤(Int.tmod a (16:Int))))&&((decide ((Int.tmod a (16:Int))≤(IntKind.wrap .i64 ((Int.tmod a (16:Int))+(1:Int)))))&&((decide ((IntKind.wrap .i64 ((Int.tmod a (16:Int))+(1:Int)))≤(16:Int)))&&(decide ((16:Int)≤(16:Int)))))) (cond (Nat.ble ((List.length b)+(List.length (List.take ((Int.toNat (IntKind.wrap .i64 ((Int.tmod a (16:Int))+(1:Int)))) - (Int.toNat (Int.tmod a (16:Int)))) (List.drop (Int.toNat (Int.tmod a (16:Int))) ([48,49,50,51,52,53,54,55,56,57,97,98,99,100,101,102]:List UInt8))))) 140737488355328) (r0 (b++(List.take ((Int.toNat (IntKind.wrap .i64 ((Int.tmod a (16:Int))+(1:Int)))) - (Int.toNat (Int.tmod a (16:Int)))) (List.drop (Int.toNat (Int.tmod a (16:Int))) ([48,49,50,51,52,53,54,55,56,57,97,98,99,100,101,102]:List UInt8))))) none) none)
def B5d (N:Nat) (b:List UInt8) (a:Int) (r0:List UInt8→Option R):Option R:=(B5c N r0 b a)
def Ave:=(Aj (@B5d R)).1
theorem B5e:@Ave R=@B5d R:=(Aj _).2
def Bvk:Hints:={ H:=(hS (hR [0,1]) (hS (hR [4]) hL)),nils:=[],modes:=[],free:=[],cob:=[] }
def Bkn (N:Nat):List (Nat×Tw):=[]
def Bcb  (F:KF R):List UInt8→Option R:=(fun d=>F (.str d) [])
theorem Bcc (N:Nat) (b:List UInt8) (a:Int) (F:KF R):Ac Tryz.prog muts (Bkn N) Bvk N 108 [(.str b),(.int .i64 a)] [] F=(Ave N b a (Bcb F)):=by
 have hK:Ac Tryz.prog muts (Bkn N) Bvk N 108 [(.str b),(.int .i64 a)] [] F=(B5c N (Bcb F) b a):=by kernel_rfl
 rw [B5e]
 exact hK
def Am0 (N:Nat) (args:List AV) (h:Al) (k:KF R):Option R :=
 match args,h with
 | [(.str b),(.int .i64 a)],[]=>(Ave N b a (Bcb k))
 | _,_=>none
def Ajx (N:Nat):Tw:=⟨Am0 N,fun args h k=>by
 unfold Am0;split
 exact twE (Bcc ..) (Bcc ..)
 rfl⟩
theorem Avf (N:Nat):A0 Tryz.prog 108 (Ajx N):=fun args h res c hh=>by
 change Am0 N args h (fun v c=>some (v,c))=_ at hh
 unfold Am0 at hh;split at hh
 exact Aa (T:=Bkn N) trivial follows ((Bcc ..).trans hh)
 cases hh
def A7v (N:Nat) (r0:Nat→Int→LA→Option R)  (e:Int) (a:LA) (b:Nat) (c d:Bool) (f:Int):Option R :=
 (Ag N 6 a b c d f (fun j g=>(cond (j==(5:Int)) (Ag N e a b c d g (fun l m=>(r0 1 m [(.int .i64 l)]))) (r0 0 g []))))
def A7w (N:Nat) (e:Int) (a:LA) (b:Nat) (c d:Bool) (f:Int) (r0:Nat→Int→LA→Option R):Option R:=(A7v N r0 e a b c d f)
def P4:=(Aj (@A7w R)).1
theorem Bko:@P4 R=@A7w R:=(Aj _).2
def Axm:Hints:={ H:=(hS (hR [0,1]) (hS (hS (hR [0,1,7]) (hS (hS (hR [4]) hL) hL)) (hS (hR [4]) hL))),nils:=[(4,1)],modes:=[(2,1)],free:=[],cob:=[] }
def Ajy (N:Nat):List (Nat×Tw):=[(106,Fp N)]
def Ac6 (a:LA) (b:Nat) (c d:Bool) (F:KF R):Nat→Int→LA→Option R:=(fun n o p=>F (.own 300000 0 n) [(100000,⟨false,false,false,false,0,[(.imm a b 1 c d),(.int .i64 o)],false⟩),(300000,⟨false,false,true,false,1,p,false⟩)])
theorem Ac7 (N:Nat) (e:Int) (a:LA) (b:Nat) (c d:Bool) (f:Int) (F:KF R):Ac Tryz.prog muts (Ajy N) Axm N 151 [(.optr 100000 0),(.int .i64 e)] [(100000,⟨false,false,false,false,0,[(.imm a b 1 c d),(.int .i64 f)],false⟩)] F=(P4 N e a b c d f (Ac6 a b c d F)):=by
 have hK:Ac Tryz.prog muts (Ajy N) Axm N 151 [(.optr 100000 0),(.int .i64 e)] [(100000,⟨false,false,false,false,0,[(.imm a b 1 c d),(.int .i64 f)],false⟩)] F=(A7v N (Ac6 a b c d F) e a b c d f):=by kernel_rfl
 rw [Bko]
 exact hK
def P5 (N:Nat) (args:List AV) (h:Al) (k:KF R):Option R :=
 match args,h with
 | [(.optr 100000 0),(.int .i64 e)],[(100000,⟨false,false,false,false,0,[(.imm a b 1 c d),(.int .i64 f)],false⟩)]=>(P4 N e a b c d f (Ac6 a b c d k))
 | _,_=>none
def Ac8 (N:Nat):Tw:=⟨P5 N,fun args h k=>by
 unfold P5;split
 exact twE (Ac7 ..) (Ac7 ..)
 rfl⟩
theorem Axn (N:Nat):A0 Tryz.prog 151 (Ac8 N):=fun args h res i hh=>by
 change P5 N args h (fun v i=>some (v,i))=_ at hh
 unfold P5 at hh;split at hh
 exact Aa (T:=Ajy N) ⟨H2 N,trivial⟩ follows ((Ac7 ..).trans hh)
 cases hh
def A7x (N:Nat) (r0:LA→Int→Option R)  (i e f g:Int) (a:LA) (b:Nat) (c d:Bool) (j:Int):Option R :=
 (Ave N ([108]:List UInt8) i (fun m=>(Ag N 4 a b c d j (fun n u=>(Ag N 2 a b c d u (fun o w=>(Ag N 40 a b c d w (fun l x=>(Ag N 20 a b c d x (fun p y=>(Ag N 5 a b c d y (fun z q=>(cond (z==(4:Int)) (Ag N 4 a b c d q (fun aa ab=>(Ag N 2 a b c d ab (fun ac ad=>(Ag N 4 a b c d ad (fun ae af=>(P4 N g a b c d af (fun r ag ah=>(r0 [(.str m),(.int .i64 e),(.int .i64 f),(.int .i64 (IntKind.wrap .i64 ((1:Int)+n))),(.int .i64 (IntKind.wrap .i64 ((1:Int)+o))),(.int .i64 (IntKind.wrap .i64 ((0:Int) - aa))),(.int .i64 (IntKind.wrap .i64 ((1:Int)+ac))),(.int .i64 ae),(.int .i64 1),(.int .i64 (IntKind.wrap .i64 ((4:Int)+l))),(.int .i64 (IntKind.wrap .i64 ((IntKind.wrap .i64 ((4:Int)+l))+p))),(.imm (List.take (r*1) ah) r 1 false false)] ag))))))))) (P4 N g a b c d q (fun s ai aj=>(r0 [(.str m),(.int .i64 e),(.int .i64 f),(.int .i64 (IntKind.wrap .i64 ((1:Int)+n))),(.int .i64 (IntKind.wrap .i64 ((1:Int)+o))),(.int .i64 0),(.int .i64 1),(.int .i64 0),(.int .i64 1),(.int .i64 (IntKind.wrap .i64 ((4:Int)+l))),(.int .i64 (IntKind.wrap .i64 ((IntKind.wrap .i64 ((4:Int)+l))+p))),(.imm (List.take (s*1) aj) s 1 false false)] ai))))))))))))))))
def A7y (N:Nat) (i e f g:Int) (a:LA) (b:Nat) (c d:Bool) (j:Int) (r0:LA→Int→Option R):Option R:=(A7x N r0 i e f g a b c d j)
def Ww:=(Aj (@A7y R)).1
theorem Bkp:@Ww R=@A7y R:=(Aj _).2
def Axo:Hints:={ H:=(hS (hR [0,1,2,3,4,10]) (hS (hR [0,4,10,11]) (hS (hR [0,4,10,11]) (hS (hS (hR [0,4,10,11,37]) (hN [0,4,10,11] (hR [0,4,10,11]) hL)) (hS (hR [10,11]) (hS (hR [10]) hL)))))),nils:=[],modes:=[(3,0)],free:=[],cob:=[28] }
def Ajz (N:Nat):List (Nat×Tw):=[(108,Ajx N),(106,Fp N),(151,Ac8 N)]
def Ac9 (a:LA) (b:Nat) (c d:Bool) (F:KF R):LA→Int→Option R:=(fun ak al=>F (.pagg ak false) [(100000,⟨false,false,false,false,0,[(.imm a b 1 c d),(.int .i64 al)],false⟩)])
theorem Ada (N:Nat) (i e f g:Int) (a:LA) (b:Nat) (c d:Bool) (j:Int) (F:KF R):Ac Tryz.prog muts (Ajz N) Axo N 109 [(.optr 100000 0),(.int .i64 i),(.int .i64 e),(.int .i64 f),(.int .i64 g)] [(100000,⟨false,false,false,false,0,[(.imm a b 1 c d),(.int .i64 j)],false⟩)] F=(Ww N i e f g a b c d j (Ac9 a b c d F)):=by
 have hK:Ac Tryz.prog muts (Ajz N) Axo N 109 [(.optr 100000 0),(.int .i64 i),(.int .i64 e),(.int .i64 f),(.int .i64 g)] [(100000,⟨false,false,false,false,0,[(.imm a b 1 c d),(.int .i64 j)],false⟩)] F=(A7x N (Ac9 a b c d F) i e f g a b c d j):=by kernel_rfl
 rw [Bkp]
 exact hK
def P6 (N:Nat) (args:List AV) (h:Al) (k:KF R):Option R :=
 match args,h with
 | [(.optr 100000 0),(.int .i64 i),(.int .i64 e),(.int .i64 f),(.int .i64 g)],[(100000,⟨false,false,false,false,0,[(.imm a b 1 c d),(.int .i64 j)],false⟩)]=>(Ww N i e f g a b c d j (Ac9 a b c d k))
 | _,_=>none
def Axp (N:Nat):Tw:=⟨P6 N,fun args h k=>by
 unfold P6;split
 exact twE (Ada ..) (Ada ..)
 rfl⟩
theorem Bor (N:Nat):A0 Tryz.prog 109 (Axp N):=fun args h res t hh=>by
 change P6 N args h (fun v t=>some (v,t))=_ at hh
 unfold P6 at hh;split at hh
 exact Aa (T:=Ajz N) ⟨Avf N,H2 N,Axn N,trivial⟩ follows ((Ada ..).trans hh)
 cases hh
def Aqu (N:Nat)  (r0:LA→Int→Option R) (a:LA) (b:Nat) (c d:Bool) (y:Int) (j:List UInt8) (l e g:Int) (f:Nat) (m z aa ab ac x t ad ae af:Int) (u:Nat) (w:Int) (i ag:LA)   (ah ai aj ak:Int):Option R :=
 (cond (w==(2:Int)) (Ag N (IntKind.wrap .i64 ((IntKind.wrap .i64 (g - e))+(1:Int))) a b c d y (fun aw ax=>(r0 [(.str j),(.int .i64 l),(.int .i64 e),(.int .i64 g),(.imm (List.take (f*2) i) f 2 false false),(.int .i64 m),(.int .i64 z),(.int .i64 aa),(.int .i64 ah),(.int .i64 ai),(.int .i64 ab),(.int .i64 ac),(.int .i64 x),(.int .i64 t),(.int .i64 aj),(.int .i64 ad),(.int .i64 ae),(.int .i64 af),(.imm (List.take (u*1) ag) u 1 false false),(.int .i64 w),(.int .i64 ak),(.int .i64 (IntKind.wrap .i64 (e+aw)))] ax))) (r0 [(.str j),(.int .i64 l),(.int .i64 e),(.int .i64 g),(.imm (List.take (f*2) i) f 2 false false),(.int .i64 m),(.int .i64 z),(.int .i64 aa),(.int .i64 ah),(.int .i64 ai),(.int .i64 ab),(.int .i64 ac),(.int .i64 x),(.int .i64 t),(.int .i64 aj),(.int .i64 ad),(.int .i64 ae),(.int .i64 af),(.imm (List.take (u*1) ag) u 1 false false),(.int .i64 w),(.int .i64 ak),(.int .i64 0)] y))
def Axq (N:Nat)  (r0:LA→Int→Option R) (a:LA) (b:Nat) (c d:Bool) (y:Int) (j:List UInt8) (l e g:Int) (f:Nat) (m z aa ab ac x t ad ae af:Int) (u:Nat) (w:Int) (i ag:LA) (ah ai aj ak:Int):Option R:=(Aqu N r0 a b c d y j l e g f m z aa ab ac x t ad ae af u w i ag ah ai aj ak)
def Aqv (N:Nat)  (r0:LA→Int→Option R) (o:Int) (a:LA) (b:Nat) (c d:Bool) (j:List UInt8) (l e m:Int) (k0:Int→Int→Int→Int→Nat→LA→Option R) (q1:Int→Int→Int→Int→Int→Int→Int→Int→Int→Int→Nat→Int→LA→Int→Int→Int→Int→Option R) (p q r g:Int) (f:Nat) (i:LA):Option R :=
 (cond (decide (q>(0:Int))) (Ag N 15 a b c d r (fun ao ay=>(cond ((Nat.ble (f+1) 140737488355328)&&(Nat.ble ((f+1)*16) 140737488355328)) (Ag N 10 a b c d ay (fun az ba=>(k0 (IntKind.wrap .i64 (p+az)) (IntKind.wrap .i64 (q - (1:Int))) ba (IntKind.wrap .i64 (g+(IntKind.wrap .i64 ((1:Int)+ao)))) (f+1) ((List.take (f*2) i)++[(.int .i64 (IntKind.wrap .i64 ((1:Int)+ao))),(.int .i64 p)])))) none))) (Ag N 20 a b c d r (fun z bb=>(Ag N 20 a b c d bb (fun aa bc=>(Ag N (IntKind.wrap .i64 ((IntKind.wrap .i64 (g - e))+(1:Int))) a b c d bc (fun ap bd=>(Ag N (IntKind.wrap .i64 ((IntKind.wrap .i64 (g - e))+(1:Int))) a b c d bd (fun aq be=>(Ag N 3 a b c d be (fun ab bf=>(Ag N 3 a b c d bf (fun ac bg=>(Ag N 2 a b c d bg (fun x bh=>(Ag N 30 a b c d bh (fun t bi=>(Ag N 30 a b c d bi (fun ar bj=>(Ag N 4 a b c d bj (fun ad bk=>(Ag N 8 a b c d bk (fun ae bl=>(Ag N 4 a b c d bl (fun af bm=>(P4 N o a b c d bm (fun u bn ag=>(Ag N (IntKind.wrap .i64 ((2:Int)+x)) a b c d bn (fun au bo=>(cond (Ak au 3) (rdI .i64 (List.drop (0+((Int.toNat au)*1)) [(.int .i64 0),(.int .i64 2),(.int .i64 1)]) fun w=>(Ag N 4 a b c d bo (fun bp y=>(cond (w==(1:Int)) (q1 y z aa ab ac x t ad ae af u w ag (IntKind.wrap .i64 (e+ap)) (IntKind.wrap .i64 (e+aq)) (IntKind.wrap .i64 (t+ar)) 1) (q1 y z aa ab ac x t ad ae af u w ag (IntKind.wrap .i64 (e+ap)) (IntKind.wrap .i64 (e+aq)) (IntKind.wrap .i64 (t+ar)) (IntKind.wrap .i64 ((1:Int)+bp))))))) none))))))))))))))))))))))))))))))
def Adb (N:Nat)  (r0:LA→Int→Option R) (o:Int) (a:LA) (b:Nat) (c d:Bool) (j:List UInt8) (l e m:Int):Nat→Int→Int→Int→Int→Nat→LA→Option R
 | 0,_,_,_,_,_,_=>none
 | n+1,p,q,r,g,f,i=>(Aqv N r0 o a b c d j l e m (Adb N r0 o a b c d j l e m n) (fun y z aa ab ac x t ad ae af u w ag ah ai aj ak=>(Axq N r0 a b c d y j l e g f m z aa ab ac x t ad ae af u w i ag ah ai aj ak)) p q r g f i)
def A7z (N:Nat) (r0:LA→Int→Option R) (q0:List UInt8→Int→Int→Int→Int→Int→Int→Int→Nat→LA→Option R) (al am o:Int) (a:LA) (b:Nat) (c d:Bool) (an:Int):Option R :=
 (Ave N ([117]:List UInt8) al (fun j=>(Ag N am a b c d an (fun l bq=>(Ag N 8 a b c d bq (fun e br=>(Ag N 20 a b c d br (fun m bs=>(Ag N 20 a b c d bs (fun bt bu=>(Ag N 2 a b c d bu (fun bv bw=>(q0 j l e m (IntKind.wrap .i64 (bt - (2:Int))) (IntKind.wrap .i64 ((1:Int)+bv)) bw e 0 [])))))))))))))
def A70 (N:Nat) (al am o:Int) (a:LA) (b:Nat) (c d:Bool) (an:Int) (r0:LA→Int→Option R):Option R:=(A7z N r0 (fun j l e m p q r g f i=>(Adb N r0 o a b c d j l e m N p q r g f i)) al am o a b c d an)
def Af2:=(Aj (@A70 R)).1
theorem Bkq:@Af2 R=@A70 R:=(Aj _).2
def Sz:Hints:={ H:=(hS (hR [0,1,2,3,8]) (hS (hR [0,3,8,9]) (hS (hR [0,3,8,9]) (hS (hR [0,3,8,9,10]) (hS (hS (hR [0,3,8,9,10,11]) (hN [0,3,8,9] (hN [0,3,8,9,10,11] (hS (hS (hR [0,3,8,9,10,11,33]) (hN [0,3,8,9,10,11] hL hL)) (hS (hN [0,3,8,9,10,11] (hS (hR [0,3,8,9,10,11,12]) (hS (hR [0,3,8,9,10,11,12]) (hR [0,3,8,9,10,11]))) hL) (hR [0,3,8,9,10,11]))) hL) hL)) (hS (hR [0,3,8,9]) (hS (hR [0,3,8,9]) (hS (hR [0,3,8,9]) (hS (hR [0,3,8,9]) (hS (hR [0,3,8,9]) (hS (hR [0,3,8,9]) (hS (hR [0,8,9]) (hS (hR [0,8,9]) (hJ (hS (hR [0,8,9,133]) (hN [0,8,9] (hR [0,8,9]) hL)) (hS (hS (hR [0,8,9,137]) (hN [8,9] (hR [8,9]) hL)) (hS (hR [8]) hL)))))))))))))))),nils:=[],modes:=[(3,0)],free:=[],cob:=[22] }
def Wx (N:Nat):List (Nat×Tw):=[(108,Ajx N),(106,Fp N),(151,Ac8 N)]
def Ki (N:Nat):Env:=mkE 151 Sz (Wx N)
def Bkr (N:Nat) (F:KF R):=Ar (Ki N) Tryz.f110 Sz.modes [100000] F
def S5 (N:Nat) (F:KF R):=atF (Ki N) [100000] N Tryz.f110 Sz (Bkr N F)
def Fq (a:LA) (b:Nat) (c d:Bool) (F:KF R):LA→Int→Option R:=(fun bx bz=>F (.pagg bx false) [(100000,⟨false,false,false,false,0,[(.imm a b 1 c d),(.int .i64 bz)],false⟩)])
def S6 (a:LA) (b:Nat) (c d:Bool) (y:Int) (j:List UInt8) (l e g:Int) (f:Nat) (m z aa ab ac x t ad ae af:Int) (u:Nat) (w:Int) (i ag:LA) (ah ai aj ak:Int):St:={ s:=[(0,(.optr 100000 0)),(8,(.optr 300000 0)),(9,(.optr 300001 0))],h:=[(100000,⟨false,false,false,false,0,[(.imm a b 1 c d),(.int .i64 y)],false⟩),(300000,⟨false,false,false,false,0,[(.str ([]:List UInt8)),(.int .i64 0),(.int .i64 0),(.int .i64 0),.nsl,(.int .i64 0),(.int .i64 0),(.int .i64 0),(.int .i64 0),(.int .i64 0),(.int .i64 0),(.int .i64 0),(.int .i64 0),(.int .i64 0),(.int .i64 0),(.int .i64 0),(.int .i64 0),(.int .i64 0),.nsl,(.int .i64 0),(.int .i64 0),(.int .i64 0)],false⟩),(300001,⟨false,false,false,false,0,[(.str j),(.int .i64 l),(.int .i64 e),(.int .i64 g),(.own 300002 0 f),(.int .i64 m),(.int .i64 z),(.int .i64 aa),(.int .i64 ah),(.int .i64 ai),(.int .i64 ab),(.int .i64 ac),(.int .i64 x),(.int .i64 t),(.int .i64 aj),(.int .i64 ad),(.int .i64 ae),(.int .i64 af),(.own 300003 0 u),(.int .i64 w),(.int .i64 ak),(.int .i64 0)],false⟩),(300002,⟨false,false,true,false,2,i,false⟩),(300003,⟨false,false,true,false,1,ag,false⟩)] }
def Axr (N:Nat) (F:KF R):St→Option R:=Bh (Ki N) [100000] N (S5 N F [1,1,1,1,1,1,1,1,1,1,1,1,1,1] [])
def Axs (N:Nat) (F:KF R):St→Option R:=Bk (Ki N) [100000] N (S5 N F [1,1,1,1,1,1,1,1,1,1,1,1,1,1] [])
def H3 (o:Int) (a:LA) (b:Nat) (c d:Bool) (j:List UInt8) (l e m p q r g:Int) (f:Nat) (i:LA):St:={ s:=[(0,(.optr 100000 0)),(3,(.int .i64 o)),(8,(.optr 300000 0)),(9,(.optr 300001 0)),(10,(.int .i64 p)),(11,(.int .i64 q))],h:=[(100000,⟨false,false,false,false,0,[(.imm a b 1 c d),(.int .i64 r)],false⟩),(300000,⟨false,false,false,false,0,[(.str ([]:List UInt8)),(.int .i64 0),(.int .i64 0),(.int .i64 0),.nsl,(.int .i64 0),(.int .i64 0),(.int .i64 0),(.int .i64 0),(.int .i64 0),(.int .i64 0),(.int .i64 0),(.int .i64 0),(.int .i64 0),(.int .i64 0),(.int .i64 0),(.int .i64 0),(.int .i64 0),.nsl,(.int .i64 0),(.int .i64 0),(.int .i64 0)],false⟩),(300001,⟨false,false,false,false,0,[(.str j),(.int .i64 l),(.int .i64 e),(.int .i64 g),(.own 300002 0 f),(.int .i64 m),(.int .i64 0),(.int .i64 0),(.int .i64 0),(.int .i64 0),(.int .i64 0),(.int .i64 0),(.int .i64 0),(.int .i64 0),(.int .i64 0),(.int .i64 0),(.int .i64 0),(.int .i64 0),(.own 300003 0 0),(.int .i64 0),(.int .i64 0),(.int .i64 0)],false⟩),(300002,⟨false,false,true,false,2,i,false⟩),(300003,⟨false,false,true,false,1,[],false⟩)] }
def Axt (N:Nat) (F:KF R):St→Option R:=A4 (Ki N) [100000] N (S5 N F [1,1,1,1,0,1,0] []) N
def S7 (N:Nat) (F:KF R) (n:Nat):St→Option R:=Av (Ki N) [100000] N (S5 N F [1,1,1,1,0,1,0] []) n
theorem Bcd (N:Nat)  (F:KF R) (a:LA) (b:Nat) (c d:Bool) (y:Int) (j:List UInt8) (l e g:Int) (f:Nat) (m z aa ab ac x t ad ae af:Int) (u:Nat) (w:Int) (i ag:LA):∀ (ah ai aj ak:Int),Axs N F (S6 a b c d y j l e g f m z aa ab ac x t ad ae af u w i ag ah ai aj ak)=(Axq N (Fq a b c d F) a b c d y j l e g f m z aa ab ac x t ad ae af u w i ag ah ai aj ak):=by
 intro ah ai aj ak
 have hK:Axs N F (S6 a b c d y j l e g f m z aa ab ac x t ad ae af u w i ag ah ai aj ak)=(Aqu N (Fq a b c d F) a b c d y j l e g f m z aa ab ac x t ad ae af u w i ag ah ai aj ak):=by kernel_rfl
 exact hK
theorem Bce (N:Nat)  (F:KF R) (o:Int) (a:LA) (b:Nat) (c d:Bool) (j:List UInt8) (l e m:Int):∀ (n:Nat) (p q r g:Int) (f:Nat) (i:LA),S7 N F n (H3 o a b c d j l e m p q r g f i)=(Adb N (Fq a b c d F) o a b c d j l e m n p q r g f i):=by
 intro n
 induction n with
 | zero=>intros;kernel_rfl
 | succ n ih =>
  intro p q r g f i
  have e0:=funext fun p=>funext fun q=>funext fun r=>funext fun g=>funext fun f=>funext fun i=>(show S7 N F n (H3 o a b c d j l e m p q r g f i)=_ from ih p q r g f i)
  have e1:=funext fun y=>funext fun z=>funext fun aa=>funext fun ab=>funext fun ac=>funext fun x=>funext fun t=>funext fun ad=>funext fun ae=>funext fun af=>funext fun u=>funext fun w=>funext fun ag=>funext fun ah=>funext fun ai=>funext fun aj=>funext fun ak=>(show Axr N F (S6 a b c d y j l e g f m z aa ab ac x t ad ae af u w i ag ah ai aj ak)=_ from (Au ..).trans (Bcd N F a b c d y j l e g f m z aa ab ac x t ad ae af u w i ag ah ai aj ak))
  have hK:S7 N F (n+1) (H3 o a b c d j l e m p q r g f i)=(Aqv N (Fq a b c d F) o a b c d j l e m (fun p q r g f i=>S7 N F n (H3 o a b c d j l e m p q r g f i)) (fun y z aa ab ac x t ad ae af u w ag ah ai aj ak=>Axr N F (S6 a b c d y j l e g f m z aa ab ac x t ad ae af u w i ag ah ai aj ak)) p q r g f i):=by kernel_rfl
  exact hK.trans (by rw [e0,e1];rfl)
theorem Adc (N:Nat) (al am o:Int) (a:LA) (b:Nat) (c d:Bool) (an:Int) (F:KF R):Ac Tryz.prog muts (Wx N) Sz N 110 [(.optr 100000 0),(.int .i64 al),(.int .i64 am),(.int .i64 o)] [(100000,⟨false,false,false,false,0,[(.imm a b 1 c d),(.int .i64 an)],false⟩)] F=(Af2 N al am o a b c d an (Fq a b c d F)):=by
 have e1:=funext fun j=>funext fun l=>funext fun e=>funext fun m=>funext fun p=>funext fun q=>funext fun r=>funext fun g=>funext fun f=>funext fun i=>(show Axt N F (H3 o a b c d j l e m p q r g f i)=_ from (An ..).trans (Bce N F o a b c d j l e m N p q r g f i))
 have hK:Ac Tryz.prog muts (Wx N) Sz N 110 [(.optr 100000 0),(.int .i64 al),(.int .i64 am),(.int .i64 o)] [(100000,⟨false,false,false,false,0,[(.imm a b 1 c d),(.int .i64 an)],false⟩)] F=(A7z N (Fq a b c d F) (fun j l e m p q r g f i=>Axt N F (H3 o a b c d j l e m p q r g f i)) al am o a b c d an):=by kernel_rfl
 rw [Bkq]
 exact hK.trans (by rw [e1];rfl)
def P7 (N:Nat) (args:List AV) (h:Al) (k:KF R):Option R :=
 match args,h with
 | [(.optr 100000 0),(.int .i64 al),(.int .i64 am),(.int .i64 o)],[(100000,⟨false,false,false,false,0,[(.imm a b 1 c d),(.int .i64 an)],false⟩)]=>(Af2 N al am o a b c d an (Fq a b c d k))
 | _,_=>none
def Axu (N:Nat):Tw:=⟨P7 N,fun args h k=>by
 unfold P7;split
 exact twE (Adc ..) (Adc ..)
 rfl⟩
theorem Bos (N:Nat):A0 Tryz.prog 110 (Axu N):=fun args h res av hh=>by
 change P7 N args h (fun v av=>some (v,av))=_ at hh
 unfold P7 at hh;split at hh
 exact Aa (T:=Wx N) ⟨Avf N,H2 N,Axn N,trivial⟩ follows ((Adc ..).trans hh)
 cases hh
end
end Gx

namespace Gx
open Go Go.Proofs
set_option maxRecDepth 100000
noncomputable section
variable {R:Type}
def Aj0 (N:Nat)  (r0:LA→Int→Option R) (e:Int) (a:LA) (b:Nat) (c d:Bool) (f:List UInt8) (g:Nat) (i:LA) (k1:Int→Int→Nat→LA→Option R)  (l o:Int) (j:Nat) (m:LA):Option R :=
 (cond (decide (l<e)) (Ag N 2 a b c d o (fun ac w=>(cond (ac==(1:Int)) (Ag N 8 a b c d w (fun ad ae=>(Ag N 8 a b c d ae (fun af ag=>(cond ((Nat.ble (j+1) 140737488355328)&&(Nat.ble ((j+1)*24) 140737488355328)) (k1 (IntKind.wrap .i64 (l+(1:Int))) ag (j+1) ((List.take (j*3) m)++[(.int .i64 l),(.int .i64 ad),(.int .i64 af)])) none))))) (k1 (IntKind.wrap .i64 (l+(1:Int))) w j m)))) (r0 [(.str f),(.imm (List.take (g*1) i) g 1 false false),(.bool true),(.imm (List.take (j*3) m) j 3 false false)] o))
def Wy (N:Nat)  (r0:LA→Int→Option R) (e:Int) (a:LA) (b:Nat) (c d:Bool) (f:List UInt8) (g:Nat) (i:LA):Nat→Int→Int→Nat→LA→Option R
 | 0,_,_,_,_=>none
 | n+1,l,o,j,m=>(Aj0 N r0 e a b c d f g i (Wy N r0 e a b c d f g i n) l o j m)
def Aj1 (N:Nat)  (r0:LA→Int→Option R) (e:Int) (a:LA) (b:Nat) (c d:Bool) (f:List UInt8)  (q1:Int→Int→Nat→LA→Option R) (p:Int) (g:Nat) (i:LA):Option R :=
 (Ag N 2 a b c d p (fun ah x=>(cond (ah==(1:Int)) (q1 0 x 0 []) (r0 [(.str f),(.imm (List.take (g*1) i) g 1 false false),(.bool false),(.imm [] 0 3 false false)] x))))
def Am1 (N:Nat)  (r0:LA→Int→Option R) (e:Int) (a:LA) (b:Nat) (c d:Bool) (f:List UInt8) (p:Int) (g:Nat) (i:LA):Option R:=(Aj1 N r0 e a b c d f (fun l o j m=>(Wy N r0 e a b c d f g i N l o j m)) p g i)
def Axv (N:Nat) (r0:LA→Int→Option R) (q0:List UInt8→Int→Nat→LA→Option R) (r q e:Int) (a:LA) (b:Nat) (c d:Bool) (t:Int):Option R :=
 (Ave N ([111]:List UInt8) r (fun f=>(Ag N q a b c d t (fun u ai=>(Ag N q a b c d ai (fun y z=>(cond ((decide (y>u))==true) (Ag N 3 a b c d z (fun aj aa=>(cond (cond true (aj==(2:Int)) false) (q0 f aa 2 [(.int .i64 u),(.int .i64 y)]) (q0 f aa 1 [(.int .i64 u)])))) (q0 f z 1 [(.int .i64 u)]))))))))
def Axw (N:Nat) (r q e:Int) (a:LA) (b:Nat) (c d:Bool) (t:Int) (r0:LA→Int→Option R):Option R:=(Axv N r0 (fun f p g i=>(Am1 N r0 e a b c d f p g i)) r q e a b c d t)
def Wz:=(Aj (@Axw R)).1
theorem Bcf:@Wz R=@Axw R:=(Aj _).2
def Ns:Hints:={ H:=(hS (hR [0,1,2,3,8]) (hS (hR [0,2,3,8,9]) (hJ (hS (hR [0,3,8,9,10]) (hS (hR [0,3,8,9,10,32]) (hN [0,3,8,9] (hR [0,3,8,9]) hL))) (hS (hS (hR [0,3,8,9,41]) (hN [8,9] (hS (hR [0,3,8,9]) (hS (hR [0,3,8,9,11]) (hN [8,9] (hN [0,3,8,9,11] (hS (hS (hR [0,3,8,9,11,45]) (hN [0,3,8,9,11] hL hL)) (hS (hN [0,3,8,9,11] (hS (hR [0,3,8,9,11,50]) (hN [0,3,8,9,11] (hR [0,3,8,9,11]) hL)) hL) (hR [0,3,8,9,11]))) hL) hL))) hL)) (hS (hR [8]) hL))))),nils:=[],modes:=[(3,0)],free:=[],cob:=[18] }
def P8 (N:Nat):List (Nat×Tw):=[(108,Ajx N),(106,Fp N)]
def Gt (N:Nat):Env:=mkE 63 Ns (P8 N)
def Bcg (N:Nat) (F:KF R):=Ar (Gt N) Tryz.f111 Ns.modes [100000] F
def Nt (N:Nat) (F:KF R):=atF (Gt N) [100000] N Tryz.f111 Ns (Bcg N F)
def D7 (a:LA) (b:Nat) (c d:Bool) (F:KF R):LA→Int→Option R:=(fun ak al=>F (.pagg ak false) [(100000,⟨false,false,false,false,0,[(.imm a b 1 c d),(.int .i64 al)],false⟩)])
def Fb (e:Int) (a:LA) (b:Nat) (c d:Bool) (f:List UInt8) (g:Nat) (i:LA) (l o:Int) (j:Nat) (m:LA):St:={ s:=[(0,(.optr 100000 0)),(3,(.int .i64 e)),(8,(.optr 300000 0)),(9,(.optr 300001 0)),(11,(.int .i64 l))],h:=[(100000,⟨false,false,false,false,0,[(.imm a b 1 c d),(.int .i64 o)],false⟩),(300000,⟨false,false,false,false,0,[(.str ([]:List UInt8)),.nsl,(.bool false),.nsl],false⟩),(300001,⟨false,false,false,false,0,[(.str f),(.own 300002 0 g),(.bool true),(.own 300003 0 j)],false⟩),(300002,⟨false,false,true,false,1,i,false⟩),(300003,⟨false,false,true,false,3,m,false⟩)] }
def Am2 (N:Nat) (F:KF R):St→Option R:=A4 (Gt N) [100000] N (Nt N F [1,1,1,0,1,0,1,1,0] []) N
def Nu (N:Nat) (F:KF R) (n:Nat):St→Option R:=Av (Gt N) [100000] N (Nt N F [1,1,1,0,1,0,1,1,0] []) n
def Nv (e:Int) (a:LA) (b:Nat) (c d:Bool) (f:List UInt8) (p:Int) (g:Nat) (i:LA):St:={ s:=[(0,(.optr 100000 0)),(3,(.int .i64 e)),(8,(.optr 300000 0)),(9,(.optr 300001 0))],h:=[(100000,⟨false,false,false,false,0,[(.imm a b 1 c d),(.int .i64 p)],false⟩),(300000,⟨false,false,false,false,0,[(.str ([]:List UInt8)),.nsl,(.bool false),.nsl],false⟩),(300001,⟨false,false,false,false,0,[(.str f),(.own 300002 0 g),(.bool false),(.own 300003 0 0)],false⟩),(300002,⟨false,false,true,false,1,i,false⟩),(300003,⟨false,false,true,false,3,[],false⟩)] }
def Am3 (N:Nat) (F:KF R):St→Option R:=Bh (Gt N) [100000] N (Nt N F [1,1,1] [])
def Am4 (N:Nat) (F:KF R):St→Option R:=Bk (Gt N) [100000] N (Nt N F [1,1,1] [])
theorem A2r (N:Nat)  (F:KF R) (e:Int) (a:LA) (b:Nat) (c d:Bool) (f:List UInt8) (g:Nat) (i:LA):∀ (n:Nat) (l o:Int) (j:Nat) (m:LA),Nu N F n (Fb e a b c d f g i l o j m)=(Wy N (D7 a b c d F) e a b c d f g i n l o j m):=by
 intro n
 induction n with
 | zero=>intros;kernel_rfl
 | succ n ih =>
  intro l o j m
  have e0:=funext fun l=>funext fun o=>funext fun j=>funext fun m=>(show Nu N F n (Fb e a b c d f g i l o j m)=_ from ih l o j m)
  have hK:Nu N F (n+1) (Fb e a b c d f g i l o j m)=(Aj0 N (D7 a b c d F) e a b c d f g i (fun l o j m=>Nu N F n (Fb e a b c d f g i l o j m)) l o j m):=by kernel_rfl
  exact hK.trans (by rw [e0];rfl)
theorem A2s (N:Nat)  (F:KF R) (e:Int) (a:LA) (b:Nat) (c d:Bool) (f:List UInt8):∀ (p:Int) (g:Nat) (i:LA),Am4 N F (Nv e a b c d f p g i)=(Am1 N (D7 a b c d F) e a b c d f p g i):=by
 intro p g i
 have e1:=funext fun l=>funext fun o=>funext fun j=>funext fun m=>(show Am2 N F (Fb e a b c d f g i l o j m)=_ from (An ..).trans (A2r N F e a b c d f g i N l o j m))
 have hK:Am4 N F (Nv e a b c d f p g i)=(Aj1 N (D7 a b c d F) e a b c d f (fun l o j m=>Am2 N F (Fb e a b c d f g i l o j m)) p g i):=by kernel_rfl
 exact hK.trans (by rw [e1];rfl)
theorem W0 (N:Nat) (r q e:Int) (a:LA) (b:Nat) (c d:Bool) (t:Int) (F:KF R):Ac Tryz.prog muts (P8 N) Ns N 111 [(.optr 100000 0),(.int .i64 r),(.int .i64 q),(.int .i64 e)] [(100000,⟨false,false,false,false,0,[(.imm a b 1 c d),(.int .i64 t)],false⟩)] F=(Wz N r q e a b c d t (D7 a b c d F)):=by
 have e1:=funext fun f=>funext fun p=>funext fun g=>funext fun i=>(show Am3 N F (Nv e a b c d f p g i)=_ from (Au ..).trans (A2s N F e a b c d f p g i))
 have hK:Ac Tryz.prog muts (P8 N) Ns N 111 [(.optr 100000 0),(.int .i64 r),(.int .i64 q),(.int .i64 e)] [(100000,⟨false,false,false,false,0,[(.imm a b 1 c d),(.int .i64 t)],false⟩)] F=(Axv N (D7 a b c d F) (fun f p g i=>Am3 N F (Nv e a b c d f p g i)) r q e a b c d t):=by kernel_rfl
 rw [Bcf]
 exact hK.trans (by rw [e1];rfl)
def Lo (N:Nat) (args:List AV) (h:Al) (k:KF R):Option R :=
 match args,h with
 | [(.optr 100000 0),(.int .i64 r),(.int .i64 q),(.int .i64 e)],[(100000,⟨false,false,false,false,0,[(.imm a b 1 c d),(.int .i64 t)],false⟩)]=>(Wz N r q e a b c d t (D7 a b c d k))
 | _,_=>none
def Am5 (N:Nat):Tw:=⟨Lo N,fun args h k=>by
 unfold Lo;split
 exact twE (W0 ..) (W0 ..)
 rfl⟩
theorem Bfy (N:Nat):A0 Tryz.prog 111 (Am5 N):=fun args h res ab hh=>by
 change Lo N args h (fun v ab=>some (v,ab))=_ at hh
 unfold Lo at hh;split at hh
 exact Aa (T:=P8 N) ⟨Avf N,H2 N,trivial⟩ follows ((W0 ..).trans hh)
 cases hh
def Axx (N:Nat)  (r0:Bool→Option R) (d e:Int) (b:LA) (a:Nat) (f g:Bool) (k0:Int→Option R)  (c:Int):Option R :=
 (cond (decide (c<((a:Nat):Int))) (cond (Ak c a) (rdI .i64 (List.drop ((Int.toNat c)*1) b) fun j=>(cond ((decide (j<d))==false) (cond (Ak c a) (rdI .i64 (List.drop ((Int.toNat c)*1) b) fun l=>(cond (cond false true (decide (l>e))) (r0 false) (k0 (IntKind.wrap .i64 (c+(1:Int)))))) none) (r0 false))) none) (r0 true))
def Aj2 (N:Nat)  (r0:Bool→Option R) (d e:Int) (b:LA) (a:Nat) (f g:Bool):Nat→Int→Option R
 | 0,_=>none
 | n+1,c=>(Axx N r0 d e b a f g (Aj2 N r0 d e b a f g n) c)
def Bfz (N:Nat) (r0:Bool→Option R) (q0:Int→Option R) (d e:Int) (b:LA) (a:Nat) (f g:Bool):Option R :=
 (q0 0)
def Bf0 (N:Nat) (d e:Int) (b:LA) (a:Nat) (f g:Bool) (r0:Bool→Option R):Option R:=(Bfz N r0 (fun c=>(Aj2 N r0 d e b a f g N c)) d e b a f g)
def As:=(Aj (@Bf0 R)).1
theorem Bot:@As R=@Bf0 R:=(Aj _).2
def W1:Hints:={ H:=(hS (hR [0,1,2]) (hS (hS (hR [0,1,2,7]) (hS (hN [0,1,2,7] (hS (hS (hR [0,1,2,7,11]) (hN [0,1,2,7] hL hL)) (hS (hN [0,1,2,7] (hS (hR [0,1,2,7,27]) (hN [0,1,2,7] (hS (hR [6]) hL) hL)) hL) (hR [0,1,2,7]))) hL) hL)) (hS (hR [6]) hL))),nils:=[],modes:=[],free:=[],cob:=[] }
def Aa5 (N:Nat):List (Nat×Tw):=[]
def Aa6 (N:Nat):Env:=mkE 28 W1 (Aa5 N)
def Bou (N:Nat) (F:KF R):=Ar (Aa6 N) Tryz.f156 W1.modes [] F
def A2t (N:Nat) (F:KF R):=atF (Aa6 N) [] N Tryz.f156 W1 (Bou N F)
def Oq  (F:KF R):Bool→Option R:=(fun m=>F (.bool m) [])
def Kj (d e:Int) (b:LA) (a:Nat) (f g:Bool) (c:Int):St:={ s:=[(0,(.int .i64 d)),(1,(.int .i64 e)),(2,(.imm b a 1 f g)),(7,(.int .i64 c))],h:=[] }
def A2u (N:Nat) (F:KF R):St→Option R:=A4 (Aa6 N) [] N (A2t N F [1,0,1,0] []) N
def W2 (N:Nat) (F:KF R) (n:Nat):St→Option R:=Av (Aa6 N) [] N (A2t N F [1,0,1,0] []) n
theorem Bf1 (N:Nat)  (F:KF R) (d e:Int) (b:LA) (a:Nat) (f g:Bool):∀ (n:Nat) (c:Int),W2 N F n (Kj d e b a f g c)=(Aj2 N (Oq F) d e b a f g n c):=by
 intro n
 induction n with
 | zero=>intros;kernel_rfl
 | succ n ih =>
  intro c
  have e0:=funext fun c=>(show W2 N F n (Kj d e b a f g c)=_ from ih c)
  have hK:W2 N F (n+1) (Kj d e b a f g c)=(Axx N (Oq F) d e b a f g (fun c=>W2 N F n (Kj d e b a f g c)) c):=by kernel_rfl
  exact hK.trans (by rw [e0];rfl)
theorem Aj3 (N:Nat) (d e:Int) (b:LA) (a:Nat) (f g:Bool) (F:KF R):Ac Tryz.prog muts (Aa5 N) W1 N 156 [(.int .i64 d),(.int .i64 e),(.imm b a 1 f g)] [] F=(As N d e b a f g (Oq F)):=by
 have e1:=funext fun c=>(show A2u N F (Kj d e b a f g c)=_ from (An ..).trans (Bf1 N F d e b a f g N c))
 have hK:Ac Tryz.prog muts (Aa5 N) W1 N 156 [(.int .i64 d),(.int .i64 e),(.imm b a 1 f g)] [] F=(Bfz N (Oq F) (fun c=>A2u N F (Kj d e b a f g c)) d e b a f g):=by kernel_rfl
 rw [Bot]
 exact hK.trans (by rw [e1];rfl)
def S8 (N:Nat) (args:List AV) (h:Al) (k:KF R):Option R :=
 match args,h with
 | [(.int .i64 d),(.int .i64 e),(.imm b a 1 f g)],[]=>(As N d e b a f g (Oq k))
 | _,_=>none
def Cg (N:Nat):Tw:=⟨S8 N,fun args h k=>by
 unfold S8;split
 exact twE (Aj3 ..) (Aj3 ..)
 rfl⟩
theorem C0 (N:Nat):A0 Tryz.prog 156 (Cg N):=fun args h res i hh=>by
 change S8 N args h (fun v i=>some (v,i))=_ at hh
 unfold S8 at hh;split at hh
 exact Aa (T:=Aa5 N) trivial follows ((Aj3 ..).trans hh)
 cases hh
def Ab3 (N:Nat)  (r0:LA→Option R) (b c d e:Int) (a:LA)   (f:Bool):Option R :=
 (cond f (cond ((Nat.beq 3 3)&&((Nat.ble 3 (List.length a))&&(!false))) (cond ((Nat.beq 1 1)&&((Nat.ble 4 (List.length (Eh a 0 [(.int .i64 b),(.int .i64 c),(.int .i64 d)])))&&(!false))) (r0 (List.set (Eh a 0 [(.int .i64 b),(.int .i64 c),(.int .i64 d)]) 3 (.int .i64 e))) none) none) (r0 a))
def Adr (N:Nat)  (r0:LA→Option R) (b c d e:Int) (a:LA) (f:Bool):Option R:=(Ab3 N r0 b c d e a f)
def Am6 (N:Nat) (r0:LA→Option R) (q0:Bool→Option R) (g:Bool) (b c d e:Int) (a:LA):Option R :=
 (rdI .i64 (List.drop 3 a) fun j=>(cond ((j==(0:Int))==true) (q0 (cond true (!g) false)) (q0 false)))
def Am7 (N:Nat) (g:Bool) (b c d e:Int) (a:LA) (r0:LA→Option R):Option R:=(Am6 N r0 (fun f=>(Adr N r0 b c d e a f)) g b c d e a)
def Ab:=(Aj (@Am7 R)).1
theorem A2v:@Ab R=@Am7 R:=(Aj _).2
def Jc:Hints:={ H:=(hJ (hR [0,2,3,4,5,20]) (hS hL hL)),nils:=[],modes:=[],free:=[],cob:=[] }
def Lp (N:Nat):List (Nat×Tw):=[]
def Lq (N:Nat):Env:=mkE 32 Jc (Lp N)
def A2w (N:Nat) (F:KF R):=Ar (Lq N) Tryz.f155 Jc.modes [100000] F
def Ads (N:Nat) (F:KF R):=atF (Lq N) [100000] N Tryz.f155 Jc (A2w N F)
def Fv  (F:KF R):LA→Option R:=(fun l=>F (.tup []) [(100000,⟨false,false,true,false,0,l,false⟩)])
def Jd (b c d e:Int) (a:LA) (f:Bool):St:={ s:=[(0,(.optr 100000 0)),(2,(.int .i64 b)),(3,(.int .i64 c)),(4,(.int .i64 d)),(5,(.int .i64 e)),(20,(.bool f))],h:=[(100000,⟨false,false,true,false,0,a,false⟩)] }
def Adt (N:Nat) (F:KF R):St→Option R:=Bh (Lq N) [100000] N (Ads N F [1] [])
def Adu (N:Nat) (F:KF R):St→Option R:=Bk (Lq N) [100000] N (Ads N F [1] [])
theorem Avg (N:Nat)  (F:KF R) (b c d e:Int) (a:LA):∀ (f:Bool),Adu N F (Jd b c d e a f)=(Adr N (Fv F) b c d e a f):=by
 intro f
 have hK:Adu N F (Jd b c d e a f)=(Ab3 N (Fv F) b c d e a f):=by kernel_rfl
 exact hK
theorem Qz (N:Nat) (g:Bool) (b c d e:Int) (a:LA) (F:KF R):Ac Tryz.prog muts (Lp N) Jc N 155 [(.optr 100000 0),(.bool g),(.int .i64 b),(.int .i64 c),(.int .i64 d),(.int .i64 e)] [(100000,⟨false,false,true,false,0,a,false⟩)] F=(Ab N g b c d e a (Fv F)):=by
 have e1:=funext fun f=>(show Adt N F (Jd b c d e a f)=_ from (Au ..).trans (Avg N F b c d e a f))
 have hK:Ac Tryz.prog muts (Lp N) Jc N 155 [(.optr 100000 0),(.bool g),(.int .i64 b),(.int .i64 c),(.int .i64 d),(.int .i64 e)] [(100000,⟨false,false,true,false,0,a,false⟩)] F=(Am6 N (Fv F) (fun f=>Adt N F (Jd b c d e a f)) g b c d e a):=by kernel_rfl
 rw [A2v]
 exact hK.trans (by rw [e1];rfl)
def Ic (N:Nat) (args:List AV) (h:Al) (k:KF R):Option R :=
 match args,h with
 | [(.optr 100000 0),(.bool g),(.int .i64 b),(.int .i64 c),(.int .i64 d),(.int .i64 e)],[(100000,⟨false,false,true,false,0,a,false⟩)]=>(Ab N g b c d e a (Fv k))
 | _,_=>none
def Bd (N:Nat):Tw:=⟨Ic N,fun args h k=>by
 unfold Ic;split
 exact twE (Qz ..) (Qz ..)
 rfl⟩
theorem Bl (N:Nat):A0 Tryz.prog 155 (Bd N):=fun args h res i hh=>by
 change Ic N args h (fun v i=>some (v,i))=_ at hh
 unfold Ic at hh;split at hh
 exact Aa (T:=Lp N) trivial follows ((Qz ..).trans hh)
 cases hh
def Adv (N:Nat) (r0:LA→Option R)  (e:LA) (m:Bool) (f:LA) (a:Nat) (n g:Bool) (i j b c d:Int) (l:LA):Option R :=
 (rdI .i64 e fun p=>(Ab N (((a:Nat):Int)==p) b c d 4 l (fun q=>(As N i j f a false g (fun r=>(Ab N r b c d 3 q (fun s=>(r0 s))))))))
def Adw (N:Nat) (e:LA) (m:Bool) (f:LA) (a:Nat) (n g:Bool) (i j b c d:Int) (l:LA) (r0:LA→Option R):Option R:=(Adv N r0 e m f a n g i j b c d l)
def C1:=(Aj (@Adw R)).1
theorem Avh:@C1 R=@Adw R:=(Aj _).2
def Xm:Hints:={ H:=(hS (hR [0,2,3,4,5,6,7,9]) (hS (hR [0,2,3,4,5,6,7]) hL)),nils:=[],modes:=[],free:=[],cob:=[] }
def Or (N:Nat):List (Nat×Tw):=[(155,Bd N),(156,Cg N)]
def Mz  (F:KF R):LA→Option R:=(fun t=>F (.tup []) [(100000,⟨false,false,true,false,0,t,false⟩)])
theorem M0 (N:Nat) (e:LA) (m:Bool) (f:LA) (a:Nat) (n g:Bool) (i j b c d:Int) (l:LA) (F:KF R):Ac Tryz.prog muts (Or N) Xm N 154 [(.optr 100000 0),(.pagg e m),(.imm f a 1 n g),(.int .i64 i),(.int .i64 j),(.int .i64 b),(.int .i64 c),(.int .i64 d)] [(100000,⟨false,false,true,false,0,l,false⟩)] F=(C1 N e m f a n g i j b c d l (Mz F)):=by
 have hK:Ac Tryz.prog muts (Or N) Xm N 154 [(.optr 100000 0),(.pagg e m),(.imm f a 1 n g),(.int .i64 i),(.int .i64 j),(.int .i64 b),(.int .i64 c),(.int .i64 d)] [(100000,⟨false,false,true,false,0,l,false⟩)] F=(Adv N (Mz F) e m f a n g i j b c d l):=by kernel_rfl
 rw [Avh]
 exact hK
def F4 (N:Nat) (args:List AV) (h:Al) (k:KF R):Option R :=
 match args,h with
 | [(.optr 100000 0),(.pagg e m),(.imm f a 1 n g),(.int .i64 i),(.int .i64 j),(.int .i64 b),(.int .i64 c),(.int .i64 d)],[(100000,⟨false,false,true,false,0,l,false⟩)]=>(C1 N e m f a n g i j b c d l (Mz k))
 | _,_=>none
def Hh (N:Nat):Tw:=⟨F4 N,fun args h k=>by
 unfold F4;split
 exact twE (M0 ..) (M0 ..)
 rfl⟩
theorem M5 (N:Nat):A0 Tryz.prog 154 (Hh N):=fun args h res o hh=>by
 change F4 N args h (fun v o=>some (v,o))=_ at hh
 unfold F4 at hh;split at hh
 exact Aa (T:=Or N) ⟨Bl N,C0 N,trivial⟩ follows ((M0 ..).trans hh)
 cases hh
def A71 (N:Nat)  (r0:Nat→LA→Option R) (b:Bool) (a:LA) (k0:Nat→Int→LA→Option R)  (c:Nat) (j:Int) (r:LA):Option R :=
 (rdL 3 (List.drop 2 a) fun bd ab=>(cond (decide (j<((ab:Nat):Int))) (rdL 3 (List.drop 2 a) fun ac ad=>(cond (Ak j ad) (rdS (List.drop ((Int.toNat j)*3) ac) fun ae=>(cond ((Nat.ble (c+1) 140737488355328)&&(Nat.ble ((c+1)*16) 140737488355328)) (k0 (c+1) (IntKind.wrap .i64 (j+(1:Int))) ((List.take (c*1) r)++[(.str ae)])) none)) none)) (r0 c r)))
def Avi (N:Nat)  (r0:Nat→LA→Option R) (b:Bool) (a:LA):Nat→Nat→Int→LA→Option R
 | 0,_,_,_=>none
 | n+1,c,j,r=>(A71 N r0 b a (Avi N r0 b a n) c j r)
def A72 (N:Nat)  (r0:Nat→LA→Option R) (b:Bool) (a:LA) (k1:Nat→Int→LA→Option R)  (d:Nat) (l:Int) (t:LA):Option R :=
 (rdL 12 (List.drop 3 a) fun be af=>(cond (decide (l<((af:Nat):Int))) (rdL 12 (List.drop 3 a) fun ag ah=>(cond (Ak l ah) (rdS (List.drop ((Int.toNat l)*12) ag) fun ai=>(cond ((Nat.ble (d+1) 140737488355328)&&(Nat.ble ((d+1)*16) 140737488355328)) (k1 (d+1) (IntKind.wrap .i64 (l+(1:Int))) ((List.take (d*1) t)++[(.str ai)])) none)) none)) (r0 d t)))
def Avj (N:Nat)  (r0:Nat→LA→Option R) (b:Bool) (a:LA):Nat→Nat→Int→LA→Option R
 | 0,_,_,_=>none
 | n+1,d,l,t=>(A72 N r0 b a (Avj N r0 b a n) d l t)
def A73 (N:Nat)  (r0:Nat→LA→Option R) (b:Bool) (a:LA) (k2:Nat→Int→LA→Option R)  (e:Nat) (m:Int) (u:LA):Option R :=
 (rdL 22 (List.drop 4 a) fun bf aj=>(cond (decide (m<((aj:Nat):Int))) (rdL 22 (List.drop 4 a) fun ak al=>(cond (Ak m al) (rdS (List.drop ((Int.toNat m)*22) ak) fun am=>(cond ((Nat.ble (e+1) 140737488355328)&&(Nat.ble ((e+1)*16) 140737488355328)) (k2 (e+1) (IntKind.wrap .i64 (m+(1:Int))) ((List.take (e*1) u)++[(.str am)])) none)) none)) (r0 e u)))
def Avk (N:Nat)  (r0:Nat→LA→Option R) (b:Bool) (a:LA):Nat→Nat→Int→LA→Option R
 | 0,_,_,_=>none
 | n+1,e,m,u=>(A73 N r0 b a (Avk N r0 b a n) e m u)
def A74 (N:Nat)  (r0:Nat→LA→Option R) (b:Bool) (a:LA) (k3:Nat→Int→LA→Option R)  (f:Nat) (o:Int) (w:LA):Option R :=
 (rdL 9 (List.drop 5 a) fun bg an=>(cond (decide (o<((an:Nat):Int))) (rdL 9 (List.drop 5 a) fun ao ap=>(cond (Ak o ap) (rdS (List.drop ((Int.toNat o)*9) ao) fun aq=>(cond ((Nat.ble (f+1) 140737488355328)&&(Nat.ble ((f+1)*16) 140737488355328)) (k3 (f+1) (IntKind.wrap .i64 (o+(1:Int))) ((List.take (f*1) w)++[(.str aq)])) none)) none)) (r0 f w)))
def Avl (N:Nat)  (r0:Nat→LA→Option R) (b:Bool) (a:LA):Nat→Nat→Int→LA→Option R
 | 0,_,_,_=>none
 | n+1,f,o,w=>(A74 N r0 b a (Avl N r0 b a n) f o w)
def A75 (N:Nat)  (r0:Nat→LA→Option R) (b:Bool) (a:LA) (k4:Nat→Int→LA→Option R)  (g:Nat) (p:Int) (x:LA):Option R :=
 (rdL 5 (List.drop 6 a) fun bh ar=>(cond (decide (p<((ar:Nat):Int))) (rdL 5 (List.drop 6 a) fun au av=>(cond (Ak p av) (rdS (List.drop ((Int.toNat p)*5) au) fun aw=>(cond ((Nat.ble (g+1) 140737488355328)&&(Nat.ble ((g+1)*16) 140737488355328)) (k4 (g+1) (IntKind.wrap .i64 (p+(1:Int))) ((List.take (g*1) x)++[(.str aw)])) none)) none)) (r0 g x)))
def Avm (N:Nat)  (r0:Nat→LA→Option R) (b:Bool) (a:LA):Nat→Nat→Int→LA→Option R
 | 0,_,_,_=>none
 | n+1,g,p,x=>(A75 N r0 b a (Avm N r0 b a n) g p x)
def A76 (N:Nat)  (r0:Nat→LA→Option R) (b:Bool) (a:LA) (k5:Nat→Int→LA→Option R)  (i:Nat) (q:Int) (y:LA):Option R :=
 (rdL 4 (List.drop 7 a) fun bi ax=>(cond (decide (q<((ax:Nat):Int))) (rdL 4 (List.drop 7 a) fun ay az=>(cond (Ak q az) (rdS (List.drop ((Int.toNat q)*4) ay) fun ba=>(cond ((Nat.ble (i+1) 140737488355328)&&(Nat.ble ((i+1)*16) 140737488355328)) (k5 (i+1) (IntKind.wrap .i64 (q+(1:Int))) ((List.take (i*1) y)++[(.str ba)])) none)) none)) (r0 i y)))
def Avn (N:Nat)  (r0:Nat→LA→Option R) (b:Bool) (a:LA):Nat→Nat→Int→LA→Option R
 | 0,_,_,_=>none
 | n+1,i,q,y=>(A76 N r0 b a (Avn N r0 b a n) i q y)
def Bvl (N:Nat) (r0:Nat→LA→Option R) (q0:Nat→Int→LA→Option R) (q1:Nat→Int→LA→Option R) (q2:Nat→Int→LA→Option R) (q3:Nat→Int→LA→Option R) (q4:Nat→Int→LA→Option R) (q5:Nat→Int→LA→Option R) (a:LA) (b:Bool) (z:Int):Option R :=
 (cond (z==(1:Int)) (q0 0 0 []) (cond (z==(2:Int)) (q1 0 0 []) (cond (z==(3:Int)) (q2 0 0 []) (cond (z==(4:Int)) (q3 0 0 []) (cond (z==(5:Int)) (q4 0 0 []) (cond (z==(6:Int)) (q5 0 0 []) (r0 0 [])))))))
def Bvm (N:Nat) (a:LA) (b:Bool) (z:Int) (r0:Nat→LA→Option R):Option R:=(Bvl N r0 (fun c j r=>(Avi N r0 b a N c j r)) (fun d l t=>(Avj N r0 b a N d l t)) (fun e m u=>(Avk N r0 b a N e m u)) (fun f o w=>(Avl N r0 b a N f o w)) (fun g p x=>(Avm N r0 b a N g p x)) (fun i q y=>(Avn N r0 b a N i q y)) a b z)
def Aqw:=(Aj (@Bvm R)).1
theorem Bxs:@Aqw R=@Bvm R:=(Aj _).2
def Af3:Hints:={ H:=(hS (hR [1,2]) (hS (hR [1,2,5]) (hS (hS (hR [2,5,12]) (hN [5] (hS (hR [2,5,12,13]) (hN [5] (hS (hR [2,5,6]) (hN [5] (hN [2,5,6] (hS (hS (hR [2,5,6,19]) (hN [2,5,6] hL hL)) (hS (hN [2,5,6] (hR [2,5,6]) hL) (hR [2,5,6]))) hL) hL)) (hS (hR [2,5,12,31]) (hN [5] (hS (hR [2,5,7]) (hN [5] (hN [2,5,7] (hS (hS (hR [2,5,7,37]) (hN [2,5,7] hL hL)) (hS (hN [2,5,7] (hR [2,5,7]) hL) (hR [2,5,7]))) hL) hL)) (hS (hR [2,5,12,49]) (hN [5] (hS (hR [2,5,8]) (hN [5] (hN [2,5,8] (hS (hS (hR [2,5,8,55]) (hN [2,5,8] hL hL)) (hS (hN [2,5,8] (hR [2,5,8]) hL) (hR [2,5,8]))) hL) hL)) (hS (hR [2,5,12,67]) (hN [5] (hS (hR [2,5,9]) (hN [5] (hN [2,5,9] (hS (hS (hR [2,5,9,73]) (hN [2,5,9] hL hL)) (hS (hN [2,5,9] (hR [2,5,9]) hL) (hR [2,5,9]))) hL) hL)) (hS (hR [2,5,12,85]) (hN [5] (hS (hR [2,5,10]) (hN [5] (hN [2,5,10] (hS (hS (hR [2,5,10,91]) (hN [2,5,10] hL hL)) (hS (hN [2,5,10] (hR [2,5,10]) hL) (hR [2,5,10]))) hL) hL)) (hS (hR [2,5,103]) (hN [5] (hS (hR [2,5,11]) (hN [5] (hN [2,5,11] (hS (hS (hR [2,5,11,109]) (hN [2,5,11] hL hL)) (hS (hN [2,5,11] (hR [2,5,11]) hL) (hR [2,5,11]))) hL) hL)) hL)))))))))))) hL)) (hS (hR [4]) hL)))),nils:=[(4,1),(5,1)],modes:=[(2,1)],free:=[],cob:=[] }
def Am8 (N:Nat):List (Nat×Tw):=[]
def Di (N:Nat):Env:=mkE 122 Af3 (Am8 N)
def Bxt (N:Nat) (F:KF R):=Ar (Di N) Tryz.f182 Af3.modes [] F
def Ds (N:Nat) (F:KF R):=atF (Di N) [] N Tryz.f182 Af3 (Bxt N F)
def Cb  (F:KF R):Nat→LA→Option R:=(fun bb bc=>F (.own 300000 0 bb) [(300000,⟨false,false,true,false,1,bc,false⟩)])
def P9 (b:Bool) (a:LA) (c:Nat) (j:Int) (r:LA):St:={ s:=[(2,(.optr 300000 0)),(5,(.own 300001 0 c)),(6,(.int .i64 j))],h:=[(300000,⟨false,false,true,b,0,a,false⟩),(300001,⟨false,false,true,false,1,r,false⟩)] }
def Bf2 (N:Nat) (F:KF R):St→Option R:=A4 (Di N) [] N (Ds N F [1,1,0,1,0,1,0,1,0] []) N
def Af4 (N:Nat) (F:KF R) (n:Nat):St→Option R:=Av (Di N) [] N (Ds N F [1,1,0,1,0,1,0,1,0] []) n
def Qa (b:Bool) (a:LA) (d:Nat) (l:Int) (t:LA):St:={ s:=[(2,(.optr 300000 0)),(5,(.own 300001 0 d)),(7,(.int .i64 l))],h:=[(300000,⟨false,false,true,b,0,a,false⟩),(300001,⟨false,false,true,false,1,t,false⟩)] }
def Bf3 (N:Nat) (F:KF R):St→Option R:=A4 (Di N) [] N (Ds N F [1,1,0,1,0,1,1,1,0,1,0] []) N
def Af5 (N:Nat) (F:KF R) (n:Nat):St→Option R:=Av (Di N) [] N (Ds N F [1,1,0,1,0,1,1,1,0,1,0] []) n
def Qb (b:Bool) (a:LA) (e:Nat) (m:Int) (u:LA):St:={ s:=[(2,(.optr 300000 0)),(5,(.own 300001 0 e)),(8,(.int .i64 m))],h:=[(300000,⟨false,false,true,b,0,a,false⟩),(300001,⟨false,false,true,false,1,u,false⟩)] }
def Bf4 (N:Nat) (F:KF R):St→Option R:=A4 (Di N) [] N (Ds N F [1,1,0,1,0,1,1,1,1,1,0,1,0] []) N
def Af6 (N:Nat) (F:KF R) (n:Nat):St→Option R:=Av (Di N) [] N (Ds N F [1,1,0,1,0,1,1,1,1,1,0,1,0] []) n
def Qc (b:Bool) (a:LA) (f:Nat) (o:Int) (w:LA):St:={ s:=[(2,(.optr 300000 0)),(5,(.own 300001 0 f)),(9,(.int .i64 o))],h:=[(300000,⟨false,false,true,b,0,a,false⟩),(300001,⟨false,false,true,false,1,w,false⟩)] }
def Bf5 (N:Nat) (F:KF R):St→Option R:=A4 (Di N) [] N (Ds N F [1,1,0,1,0,1,1,1,1,1,1,1,0,1,0] []) N
def Af7 (N:Nat) (F:KF R) (n:Nat):St→Option R:=Av (Di N) [] N (Ds N F [1,1,0,1,0,1,1,1,1,1,1,1,0,1,0] []) n
def Qd (b:Bool) (a:LA) (g:Nat) (p:Int) (x:LA):St:={ s:=[(2,(.optr 300000 0)),(5,(.own 300001 0 g)),(10,(.int .i64 p))],h:=[(300000,⟨false,false,true,b,0,a,false⟩),(300001,⟨false,false,true,false,1,x,false⟩)] }
def Bf6 (N:Nat) (F:KF R):St→Option R:=A4 (Di N) [] N (Ds N F [1,1,0,1,0,1,1,1,1,1,1,1,1,1,0,1,0] []) N
def Af8 (N:Nat) (F:KF R) (n:Nat):St→Option R:=Av (Di N) [] N (Ds N F [1,1,0,1,0,1,1,1,1,1,1,1,1,1,0,1,0] []) n
def Qe (b:Bool) (a:LA) (i:Nat) (q:Int) (y:LA):St:={ s:=[(2,(.optr 300000 0)),(5,(.own 300001 0 i)),(11,(.int .i64 q))],h:=[(300000,⟨false,false,true,b,0,a,false⟩),(300001,⟨false,false,true,false,1,y,false⟩)] }
def Bf7 (N:Nat) (F:KF R):St→Option R:=A4 (Di N) [] N (Ds N F [1,1,0,1,0,1,1,1,1,1,1,1,1,1,1,1,0,1,0] []) N
def Af9 (N:Nat) (F:KF R) (n:Nat):St→Option R:=Av (Di N) [] N (Ds N F [1,1,0,1,0,1,1,1,1,1,1,1,1,1,1,1,0,1,0] []) n
theorem Bov (N:Nat)  (F:KF R) (b:Bool) (a:LA):∀ (n c:Nat) (j:Int) (r:LA),Af4 N F n (P9 b a c j r)=(Avi N (Cb F) b a n c j r):=by
 intro n
 induction n with
 | zero=>intros;kernel_rfl
 | succ n ih =>
  intro c j r
  have e0:=funext fun c=>funext fun j=>funext fun r=>(show Af4 N F n (P9 b a c j r)=_ from ih c j r)
  have hK:Af4 N F (n+1) (P9 b a c j r)=(A71 N (Cb F) b a (fun c j r=>Af4 N F n (P9 b a c j r)) c j r):=by kernel_rfl
  exact hK.trans (by rw [e0];rfl)
theorem Bow (N:Nat)  (F:KF R) (b:Bool) (a:LA):∀ (n d:Nat) (l:Int) (t:LA),Af5 N F n (Qa b a d l t)=(Avj N (Cb F) b a n d l t):=by
 intro n
 induction n with
 | zero=>intros;kernel_rfl
 | succ n ih =>
  intro d l t
  have e0:=funext fun d=>funext fun l=>funext fun t=>(show Af5 N F n (Qa b a d l t)=_ from ih d l t)
  have hK:Af5 N F (n+1) (Qa b a d l t)=(A72 N (Cb F) b a (fun d l t=>Af5 N F n (Qa b a d l t)) d l t):=by kernel_rfl
  exact hK.trans (by rw [e0];rfl)
theorem Box (N:Nat)  (F:KF R) (b:Bool) (a:LA):∀ (n e:Nat) (m:Int) (u:LA),Af6 N F n (Qb b a e m u)=(Avk N (Cb F) b a n e m u):=by
 intro n
 induction n with
 | zero=>intros;kernel_rfl
 | succ n ih =>
  intro e m u
  have e0:=funext fun e=>funext fun m=>funext fun u=>(show Af6 N F n (Qb b a e m u)=_ from ih e m u)
  have hK:Af6 N F (n+1) (Qb b a e m u)=(A73 N (Cb F) b a (fun e m u=>Af6 N F n (Qb b a e m u)) e m u):=by kernel_rfl
  exact hK.trans (by rw [e0];rfl)
theorem Boy (N:Nat)  (F:KF R) (b:Bool) (a:LA):∀ (n f:Nat) (o:Int) (w:LA),Af7 N F n (Qc b a f o w)=(Avl N (Cb F) b a n f o w):=by
 intro n
 induction n with
 | zero=>intros;kernel_rfl
 | succ n ih =>
  intro f o w
  have e0:=funext fun f=>funext fun o=>funext fun w=>(show Af7 N F n (Qc b a f o w)=_ from ih f o w)
  have hK:Af7 N F (n+1) (Qc b a f o w)=(A74 N (Cb F) b a (fun f o w=>Af7 N F n (Qc b a f o w)) f o w):=by kernel_rfl
  exact hK.trans (by rw [e0];rfl)
theorem Boz (N:Nat)  (F:KF R) (b:Bool) (a:LA):∀ (n g:Nat) (p:Int) (x:LA),Af8 N F n (Qd b a g p x)=(Avm N (Cb F) b a n g p x):=by
 intro n
 induction n with
 | zero=>intros;kernel_rfl
 | succ n ih =>
  intro g p x
  have e0:=funext fun g=>funext fun p=>funext fun x=>(show Af8 N F n (Qd b a g p x)=_ from ih g p x)
  have hK:Af8 N F (n+1) (Qd b a g p x)=(A75 N (Cb F) b a (fun g p x=>Af8 N F n (Qd b a g p x)) g p x):=by kernel_rfl
  exact hK.trans (by rw [e0];rfl)
theorem Bo0 (N:Nat)  (F:KF R) (b:Bool) (a:LA):∀ (n i:Nat) (q:Int) (y:LA),Af9 N F n (Qe b a i q y)=(Avn N (Cb F) b a n i q y):=by
 intro n
 induction n with
 | zero=>intros;kernel_rfl
 | succ n ih =>
  intro i q y
  have e0:=funext fun i=>funext fun q=>funext fun y=>(show Af9 N F n (Qe b a i q y)=_ from ih i q y)
  have hK:Af9 N F (n+1) (Qe b a i q y)=(A76 N (Cb F) b a (fun i q y=>Af9 N F n (Qe b a i q y)) i q y):=by kernel_rfl
  exact hK.trans (by rw [e0];rfl)
theorem Avo (N:Nat) (a:LA) (b:Bool) (z:Int) (F:KF R):Ac Tryz.prog muts (Am8 N) Af3 N 182 [(.pagg a b),(.int .i64 z)] [] F=(Aqw N a b z (Cb F)):=by
 have e1:=funext fun c=>funext fun j=>funext fun r=>(show Bf2 N F (P9 b a c j r)=_ from (An ..).trans (Bov N F b a N c j r))
 have e2:=funext fun d=>funext fun l=>funext fun t=>(show Bf3 N F (Qa b a d l t)=_ from (An ..).trans (Bow N F b a N d l t))
 have e3:=funext fun e=>funext fun m=>funext fun u=>(show Bf4 N F (Qb b a e m u)=_ from (An ..).trans (Box N F b a N e m u))
 have e4:=funext fun f=>funext fun o=>funext fun w=>(show Bf5 N F (Qc b a f o w)=_ from (An ..).trans (Boy N F b a N f o w))
 have e5:=funext fun g=>funext fun p=>funext fun x=>(show Bf6 N F (Qd b a g p x)=_ from (An ..).trans (Boz N F b a N g p x))
 have e6:=funext fun i=>funext fun q=>funext fun y=>(show Bf7 N F (Qe b a i q y)=_ from (An ..).trans (Bo0 N F b a N i q y))
 have hK:Ac Tryz.prog muts (Am8 N) Af3 N 182 [(.pagg a b),(.int .i64 z)] [] F=(Bvl N (Cb F) (fun c j r=>Bf2 N F (P9 b a c j r)) (fun d l t=>Bf3 N F (Qa b a d l t)) (fun e m u=>Bf4 N F (Qb b a e m u)) (fun f o w=>Bf5 N F (Qc b a f o w)) (fun g p x=>Bf6 N F (Qd b a g p x)) (fun i q y=>Bf7 N F (Qe b a i q y)) a b z):=by kernel_rfl
 rw [Bxs]
 exact hK.trans (by rw [e1,e2,e3,e4,e5,e6];rfl)
def Aa7 (N:Nat) (args:List AV) (h:Al) (k:KF R):Option R :=
 match args,h with
 | [(.pagg a b),(.int .i64 z)],[]=>(Aqw N a b z (Cb k))
 | _,_=>none
def Avp (N:Nat):Tw:=⟨Aa7 N,fun args h k=>by
 unfold Aa7;split
 exact twE (Avo ..) (Avo ..)
 rfl⟩
theorem Bf8 (N:Nat):A0 Tryz.prog 182 (Avp N):=fun args h res aa hh=>by
 change Aa7 N args h (fun v aa=>some (v,aa))=_ at hh
 unfold Aa7 at hh;split at hh
 exact Aa (T:=Am8 N) trivial follows ((Avo ..).trans hh)
 cases hh
end
end Gx

namespace Gx
open Go Go.Proofs
set_option maxRecDepth 100000
noncomputable section
variable {R:Type}
def B0h (N:Nat) (r0:Int→Option R)  (a:Int):Option R :=
 (cond (Ak a 7) (rdI .i64 (List.drop (0+((Int.toNat a)*1)) [(.int .i64 0),(.int .i64 32),(.int .i64 64),(.int .i64 16),(.int .i64 8),(.int .i64 8),(.int .i64 64)]) fun c=>(r0 c)) none)
def B0i (N:Nat) (a:Int) (r0:Int→Option R):Option R:=(B0h N r0 a)
def Bf9:=(Aj (@B0i R)).1
theorem B2q:@Bf9 R=@B0i R:=(Aj _).2
def Bno:Hints:={ H:=(hS (hR [0]) (hS (hR [2]) hL)),nils:=[],modes:=[],free:=[],cob:=[] }
def Bch (N:Nat):List (Nat×Tw):=[]
def A2x  (F:KF R):Int→Option R:=(fun d=>F (.int .i64 d) [])
theorem A2y (N:Nat) (a:Int) (F:KF R):Ac Tryz.prog muts (Bch N) Bno N 183 [(.int .i64 a)] [] F=(Bf9 N a (A2x F)):=by
 have hK:Ac Tryz.prog muts (Bch N) Bno N 183 [(.int .i64 a)] [] F=(B0h N (A2x F) a):=by kernel_rfl
 rw [B2q]
 exact hK
def Aga (N:Nat) (args:List AV) (h:Al) (k:KF R):Option R :=
 match args,h with
 | [(.int .i64 a)],[]=>(Bf9 N a (A2x k))
 | _,_=>none
def Bnp (N:Nat):Tw:=⟨Aga N,fun args h k=>by
 unfold Aga;split
 exact twE (A2y ..) (A2y ..)
 rfl⟩
theorem B5f (N:Nat):A0 Tryz.prog 183 (Bnp N):=fun args h res b hh=>by
 change Aga N args h (fun v b=>some (v,b))=_ at hh
 unfold Aga at hh;split at hh
 exact Aa (T:=Bch N) trivial follows ((A2y ..).trans hh)
 cases hh
def Xn (N:Nat)  (r0:LA→Option R) (b:Bool) (a:LA) (k0:Int→LA→Option R)  (c:Int) (d:LA):Option R :=
 (cond (decide (c≤(6:Int))) (cond (Nat.ble 8 (List.length a)) (Aqw N (List.take 8 a) b c (fun g y=>(Bf9 N c (fun i=>(Ab N (decide (((g:Nat):Int)≤i)) 0 0 (IntKind.wrap .i64 (c+(1:Int))) 8 d (fun j=>(k0 (IntKind.wrap .i64 (c+(1:Int))) j))))))) none) (r0 d))
def Ot (N:Nat)  (r0:LA→Option R) (b:Bool) (a:LA):Nat→Int→LA→Option R
 | 0,_,_=>none
 | n+1,c,d=>(Xn N r0 b a (Ot N r0 b a n) c d)
def Aj4 (N:Nat) (r0:LA→Option R) (q0:Int→LA→Option R) (a:LA) (b:Bool) (e:LA):Option R :=
 (rdI .i64 a fun l=>(As N 1 24 [(.int .i64 l)] 1 false true (fun m=>(Ab N m 0 0 0 3 e (fun o=>(cond (Nat.ble 8 (List.length a)) (rdL 1 (List.drop 1 a) fun p q=>(C1 N (List.take 8 a) b p q false b 0 1048576 0 0 1 o (fun r=>(rdL 3 (List.drop 2 a) fun z t=>(As N 1 32 [(.int .i64 ((t:Nat):Int))] 1 false true (fun u=>(Ab N u 0 0 2 8 r (fun w=>(q0 2 w))))))))) none))))))
def Aj5 (N:Nat) (a:LA) (b:Bool) (e:LA) (r0:LA→Option R):Option R:=(Aj4 N r0 (fun c d=>(Ot N r0 b a N c d)) a b e)
def Nw:=(Aj (@Aj5 R)).1
theorem Ax5:@Nw R=@Aj5 R:=(Aj _).2
def Id:Hints:={ H:=(hS (hR [0,3]) (hS (hR [0,3]) (hS (hR [0,3]) (hS (hR [0,3]) (hS (hR [0,3,4]) (hS (hN [0,3,4] (hS (hS (hR [0,3,4,24]) (hN [0,3,4] hL hL)) (hS (hN [0,3,4] (hR [0,3,4]) hL) (hR [0,3,4]))) hL) hL)))))),nils:=[],modes:=[],free:=[],cob:=[] }
def Je (N:Nat):List (Nat×Tw):=[(156,Cg N),(155,Bd N),(154,Hh N),(182,Avp N),(183,Bnp N)]
def Jf (N:Nat):Env:=mkE 38 Id (Je N)
def Ax6 (N:Nat) (F:KF R):=Ar (Jf N) Tryz.f152 Id.modes [100000] F
def Ab4 (N:Nat) (F:KF R):=atF (Jf N) [100000] N Tryz.f152 Id (Ax6 N F)
def E4  (F:KF R):LA→Option R:=(fun x=>F (.tup []) [(100000,⟨false,false,true,false,0,x,false⟩)])
def Dy (b:Bool) (a:LA) (c:Int) (d:LA):St:={ s:=[(0,(.optr 100000 0)),(3,(.optr 300000 0)),(4,(.int .i64 c))],h:=[(100000,⟨false,false,true,false,0,d,false⟩),(300000,⟨false,false,true,b,0,a,false⟩)] }
def Ab5 (N:Nat) (F:KF R):St→Option R:=A4 (Jf N) [100000] N (Ab4 N F [1,1,1,1,1,0] []) N
def If (N:Nat) (F:KF R) (n:Nat):St→Option R:=Av (Jf N) [100000] N (Ab4 N F [1,1,1,1,1,0] []) n
theorem Aqx (N:Nat)  (F:KF R) (b:Bool) (a:LA):∀ (n:Nat) (c:Int) (d:LA),If N F n (Dy b a c d)=(Ot N (E4 F) b a n c d):=by
 intro n
 induction n with
 | zero=>intros;kernel_rfl
 | succ n ih =>
  intro c d
  have e0:=funext fun c=>funext fun d=>(show If N F n (Dy b a c d)=_ from ih c d)
  have hK:If N F (n+1) (Dy b a c d)=(Xn N (E4 F) b a (fun c d=>If N F n (Dy b a c d)) c d):=by kernel_rfl
  exact hK.trans (by rw [e0];rfl)
theorem Ou (N:Nat) (a:LA) (b:Bool) (e:LA) (F:KF R):Ac Tryz.prog muts (Je N) Id N 152 [(.optr 100000 0),(.pagg a b)] [(100000,⟨false,false,true,false,0,e,false⟩)] F=(Nw N a b e (E4 F)):=by
 have e1:=funext fun c=>funext fun d=>(show Ab5 N F (Dy b a c d)=_ from (An ..).trans (Aqx N F b a N c d))
 have hK:Ac Tryz.prog muts (Je N) Id N 152 [(.optr 100000 0),(.pagg a b)] [(100000,⟨false,false,true,false,0,e,false⟩)] F=(Aj4 N (E4 F) (fun c d=>Ab5 N F (Dy b a c d)) a b e):=by kernel_rfl
 rw [Ax5]
 exact hK.trans (by rw [e1];rfl)
def Hi (N:Nat) (args:List AV) (h:Al) (k:KF R):Option R :=
 match args,h with
 | [(.optr 100000 0),(.pagg a b)],[(100000,⟨false,false,true,false,0,e,false⟩)]=>(Nw N a b e (E4 k))
 | _,_=>none
def Ab6 (N:Nat):Tw:=⟨Hi N,fun args h k=>by
 unfold Hi;split
 exact twE (Ou ..) (Ou ..)
 rfl⟩
theorem A2z (N:Nat):A0 Tryz.prog 152 (Ab6 N):=fun args h res f hh=>by
 change Hi N args h (fun v f=>some (v,f))=_ at hh
 unfold Hi at hh;split at hh
 exact Aa (T:=Je N) ⟨C0 N,Bl N,M5 N,Bf8 N,B5f N,trivial⟩ follows ((Ou ..).trans hh)
 cases hh
def Bga (N:Nat) (k1:Int→Option R) (r0:Bool→Option R) (a:List UInt8)   (c:Int) (d:Bool):Option R :=
 (cond ((!d)==true) (cond ((c==(0:Int))==false) (cond (Ak c (List.length a)) (cond ((((UInt8.toNat (List.getD a (Int.toNat c) 0):Nat):Int) != (95:Int))==true) (cond (Ak c (List.length a)) (cond ((decide (((UInt8.toNat (List.getD a (Int.toNat c) 0):Nat):Int)<(48:Int)))==false) (cond (Ak c (List.length a)) (cond (cond true (cond false true (cond true (cond false true (decide (((UInt8.toNat (List.getD a (Int.toNat c) 0):Nat):Int)>(57:Int)))) false)) false) (r0 false) (k1 (IntKind.wrap .i64 (c+(1:Int))))) none) (r0 false)) none) (k1 (IntKind.wrap .i64 (c+(1:Int))))) none) (r0 false)) (k1 (IntKind.wrap .i64 (c+(1:Int)))))
def A20 (N:Nat) (k1:Int→Option R) (r0:Bool→Option R) (a:List UInt8) (c:Int) (d:Bool):Option R:=(Bga N k1 r0 a c d)
def Bgb (N:Nat)  (r0:Bool→Option R) (a:List UInt8) (k1:Int→Option R) (q2:Int→Bool→Option R) (b:Int):Option R :=
 (cond (decide (b<((List.length a:Nat):Int))) (cond (Ak b (List.length a)) (cond ((decide (((UInt8.toNat (List.getD a (Int.toNat b) 0):Nat):Int)≥(97:Int)))==true) (cond (Ak b (List.length a)) (q2 b (cond true (decide (((UInt8.toNat (List.getD a (Int.toNat b) 0):Nat):Int)≤(122:Int))) false)) none) (q2 b false)) none) (r0 true))
def Ab7 (N:Nat)  (r0:Bool→Option R) (a:List UInt8):Nat→Int→Option R
 | 0,_=>none
 | n+1,b=>(Bgb N r0 a (Ab7 N r0 a n) (fun c d=>(A20 N (Ab7 N r0 a n) r0 a c d)) b)
def Bgc (N:Nat)  (r0:Bool→Option R) (a:List UInt8)  (q1:Int→Option R) :Option R :=
 (q1 0)
def Bnq (N:Nat)  (r0:Bool→Option R) (a:List UInt8) :Option R:=(Bgc N r0 a (fun b=>(Ab7 N r0 a N b)))
def B0j (N:Nat) (r0:Bool→Option R) (q0:Option R) (a:List UInt8):Option R :=
 (cond ((decide (((List.length a:Nat):Int)<(1:Int)))==false) (cond ((cond false true (decide (((List.length a:Nat):Int)>(16:Int))))==false) (cond (cond false true (a==([99,111,114,114,101,99,116,105,118,101]:List UInt8))) (r0 false) q0) (r0 false)) (r0 false))
def B0k (N:Nat) (a:List UInt8) (r0:Bool→Option R):Option R:=(B0j N r0 (Bnq N r0 a) a)
def Bgd:=(Aj (@B0k R)).1
theorem B2r:@Bgd R=@B0k R:=(Aj _).2
def Am9:Hints:={ H:=(hS (hR [0]) (hJ (hS (hR [0,16]) (hN [0] (hS (hR [2]) hL) hL)) (hS (hS (hR [0,3]) (hS (hN [0,3] (hS (hS (hR [0,3,20]) (hN [0,3] hL hL)) (hS (hN [0,3] (hJ (hR [0,3,4]) (hS (hR [0,3,56]) (hN [0,3] (hS (hR [2]) hL) hL))) hL) (hR [0,3]))) hL) hL)) (hS (hR [2]) hL)))),nils:=[],modes:=[],free:=[],cob:=[] }
def Avq (N:Nat):List (Nat×Tw):=[]
def Ov (N:Nat):Env:=mkE 57 Am9 (Avq N)
def B2s (N:Nat) (F:KF R):=Ar (Ov N) Tryz.f184 Am9.modes [] F
def Ui (N:Nat) (F:KF R):=atF (Ov N) [] N Tryz.f184 Am9 (B2s N F)
def E5  (F:KF R):Bool→Option R:=(fun f=>F (.bool f) [])
def Ana (a:List UInt8) (c:Int) (d:Bool):St:={ s:=[(0,(.str a)),(3,(.int .i64 c)),(4,(.bool d))],h:=[] }
def Bnr (N:Nat) (F:KF R) (Q1:St→Option R):St→Option R:=Bh (Ov N) [] N (Ui N F [1,1,0,1,0,0,1,0,0,1] [Q1])
def Bns (N:Nat) (F:KF R) (Q1:St→Option R):St→Option R:=Bk (Ov N) [] N (Ui N F [1,1,0,1,0,0,1,0,0,1] [Q1])
def K1 (a:List UInt8) (b:Int):St:={ s:=[(0,(.str a)),(3,(.int .i64 b))],h:=[] }
def Bnt (N:Nat) (F:KF R):St→Option R:=A4 (Ov N) [] N (Ui N F [1,1,0,1,0] []) N
def Ow (N:Nat) (F:KF R) (n:Nat):St→Option R:=Av (Ov N) [] N (Ui N F [1,1,0,1,0] []) n
def Anb (a:List UInt8):St:={ s:=[(0,(.str a))],h:=[] }
def Bnu (N:Nat) (F:KF R):St→Option R:=Bh (Ov N) [] N (Ui N F [1,1] [])
def Bnv (N:Nat) (F:KF R):St→Option R:=Bk (Ov N) [] N (Ui N F [1,1] [])
theorem Bvn (N:Nat) (Q1:St→Option R) (F:KF R) (a:List UInt8):∀ (c:Int) (d:Bool),Bns N F Q1 (Ana a c d)=(A20 N (fun b=>Q1 (K1 a b)) (E5 F) a c d):=by
 intro c d
 have hK:Bns N F Q1 (Ana a c d)=(Bga N (fun b=>Q1 (K1 a b)) (E5 F) a c d):=by kernel_rfl
 exact hK
theorem Bvo (N:Nat)  (F:KF R) (a:List UInt8):∀ (n:Nat) (b:Int),Ow N F n (K1 a b)=(Ab7 N (E5 F) a n b):=by
 intro n
 induction n with
 | zero=>intros;kernel_rfl
 | succ n ih =>
  intro b
  have e0:=funext fun b=>(show Ow N F n (K1 a b)=_ from ih b)
  have e1:(fun c d=>Bnr N F (Ow N F n) (Ana a c d))=(fun c d=>(A20 N (Ab7 N (E5 F) a n) (E5 F) a c d)):=by funext c;funext d;exact ((Au ..).trans (Bvn N (Ow N F n) F a c d)).trans (by rw [e0])
  have hK:Ow N F (n+1) (K1 a b)=(Bgb N (E5 F) a (fun b=>Ow N F n (K1 a b)) (fun c d=>Bnr N F (Ow N F n) (Ana a c d)) b):=by kernel_rfl
  exact hK.trans (by rw [e0,e1];rfl)
theorem Bvp (N:Nat)  (F:KF R) (a:List UInt8):Bnv N F (Anb a)=(Bnq N (E5 F) a):=by
 have e1:=funext fun b=>(show Bnt N F (K1 a b)=_ from (An ..).trans (Bvo N F a N b))
 have hK:Bnv N F (Anb a)=(Bgc N (E5 F) a (fun b=>Bnt N F (K1 a b))):=by kernel_rfl
 exact hK.trans (by rw [e1];rfl)
theorem A21 (N:Nat) (a:List UInt8) (F:KF R):Ac Tryz.prog muts (Avq N) Am9 N 184 [(.str a)] [] F=(Bgd N a (E5 F)):=by
 have e1:=(show Bnu N F (Anb a)=_ from (Au ..).trans (Bvp N F a))
 have hK:Ac Tryz.prog muts (Avq N) Am9 N 184 [(.str a)] [] F=(B0j N (E5 F) (Bnu N F (Anb a)) a):=by kernel_rfl
 rw [B2r]
 exact hK.trans (by rw [e1];rfl)
def Agb (N:Nat) (args:List AV) (h:Al) (k:KF R):Option R :=
 match args,h with
 | [(.str a)],[]=>(Bgd N a (E5 k))
 | _,_=>none
def Bnw (N:Nat):Tw:=⟨Agb N,fun args h k=>by
 unfold Agb;split
 exact twE (A21 ..) (A21 ..)
 rfl⟩
theorem B5g (N:Nat):A0 Tryz.prog 184 (Bnw N):=fun args h res e hh=>by
 change Agb N args h (fun v e=>some (v,e))=_ at hh
 unfold Agb at hh;split at hh
 exact Aa (T:=Avq N) trivial follows ((A21 ..).trans hh)
 cases hh
def Ab8 (N:Nat)  (r0:LA→Option R) (b a:Int) (d:Nat) (e:LA) (k0:Int→LA→Option R)  (c:Int) (f:LA):Option R :=
 (cond (decide (c<a)) (cond (Ak c d) (rdS (List.drop (0+((Int.toNat c)*1)) e) fun m=>(cond (Ak a d) (rdS (List.drop (0+((Int.toNat a)*1)) e) fun o=>(Ab N (!(m==o)) b a 0 10 f (fun p=>(k0 (IntKind.wrap .i64 (c+(1:Int))) p)))) none)) none) (r0 f))
def Q3 (N:Nat)  (r0:LA→Option R) (b a:Int) (d:Nat) (e:LA):Nat→Int→LA→Option R
 | 0,_,_=>none
 | n+1,c,f=>(Ab8 N r0 b a d e (Q3 N r0 b a d e n) c f)
def Anc (N:Nat) (r0:LA→Option R) (q0:Nat→LA→Int→LA→Option R) (g:LA) (i:Bool) (b a:Int) (j:LA):Option R :=
 (cond (Nat.ble 8 (List.length g)) (Aqw N (List.take 8 g) i b (fun d e=>(cond (Ak a d) (rdS (List.drop (0+((Int.toNat a)*1)) e) fun q=>(Bgd N q (fun r=>(Ab N r b a 0 9 j (fun t=>(q0 d e 0 t)))))) none))) none)
def And (N:Nat) (g:LA) (i:Bool) (b a:Int) (j:LA) (r0:LA→Option R):Option R:=(Anc N r0 (fun d e c f=>(Q3 N r0 b a d e N c f)) g i b a j)
def C6:=(Aj (@And R)).1
theorem A22:@C6 R=@And R:=(Aj _).2
def Jg:Hints:={ H:=(hS (hR [0,2,3,5]) (hS (hR [0,2,3,8]) (hS (hR [0,2,3,8]) (hS (hR [0,2,3,8,9]) (hS (hN [0,2,3,8,9] (hS (hS (hR [0,2,3,8,9,24]) (hN [0,2,3,8,9] hL hL)) (hS (hN [0,2,3,8,9] (hR [0,2,3,8,9]) hL) (hR [0,2,3,8,9]))) hL) hL))))),nils:=[],modes:=[],free:=[],cob:=[] }
def Lr (N:Nat):List (Nat×Tw):=[(182,Avp N),(184,Bnw N),(155,Bd N)]
def Ls (N:Nat):Env:=mkE 40 Jg (Lr N)
def A23 (N:Nat) (F:KF R):=Ar (Ls N) Tryz.f153 Jg.modes [100000] F
def Adx (N:Nat) (F:KF R):=atF (Ls N) [100000] N Tryz.f153 Jg (A23 N F)
def Fw  (F:KF R):LA→Option R:=(fun u=>F (.tup []) [(100000,⟨false,false,true,false,0,u,false⟩)])
def D9 (b a:Int) (d:Nat) (e:LA) (c:Int) (f:LA):St:={ s:=[(0,(.optr 100000 0)),(2,(.int .i64 b)),(3,(.int .i64 a)),(8,(.own 300000 0 d)),(9,(.int .i64 c))],h:=[(100000,⟨false,false,true,false,0,f,false⟩),(300000,⟨false,false,true,false,1,e,false⟩)] }
def Ady (N:Nat) (F:KF R):St→Option R:=A4 (Ls N) [100000] N (Adx N F [1,1,1,1,0] []) N
def Jh (N:Nat) (F:KF R) (n:Nat):St→Option R:=Av (Ls N) [100000] N (Adx N F [1,1,1,1,0] []) n
theorem Avr (N:Nat)  (F:KF R) (b a:Int) (d:Nat) (e:LA):∀ (n:Nat) (c:Int) (f:LA),Jh N F n (D9 b a d e c f)=(Q3 N (Fw F) b a d e n c f):=by
 intro n
 induction n with
 | zero=>intros;kernel_rfl
 | succ n ih =>
  intro c f
  have e0:=funext fun c=>funext fun f=>(show Jh N F n (D9 b a d e c f)=_ from ih c f)
  have hK:Jh N F (n+1) (D9 b a d e c f)=(Ab8 N (Fw F) b a d e (fun c f=>Jh N F n (D9 b a d e c f)) c f):=by kernel_rfl
  exact hK.trans (by rw [e0];rfl)
theorem Q4 (N:Nat) (g:LA) (i:Bool) (b a:Int) (j:LA) (F:KF R):Ac Tryz.prog muts (Lr N) Jg N 153 [(.optr 100000 0),(.pagg g i),(.int .i64 b),(.int .i64 a)] [(100000,⟨false,false,true,false,0,j,false⟩)] F=(C6 N g i b a j (Fw F)):=by
 have e1:=funext fun d=>funext fun e=>funext fun c=>funext fun f=>(show Ady N F (D9 b a d e c f)=_ from (An ..).trans (Avr N F b a d e N c f))
 have hK:Ac Tryz.prog muts (Lr N) Jg N 153 [(.optr 100000 0),(.pagg g i),(.int .i64 b),(.int .i64 a)] [(100000,⟨false,false,true,false,0,j,false⟩)] F=(Anc N (Fw F) (fun d e c f=>Ady N F (D9 b a d e c f)) g i b a j):=by kernel_rfl
 rw [A22]
 exact hK.trans (by rw [e1];rfl)
def Ig (N:Nat) (args:List AV) (h:Al) (k:KF R):Option R :=
 match args,h with
 | [(.optr 100000 0),(.pagg g i),(.int .i64 b),(.int .i64 a)],[(100000,⟨false,false,true,false,0,j,false⟩)]=>(C6 N g i b a j (Fw k))
 | _,_=>none
def Dg (N:Nat):Tw:=⟨Ig N,fun args h k=>by
 unfold Ig;split
 exact twE (Q4 ..) (Q4 ..)
 rfl⟩
theorem Ea (N:Nat):A0 Tryz.prog 153 (Dg N):=fun args h res l hh=>by
 change Ig N args h (fun v l=>some (v,l))=_ at hh
 unfold Ig at hh;split at hh
 exact Aa (T:=Lr N) ⟨Bf8 N,B5g N,Bl N,trivial⟩ follows ((Q4 ..).trans hh)
 cases hh
def Aqy (N:Nat) (r0:LA→Option R)  (a:LA) (g:Bool) (b c d e:Int) (f:LA):Option R :=
 (rdL 3 (List.drop 2 a) fun o j=>(As N 0 (IntKind.wrap .i64 (((j:Nat):Int) - (1:Int))) [(.int .i64 b)] 1 false true (fun l=>(Ab N l c d e 12 f (fun m=>(r0 m))))))
def Aqz (N:Nat) (a:LA) (g:Bool) (b c d e:Int) (f:LA) (r0:LA→Option R):Option R:=(Aqy N r0 a g b c d e f)
def Eg:=(Aj (@Aqz R)).1
theorem A5u:@Eg R=@Aqz R:=(Aj _).2
def Aj6:Hints:={ H:=(hS (hR [0,2,3,4,5,7]) hL),nils:=[],modes:=[],free:=[],cob:=[] }
def W3 (N:Nat):List (Nat×Tw):=[(156,Cg N),(155,Bd N)]
def Ts  (F:KF R):LA→Option R:=(fun n=>F (.tup []) [(100000,⟨false,false,true,false,0,n,false⟩)])
theorem Tt (N:Nat) (a:LA) (g:Bool) (b c d e:Int) (f:LA) (F:KF R):Ac Tryz.prog muts (W3 N) Aj6 N 185 [(.optr 100000 0),(.pagg a g),(.int .i64 b),(.int .i64 c),(.int .i64 d),(.int .i64 e)] [(100000,⟨false,false,true,false,0,f,false⟩)] F=(Eg N a g b c d e f (Ts F)):=by
 have hK:Ac Tryz.prog muts (W3 N) Aj6 N 185 [(.optr 100000 0),(.pagg a g),(.int .i64 b),(.int .i64 c),(.int .i64 d),(.int .i64 e)] [(100000,⟨false,false,true,false,0,f,false⟩)] F=(Aqy N (Ts F) a g b c d e f):=by kernel_rfl
 rw [A5u]
 exact hK
def Ji (N:Nat) (args:List AV) (h:Al) (k:KF R):Option R :=
 match args,h with
 | [(.optr 100000 0),(.pagg a g),(.int .i64 b),(.int .i64 c),(.int .i64 d),(.int .i64 e)],[(100000,⟨false,false,true,false,0,f,false⟩)]=>(Eg N a g b c d e f (Ts k))
 | _,_=>none
def Hd (N:Nat):Tw:=⟨Ji N,fun args h k=>by
 unfold Ji;split
 exact twE (Tt ..) (Tt ..)
 rfl⟩
theorem Lt (N:Nat):A0 Tryz.prog 185 (Hd N):=fun args h res i hh=>by
 change Ji N args h (fun v i=>some (v,i))=_ at hh
 unfold Ji at hh;split at hh
 exact Aa (T:=W3 N) ⟨C0 N,Bl N,trivial⟩ follows ((Tt ..).trans hh)
 cases hh
def A77 (N:Nat) (r0:Bool→Option R)  (a:LA) (b:Bool):Option R :=
 (rdI .i64 (List.drop 1 a) fun d=>(As N 1 1048576 [(.int .i64 d)] 1 false true (fun e=>(cond (e==true) (rdI .i64 a fun f=>(As N (-1048576) 1048576 [(.int .i64 f)] 1 false true (fun g=>(r0 (cond true g false))))) (r0 false)))))
def A78 (N:Nat) (a:LA) (b:Bool) (r0:Bool→Option R):Option R:=(A77 N r0 a b)
def Lu:=(Aj (@A78 R)).1
theorem Bks:@Lu R=@A78 R:=(Aj _).2
def Axy:Hints:={ H:=(hS (hR [1]) (hS (hR [2]) hL)),nils:=[],modes:=[],free:=[],cob:=[] }
def Aj7 (N:Nat):List (Nat×Tw):=[(156,Cg N)]
def Add  (F:KF R):Bool→Option R:=(fun i=>F (.bool i) [])
theorem Ade (N:Nat) (a:LA) (b:Bool) (F:KF R):Ac Tryz.prog muts (Aj7 N) Axy N 186 [(.pagg a b)] [] F=(Lu N a b (Add F)):=by
 have hK:Ac Tryz.prog muts (Aj7 N) Axy N 186 [(.pagg a b)] [] F=(A77 N (Add F) a b):=by kernel_rfl
 rw [Bks]
 exact hK
def Qf (N:Nat) (args:List AV) (h:Al) (k:KF R):Option R :=
 match args,h with
 | [(.pagg a b)],[]=>(Lu N a b (Add k))
 | _,_=>none
def Adf (N:Nat):Tw:=⟨Qf N,fun args h k=>by
 unfold Qf;split
 exact twE (Ade ..) (Ade ..)
 rfl⟩
theorem Axz (N:Nat):A0 Tryz.prog 186 (Adf N):=fun args h res c hh=>by
 change Qf N args h (fun v c=>some (v,c))=_ at hh
 unfold Qf at hh;split at hh
 exact Aa (T:=Aj7 N) ⟨C0 N,trivial⟩ follows ((Ade ..).trans hh)
 cases hh
def A24 (N:Nat)  (r0:Bool→Option R) (b:LA) (a:Nat) (d e:Bool) (k0:Int→Option R)  (c:Int):Option R :=
 (cond (decide (c<((a:Nat):Int))) (cond (Ak c a) (rdI .i64 (List.drop ((Int.toNat c)*1) b) fun g=>(cond (Ak (IntKind.wrap .i64 (c - (1:Int))) a) (rdI .i64 (List.drop ((Int.toNat (IntKind.wrap .i64 (c - (1:Int))))*1) b) fun i=>(cond (decide (g≤i)) (r0 false) (k0 (IntKind.wrap .i64 (c+(1:Int)))))) none)) none) (r0 true))
def Ao9 (N:Nat)  (r0:Bool→Option R) (b:LA) (a:Nat) (d e:Bool):Nat→Int→Option R
 | 0,_=>none
 | n+1,c=>(A24 N r0 b a d e (Ao9 N r0 b a d e n) c)
def Bnx (N:Nat) (r0:Bool→Option R) (q0:Int→Option R) (b:LA) (a:Nat) (d e:Bool):Option R :=
 (q0 1)
def Bny (N:Nat) (b:LA) (a:Nat) (d e:Bool) (r0:Bool→Option R):Option R:=(Bnx N r0 (fun c=>(Ao9 N r0 b a d e N c)) b a d e)
def Zf:=(Aj (@Bny R)).1
theorem Bvq:@Zf R=@Bny R:=(Aj _).2
def Aa8:Hints:={ H:=(hS (hR [0]) (hS (hS (hR [0,3]) (hS (hN [0,3] (hS (hS (hR [0,3,7]) (hN [0,3] hL hL)) (hS (hN [0,3] (hS (hR [0,3,19]) (hN [0,3] (hS (hR [2]) hL) hL)) hL) (hR [0,3]))) hL) hL)) (hS (hR [2]) hL))),nils:=[],modes:=[],free:=[],cob:=[] }
def Agc (N:Nat):List (Nat×Tw):=[]
def Agd (N:Nat):Env:=mkE 20 Aa8 (Agc N)
def Bvr (N:Nat) (F:KF R):=Ar (Agd N) Tryz.f189 Aa8.modes [] F
def A79 (N:Nat) (F:KF R):=atF (Agd N) [] N Tryz.f189 Aa8 (Bvr N F)
def Rq  (F:KF R):Bool→Option R:=(fun j=>F (.bool j) [])
def Mx (b:LA) (a:Nat) (d e:Bool) (c:Int):St:={ s:=[(0,(.imm b a 1 d e)),(3,(.int .i64 c))],h:=[] }
def A8a (N:Nat) (F:KF R):St→Option R:=A4 (Agd N) [] N (A79 N F [1,0,1,0] []) N
def Aa9 (N:Nat) (F:KF R) (n:Nat):St→Option R:=Av (Agd N) [] N (A79 N F [1,0,1,0] []) n
theorem Bkt (N:Nat)  (F:KF R) (b:LA) (a:Nat) (d e:Bool):∀ (n:Nat) (c:Int),Aa9 N F n (Mx b a d e c)=(Ao9 N (Rq F) b a d e n c):=by
 intro n
 induction n with
 | zero=>intros;kernel_rfl
 | succ n ih =>
  intro c
  have e0:=funext fun c=>(show Aa9 N F n (Mx b a d e c)=_ from ih c)
  have hK:Aa9 N F (n+1) (Mx b a d e c)=(A24 N (Rq F) b a d e (fun c=>Aa9 N F n (Mx b a d e c)) c):=by kernel_rfl
  exact hK.trans (by rw [e0];rfl)
theorem Apa (N:Nat) (b:LA) (a:Nat) (d e:Bool) (F:KF R):Ac Tryz.prog muts (Agc N) Aa8 N 189 [(.imm b a 1 d e)] [] F=(Zf N b a d e (Rq F)):=by
 have e1:=funext fun c=>(show A8a N F (Mx b a d e c)=_ from (An ..).trans (Bkt N F b a d e N c))
 have hK:Ac Tryz.prog muts (Agc N) Aa8 N 189 [(.imm b a 1 d e)] [] F=(Bnx N (Rq F) (fun c=>A8a N F (Mx b a d e c)) b a d e):=by kernel_rfl
 rw [Bvq]
 exact hK.trans (by rw [e1];rfl)
def W4 (N:Nat) (args:List AV) (h:Al) (k:KF R):Option R :=
 match args,h with
 | [(.imm b a 1 d e)],[]=>(Zf N b a d e (Rq k))
 | _,_=>none
def Apb (N:Nat):Tw:=⟨W4 N,fun args h k=>by
 unfold W4;split
 exact twE (Apa ..) (Apa ..)
 rfl⟩
theorem A8b (N:Nat):A0 Tryz.prog 189 (Apb N):=fun args h res f hh=>by
 change W4 N args h (fun v f=>some (v,f))=_ at hh
 unfold W4 at hh;split at hh
 exact Aa (T:=Agc N) trivial follows ((Apa ..).trans hh)
 cases hh
def Ane (N:Nat) (r0:LA→Option R)  (g:LA) (j:Bool) (a:LA) (b:Nat) (l c:Bool) (d e f:Int) (i:LA):Option R :=
 (rdI .i64 g fun n=>(As N 0 (IntKind.wrap .i64 (n - (1:Int))) a b false c (fun o=>(Ab N o d e f 3 i (fun p=>(Zf N a b false c (fun q=>(Ab N q d e f 11 p (fun r=>(r0 r))))))))))
def Anf (N:Nat) (g:LA) (j:Bool) (a:LA) (b:Nat) (l c:Bool) (d e f:Int) (i:LA) (r0:LA→Option R):Option R:=(Ane N r0 g j a b l c d e f i)
def Kk:=(Aj (@Anf R)).1
theorem A25:@Kk R=@Anf R:=(Aj _).2
def Adz:Hints:={ H:=(hS (hR [0,2,3,4,5,7]) (hS (hR [0,2,3,4,5]) hL)),nils:=[],modes:=[],free:=[],cob:=[] }
def Tu (N:Nat):List (Nat×Tw):=[(156,Cg N),(155,Bd N),(189,Apb N)]
def Q5  (F:KF R):LA→Option R:=(fun s=>F (.tup []) [(100000,⟨false,false,true,false,0,s,false⟩)])
theorem Q6 (N:Nat) (g:LA) (j:Bool) (a:LA) (b:Nat) (l c:Bool) (d e f:Int) (i:LA) (F:KF R):Ac Tryz.prog muts (Tu N) Adz N 187 [(.optr 100000 0),(.pagg g j),(.imm a b 1 l c),(.int .i64 d),(.int .i64 e),(.int .i64 f)] [(100000,⟨false,false,true,false,0,i,false⟩)] F=(Kk N g j a b l c d e f i (Q5 F)):=by
 have hK:Ac Tryz.prog muts (Tu N) Adz N 187 [(.optr 100000 0),(.pagg g j),(.imm a b 1 l c),(.int .i64 d),(.int .i64 e),(.int .i64 f)] [(100000,⟨false,false,true,false,0,i,false⟩)] F=(Ane N (Q5 F) g j a b l c d e f i):=by kernel_rfl
 rw [A25]
 exact hK
def Ih (N:Nat) (args:List AV) (h:Al) (k:KF R):Option R :=
 match args,h with
 | [(.optr 100000 0),(.pagg g j),(.imm a b 1 l c),(.int .i64 d),(.int .i64 e),(.int .i64 f)],[(100000,⟨false,false,true,false,0,i,false⟩)]=>(Kk N g j a b l c d e f i (Q5 k))
 | _,_=>none
def Q8 (N:Nat):Tw:=⟨Ih N,fun args h k=>by
 unfold Ih;split
 exact twE (Q6 ..) (Q6 ..)
 rfl⟩
theorem Ad0 (N:Nat):A0 Tryz.prog 187 (Q8 N):=fun args h res m hh=>by
 change Ih N args h (fun v m=>some (v,m))=_ at hh
 unfold Ih at hh;split at hh
 exact Aa (T:=Tu N) ⟨C0 N,Bl N,A8b N,trivial⟩ follows ((Q6 ..).trans hh)
 cases hh
end
end Gx

namespace Gx
open Go Go.Proofs
set_option maxRecDepth 100000
noncomputable section
variable {R:Type}
def Ab9 (N:Nat)  (r0:LA→Option R) (a:Int) (b:Bool) (c d:LA)   (g:LA):Option R :=
 (rdI .i64 (List.drop 9 d) fun n=>(As N 0 1048576 [(.int .i64 n)] 1 false true (fun o=>(Ab N o 2 a 6 3 g (fun p=>(rdI .i64 (List.drop 9 d) fun q=>(rdI .i64 (List.drop 10 d) fun r=>(As N q 1048576 [(.int .i64 r)] 1 false true (fun t=>(Ab N t 2 a 7 3 p (fun u=>(cond (Nat.ble 8 (List.length c)) (rdL 1 (List.drop 11 d) fun w x=>(Kk N (List.take 8 c) b w x false b 2 a 8 u (fun y=>(r0 y)))) none))))))))))))
def Ad1 (N:Nat)  (r0:LA→Option R) (a:Int) (b:Bool) (c d g:LA):Option R:=(Ab9 N r0 a b c d g)
def Aca (N:Nat)  (r0:LA→Option R) (a:Int) (b:Bool) (c d:LA)  (q2:LA→Option R) (e:LA):Option R :=
 (cond (Nat.ble 2 (List.length (List.drop 7 d))) (cond ((!b)||(Bp (List.take 2 (List.drop 7 d)))) (Lu N (List.take 2 (List.drop 7 d)) false (fun z=>(cond (z==true) (rdI .i64 (List.drop 7 d) fun aa=>(Ab N (cond true (decide (aa≥(0:Int))) false) 2 a 5 3 e (fun ab=>(q2 ab)))) (Ab N false 2 a 5 3 e (fun ac=>(q2 ac)))))) none) none)
def Ad2 (N:Nat)  (r0:LA→Option R) (a:Int) (b:Bool) (c d e:LA):Option R:=(Aca N r0 a b c d (fun g=>(Ad1 N r0 a b c d g)) e)
def Acb (N:Nat)  (r0:LA→Option R) (a:Int) (b:Bool) (c:LA)  (q1:LA→Option R) (d f:LA):Option R :=
 (cond (Nat.ble 2 (List.length (List.drop 5 d))) (cond ((!b)||(Bp (List.take 2 (List.drop 5 d)))) (Lu N (List.take 2 (List.drop 5 d)) false (fun ad=>(cond (ad==true) (rdI .i64 (List.drop 5 d) fun ae=>(Ab N (cond true (decide (ae≤(0:Int))) false) 2 a 4 3 f (fun af=>(q1 af)))) (Ab N false 2 a 4 3 f (fun ag=>(q1 ag)))))) none) none)
def Ad3 (N:Nat)  (r0:LA→Option R) (a:Int) (b:Bool) (c d f:LA):Option R:=(Acb N r0 a b c (fun e=>(Ad2 N r0 a b c d e)) d f)
def Ang (N:Nat) (r0:LA→Option R) (q0:LA→LA→Option R) (c:LA) (b:Bool) (a:Int) (j:LA):Option R :=
 (rdL 12 (List.drop 3 c) fun i ah=>(cond (Ak a ah) (cond (Nat.ble 12 (List.length (List.drop ((Int.toNat a)*12) i))) (cond ((Nat.beq 0 0)&&((Nat.beq (List.length (List.take 12 (List.drop ((Int.toNat a)*12) i))) 12)&&(Nat.beq 12 12))) (cond (Nat.ble 8 (List.length c)) (C6 N (List.take 8 c) b 2 a j (fun ai=>(cond (Nat.ble 8 (List.length c)) (rdI .i64 (List.drop 1 (List.take 12 (List.drop ((Int.toNat a)*12) i))) fun aj=>(Eg N (List.take 8 c) b aj 2 a 1 ai (fun ak=>(cond (Nat.ble 8 (List.length c)) (rdI .i64 (List.drop 2 (List.take 12 (List.drop ((Int.toNat a)*12) i))) fun al=>(Eg N (List.take 8 c) b al 2 a 2 ak (fun am=>(rdI .i64 (List.drop 1 (List.take 12 (List.drop ((Int.toNat a)*12) i))) fun an=>(rdI .i64 (List.drop 2 (List.take 12 (List.drop ((Int.toNat a)*12) i))) fun ao=>(Ab N (an != ao) 2 a 2 1 am (fun l=>(cond (Nat.ble 2 (List.length (List.drop 3 (List.take 12 (List.drop ((Int.toNat a)*12) i))))) (cond ((!b)||(Bp (List.take 2 (List.drop 3 (List.take 12 (List.drop ((Int.toNat a)*12) i)))))) (Lu N (List.take 2 (List.drop 3 (List.take 12 (List.drop ((Int.toNat a)*12) i)))) false (fun ap=>(cond (ap==true) (rdI .i64 (List.drop 3 (List.take 12 (List.drop ((Int.toNat a)*12) i))) fun aq=>(Ab N (cond true (decide (aq>(0:Int))) false) 2 a 3 3 l (fun ar=>(q0 (List.take 12 (List.drop ((Int.toNat a)*12) i)) ar)))) (Ab N false 2 a 3 3 l (fun au=>(q0 (List.take 12 (List.drop ((Int.toNat a)*12) i)) au)))))) none) none)))))))) none)))) none))) none) none) none) none))
def Anh (N:Nat) (c:LA) (b:Bool) (a:Int) (j:LA) (r0:LA→Option R):Option R:=(Ang N r0 (fun d f=>(Ad3 N r0 a b c d f)) c b a j)
def Qg:=(Aj (@Anh R)).1
theorem A26:@Qg R=@Anh R:=(Aj _).2
def Jj:Hints:={ H:=(hS (hR [0,2,4]) (hS (hR [0,2,4,6,7]) (hS (hR [0,2,4,6,7]) (hS (hR [0,2,4,6,7]) (hS (hR [0,2,4,6,7]) (hS (hR [0,2,4,6,7]) (hJ (hR [0,2,4,6,7]) (hJ (hR [0,2,4,6,7]) (hJ (hR [0,2,4,6,7]) (hS (hR [0,2,4,6,7]) (hS (hR [0,2,4,6,7]) hL))))))))))),nils:=[],modes:=[],free:=[],cob:=[] }
def Lv (N:Nat):List (Nat×Tw):=[(153,Dg N),(185,Hd N),(155,Bd N),(186,Adf N),(156,Cg N),(187,Q8 N)]
def C2 (N:Nat):Env:=mkE 105 Jj (Lv N)
def A27 (N:Nat) (F:KF R):=Ar (C2 N) Tryz.f157 Jj.modes [100000] F
def Eb (N:Nat) (F:KF R):=atF (C2 N) [100000] N Tryz.f157 Jj (A27 N F)
def B4  (F:KF R):LA→Option R:=(fun av=>F (.tup []) [(100000,⟨false,false,true,false,0,av,false⟩)])
def Jk (a:Int) (b:Bool) (c d g:LA):St:={ s:=[(0,(.optr 100000 0)),(2,(.int .i64 a)),(4,(.optr 64 0)),(6,(.optr 96 0)),(7,(.int .i64 2))],h:=[(64,⟨false,false,true,b,0,c,false⟩),(96,⟨false,false,true,b,0,d,false⟩),(100000,⟨false,false,true,false,0,g,false⟩)] }
def Ad4 (N:Nat) (F:KF R):St→Option R:=Bh (C2 N) [100000] N (Eb N F [1,1,1,1,1,1,1,1,1] [])
def Ad5 (N:Nat) (F:KF R):St→Option R:=Bk (C2 N) [100000] N (Eb N F [1,1,1,1,1,1,1,1,1] [])
def Jl (a:Int) (b:Bool) (c d e:LA):St:={ s:=[(0,(.optr 100000 0)),(2,(.int .i64 a)),(4,(.optr 64 0)),(6,(.optr 96 0)),(7,(.int .i64 2))],h:=[(64,⟨false,false,true,b,0,c,false⟩),(96,⟨false,false,true,b,0,d,false⟩),(100000,⟨false,false,true,false,0,e,false⟩)] }
def Ad6 (N:Nat) (F:KF R):St→Option R:=Bh (C2 N) [100000] N (Eb N F [1,1,1,1,1,1,1,1] [])
def Ad7 (N:Nat) (F:KF R):St→Option R:=Bk (C2 N) [100000] N (Eb N F [1,1,1,1,1,1,1,1] [])
def Jm (a:Int) (b:Bool) (c d f:LA):St:={ s:=[(0,(.optr 100000 0)),(2,(.int .i64 a)),(4,(.optr 64 0)),(6,(.optr 96 0)),(7,(.int .i64 2))],h:=[(64,⟨false,false,true,b,0,c,false⟩),(96,⟨false,false,true,b,0,d,false⟩),(100000,⟨false,false,true,false,0,f,false⟩)] }
def Ad8 (N:Nat) (F:KF R):St→Option R:=Bh (C2 N) [100000] N (Eb N F [1,1,1,1,1,1,1] [])
def Ad9 (N:Nat) (F:KF R):St→Option R:=Bk (C2 N) [100000] N (Eb N F [1,1,1,1,1,1,1] [])
theorem Avs (N:Nat)  (F:KF R) (a:Int) (b:Bool) (c d:LA):∀ (g:LA),Ad5 N F (Jk a b c d g)=(Ad1 N (B4 F) a b c d g):=by
 intro g
 have hK:Ad5 N F (Jk a b c d g)=(Ab9 N (B4 F) a b c d g):=by kernel_rfl
 exact hK
theorem Avt (N:Nat)  (F:KF R) (a:Int) (b:Bool) (c d:LA):∀ (e:LA),Ad7 N F (Jl a b c d e)=(Ad2 N (B4 F) a b c d e):=by
 intro e
 have e1:=funext fun g=>(show Ad4 N F (Jk a b c d g)=_ from (Au ..).trans (Avs N F a b c d g))
 have hK:Ad7 N F (Jl a b c d e)=(Aca N (B4 F) a b c d (fun g=>Ad4 N F (Jk a b c d g)) e):=by kernel_rfl
 exact hK.trans (by rw [e1];rfl)
theorem Avu (N:Nat)  (F:KF R) (a:Int) (b:Bool) (c:LA):∀ (d f:LA),Ad9 N F (Jm a b c d f)=(Ad3 N (B4 F) a b c d f):=by
 intro d f
 have e1:=funext fun e=>(show Ad6 N F (Jl a b c d e)=_ from (Au ..).trans (Avt N F a b c d e))
 have hK:Ad9 N F (Jm a b c d f)=(Acb N (B4 F) a b c (fun e=>Ad6 N F (Jl a b c d e)) d f):=by kernel_rfl
 exact hK.trans (by rw [e1];rfl)
theorem Ra (N:Nat) (c:LA) (b:Bool) (a:Int) (j:LA) (F:KF R):Ac Tryz.prog muts (Lv N) Jj N 157 [(.optr 100000 0),(.pagg c b),(.int .i64 a)] [(100000,⟨false,false,true,false,0,j,false⟩)] F=(Qg N c b a j (B4 F)):=by
 have e1:=funext fun d=>funext fun f=>(show Ad8 N F (Jm a b c d f)=_ from (Au ..).trans (Avu N F a b c d f))
 have hK:Ac Tryz.prog muts (Lv N) Jj N 157 [(.optr 100000 0),(.pagg c b),(.int .i64 a)] [(100000,⟨false,false,true,false,0,j,false⟩)] F=(Ang N (B4 F) (fun d f=>Ad8 N F (Jm a b c d f)) c b a j):=by kernel_rfl
 rw [A26]
 exact hK.trans (by rw [e1];rfl)
def Ii (N:Nat) (args:List AV) (h:Al) (k:KF R):Option R :=
 match args,h with
 | [(.optr 100000 0),(.pagg c b),(.int .i64 a)],[(100000,⟨false,false,true,false,0,j,false⟩)]=>(Qg N c b a j (B4 k))
 | _,_=>none
def Aea (N:Nat):Tw:=⟨Ii N,fun args h k=>by
 unfold Ii;split
 exact twE (Ra ..) (Ra ..)
 rfl⟩
theorem A5v (N:Nat):A0 Tryz.prog 157 (Aea N):=fun args h res m hh=>by
 change Ii N args h (fun v m=>some (v,m))=_ at hh
 unfold Ii at hh;split at hh
 exact Aa (T:=Lv N) ⟨Ea N,Lt N,Bl N,Axz N,C0 N,Ad0 N,trivial⟩ follows ((Ra ..).trans hh)
 cases hh
def Rr (N:Nat)  (r0:LA→Option R) (b:Int) (d:LA) (c:Bool) (a:LA) (k2:Int→Int→Option R)  (j g:Int):Option R :=
 (rdL 2 (List.drop 4 a) fun bb r=>(cond ((decide (g<((r:Nat):Int)))==true) (rdI .i64 (List.drop 3 d) fun t=>(cond (cond true (t==(0:Int)) false) (rdL 2 (List.drop 4 a) fun u w=>(cond (Ak g w) (rdI .i64 (List.drop ((Int.toNat g)*2) u) fun x=>(k2 (IntKind.wrap .i64 (j+x)) (IntKind.wrap .i64 (g+(1:Int))))) none)) (rdI .i64 (List.drop 3 d) fun y=>(cond ((y != (0:Int))==false) (rdI .i64 (List.drop 3 a) fun z=>(rdI .i64 (List.drop 2 a) fun aa=>(Ab N (cond false true (j==(IntKind.wrap .i64 (z - aa)))) 3 b 4 4 d (fun ab=>(r0 ab))))) (Ab N true 3 b 4 4 d (fun ac=>(r0 ac))))))) (rdI .i64 (List.drop 3 d) fun ad=>(cond ((ad != (0:Int))==false) (rdI .i64 (List.drop 3 a) fun ae=>(rdI .i64 (List.drop 2 a) fun af=>(Ab N (cond false true (j==(IntKind.wrap .i64 (ae - af)))) 3 b 4 4 d (fun ag=>(r0 ag))))) (Ab N true 3 b 4 4 d (fun ah=>(r0 ah)))))))
def Kl (N:Nat)  (r0:LA→Option R) (b:Int) (d:LA) (c:Bool) (a:LA):Nat→Int→Int→Option R
 | 0,_,_=>none
 | n+1,j,g=>(Rr N r0 b d c a (Kl N r0 b d c a n) j g)
def Rs (N:Nat)  (r0:LA→Option R) (b:Int) (c:Bool) (a:LA) (k1:Int→LA→Option R) (q2:Int→Int→Option R) (f:Int) (d:LA):Option R :=
 (rdL 2 (List.drop 4 a) fun bc ai=>(cond (decide (f<((ai:Nat):Int))) (rdL 2 (List.drop 4 a) fun aj ak=>(cond (Ak f ak) (rdI .i64 (List.drop 1 (List.drop ((Int.toNat f)*2) aj)) fun al=>(rdL 2 (List.drop 4 a) fun am an=>(cond (Ak (IntKind.wrap .i64 (f - (1:Int))) an) (rdI .i64 (List.drop 1 (List.drop ((Int.toNat (IntKind.wrap .i64 (f - (1:Int))))*2) am)) fun ao=>(Ab N (decide (al≥ao)) 3 b 4 11 d (fun ap=>(k1 (IntKind.wrap .i64 (f+(1:Int))) ap)))) none))) none)) (q2 0 0)))
def Km (N:Nat)  (r0:LA→Option R) (b:Int) (c:Bool) (a:LA):Nat→Int→LA→Option R
 | 0,_,_=>none
 | n+1,f,d=>(Rs N r0 b c a (Km N r0 b c a n) (fun j g=>(Kl N r0 b d c a N j g)) f d)
def Rt (N:Nat)  (r0:LA→Option R) (b:Int) (i:LA) (o:Nat) (c:Bool) (a:LA) (k0:Int→Int→LA→Option R) (q1:Int→LA→Option R) (l e:Int) (m:LA):Option R :=
 (cond (decide (e<l)) (cond (Ak e o) (cond (Nat.ble 2 (List.length (List.drop ((Int.toNat e)*2) i))) (cond ((!c)||(Bp (List.take 2 (List.drop ((Int.toNat e)*2) i)))) (cond ((Nat.beq (List.length (List.take 2 (List.drop ((Int.toNat e)*2) i))) 2)&&((Nat.ble 2 2)&&(!false))) (rdI .i64 (setCells [(.int .i64 0),(.int .i64 0)] 0 (List.take 2 (List.drop ((Int.toNat e)*2) i))) fun aq=>(As N 1 1048576 [(.int .i64 aq)] 1 false true (fun ar=>(cond (ar==true) (rdI .i64 (List.drop 1 (setCells [(.int .i64 0),(.int .i64 0)] 0 (List.take 2 (List.drop ((Int.toNat e)*2) i)))) fun au=>(As N (-1048576) 1048576 [(.int .i64 au)] 1 false true (fun av=>(Ab N (cond true av false) 3 b 4 3 m (fun aw=>(k0 l (IntKind.wrap .i64 (e+(1:Int))) aw)))))) (Ab N false 3 b 4 3 m (fun ax=>(k0 l (IntKind.wrap .i64 (e+(1:Int))) ax))))))) none) none) none) none) (q1 1 m))
def Kn (N:Nat)  (r0:LA→Option R) (b:Int) (i:LA) (o:Nat) (c:Bool) (a:LA):Nat→Int→Int→LA→Option R
 | 0,_,_,_=>none
 | n+1,l,e,m=>(Rt N r0 b i o c a (Kn N r0 b i o c a n) (fun f d=>(Km N r0 b c a N f d)) l e m)
def Xo (N:Nat) (r0:LA→Option R) (q0:LA→Nat→Int→Int→LA→Option R) (a:LA) (c:Bool) (b:Int) (p:LA):Option R :=
 (rdL 2 (List.drop 4 a) fun bd ay=>(Ab N (decide (((ay:Nat):Int)≤(8:Int))) 3 b 4 8 p (fun az=>(rdL 2 (List.drop 4 a) fun i o=>(q0 i o ((o:Nat):Int) 0 az)))))
def Xp (N:Nat) (a:LA) (c:Bool) (b:Int) (p:LA) (r0:LA→Option R):Option R:=(Xo N r0 (fun i o l e m=>(Kn N r0 b i o c a N l e m)) a c b p)
def Ij:=(Aj (@Xp R)).1
theorem Apc:@Ij R=@Xp R:=(Aj _).2
def Fc:Hints:={ H:=(hS (hR [0,2,4]) (hS (hR [0,2,4,6]) (hS (hR [0,2,4,6]) (hS (hS (hR [0,2,4,6,21,22,23]) (hN [0,2,4,6] (hN [0,2,4,6,21,22,23] (hS (hR [0,2,4,6,21,22,23,24]) (hS (hN [0,2,4,6,21,22,23] hL hL) (hS (hN [0,2,4,6,21,22,23] (hS (hR [0,2,4,6,8,21,22,23]) (hR [0,2,4,6,21,22,23])) hL) (hR [0,2,4,6,21,22,23])))) hL) hL)) (hS (hS (hR [0,2,4,6,9]) (hN [0,2,4,6] (hN [0,2,4,6,9] (hS (hS (hR [0,2,4,6,9,46]) (hN [0,2,4,6,9] hL hL)) (hS (hN [0,2,4,6,9] (hR [0,2,4,6,9]) hL) (hR [0,2,4,6,9]))) hL) hL)) (hS (hR [0,2,4,6,10]) (hS (hS (hR [0,2,4,6,10,11]) (hN [0,2,4,6,10] (hN [0,2,4,6,10,11] (hS (hS (hR [0,2,4,6,10,11,78]) (hN [0,2,4,6,10,11] hL hL)) (hS (hN [0,2,4,6,10,11] (hR [0,2,4,6,10,11]) hL) (hR [0,2,4,6,10,11]))) hL) hL)) hL))))))),nils:=[],modes:=[],free:=[],cob:=[] }
def F5 (N:Nat):List (Nat×Tw):=[(155,Bd N),(156,Cg N)]
def Bz (N:Nat):Env:=mkE 107 Fc (F5 N)
def Apd (N:Nat) (F:KF R):=Ar (Bz N) Tryz.f188 Fc.modes [100000] F
def Cq (N:Nat) (F:KF R):=atF (Bz N) [100000] N Tryz.f188 Fc (Apd N F)
def Bf  (F:KF R):LA→Option R:=(fun ba=>F (.tup []) [(100000,⟨false,false,true,false,0,ba,false⟩)])
def Cr (b:Int) (d:LA) (c:Bool) (a:LA) (j g:Int):St:={ s:=[(0,(.optr 100000 0)),(2,(.int .i64 b)),(4,(.optr 300000 0)),(6,(.int .i64 3)),(10,(.int .i64 j)),(11,(.int .i64 g))],h:=[(100000,⟨false,false,true,false,0,d,false⟩),(300000,⟨false,false,true,c,0,a,false⟩)] }
def Uj (N:Nat) (F:KF R):St→Option R:=A4 (Bz N) [100000] N (Cq N F [1,1,1,1,1,1,0,1,0] []) N
def Fd (N:Nat) (F:KF R) (n:Nat):St→Option R:=Av (Bz N) [100000] N (Cq N F [1,1,1,1,1,1,0,1,0] []) n
def Cs (b:Int) (c:Bool) (a:LA) (f:Int) (d:LA):St:={ s:=[(0,(.optr 100000 0)),(2,(.int .i64 b)),(4,(.optr 300000 0)),(6,(.int .i64 3)),(9,(.int .i64 f))],h:=[(100000,⟨false,false,true,false,0,d,false⟩),(300000,⟨false,false,true,c,0,a,false⟩)] }
def Uk (N:Nat) (F:KF R):St→Option R:=A4 (Bz N) [100000] N (Cq N F [1,1,1,1,0,1,0] []) N
def Fe (N:Nat) (F:KF R) (n:Nat):St→Option R:=Av (Bz N) [100000] N (Cq N F [1,1,1,1,0,1,0] []) n
def Ct (b:Int) (i:LA) (o:Nat) (c:Bool) (a:LA) (l e:Int) (m:LA):St:={ s:=[(0,(.optr 100000 0)),(2,(.int .i64 b)),(4,(.optr 300000 0)),(6,(.int .i64 3)),(21,(.imm i o 2 false c)),(22,(.int .i64 l)),(23,(.int .i64 e))],h:=[(100000,⟨false,false,true,false,0,m,false⟩),(300000,⟨false,false,true,c,0,a,false⟩)] }
def Ul (N:Nat) (F:KF R):St→Option R:=A4 (Bz N) [100000] N (Cq N F [1,1,1,0,1,0] []) N
def Ff (N:Nat) (F:KF R) (n:Nat):St→Option R:=Av (Bz N) [100000] N (Cq N F [1,1,1,0,1,0] []) n
theorem Aj8 (N:Nat)  (F:KF R) (b:Int) (d:LA) (c:Bool) (a:LA):∀ (n:Nat) (j g:Int),Fd N F n (Cr b d c a j g)=(Kl N (Bf F) b d c a n j g):=by
 intro n
 induction n with
 | zero=>intros;kernel_rfl
 | succ n ih =>
  intro j g
  have e0:=funext fun j=>funext fun g=>(show Fd N F n (Cr b d c a j g)=_ from ih j g)
  have hK:Fd N F (n+1) (Cr b d c a j g)=(Rr N (Bf F) b d c a (fun j g=>Fd N F n (Cr b d c a j g)) j g):=by kernel_rfl
  exact hK.trans (by rw [e0];rfl)
theorem Aj9 (N:Nat)  (F:KF R) (b:Int) (c:Bool) (a:LA):∀ (n:Nat) (f:Int) (d:LA),Fe N F n (Cs b c a f d)=(Km N (Bf F) b c a n f d):=by
 intro n
 induction n with
 | zero=>intros;kernel_rfl
 | succ n ih =>
  intro f d
  have e0:=funext fun f=>funext fun d=>(show Fe N F n (Cs b c a f d)=_ from ih f d)
  have e1:=funext fun j=>funext fun g=>(show Uj N F (Cr b d c a j g)=_ from (An ..).trans (Aj8 N F b d c a N j g))
  have hK:Fe N F (n+1) (Cs b c a f d)=(Rs N (Bf F) b c a (fun f d=>Fe N F n (Cs b c a f d)) (fun j g=>Uj N F (Cr b d c a j g)) f d):=by kernel_rfl
  exact hK.trans (by rw [e0,e1];rfl)
theorem Aka (N:Nat)  (F:KF R) (b:Int) (i:LA) (o:Nat) (c:Bool) (a:LA):∀ (n:Nat) (l e:Int) (m:LA),Ff N F n (Ct b i o c a l e m)=(Kn N (Bf F) b i o c a n l e m):=by
 intro n
 induction n with
 | zero=>intros;kernel_rfl
 | succ n ih =>
  intro l e m
  have e0:=funext fun l=>funext fun e=>funext fun m=>(show Ff N F n (Ct b i o c a l e m)=_ from ih l e m)
  have e1:=funext fun f=>funext fun d=>(show Uk N F (Cs b c a f d)=_ from (An ..).trans (Aj9 N F b c a N f d))
  have hK:Ff N F (n+1) (Ct b i o c a l e m)=(Rt N (Bf F) b i o c a (fun l e m=>Ff N F n (Ct b i o c a l e m)) (fun f d=>Uk N F (Cs b c a f d)) l e m):=by kernel_rfl
  exact hK.trans (by rw [e0,e1];rfl)
theorem Ko (N:Nat) (a:LA) (c:Bool) (b:Int) (p:LA) (F:KF R):Ac Tryz.prog muts (F5 N) Fc N 188 [(.optr 100000 0),(.pagg a c),(.int .i64 b)] [(100000,⟨false,false,true,false,0,p,false⟩)] F=(Ij N a c b p (Bf F)):=by
 have e1:=funext fun i=>funext fun o=>funext fun l=>funext fun e=>funext fun m=>(show Ul N F (Ct b i o c a l e m)=_ from (An ..).trans (Aka N F b i o c a N l e m))
 have hK:Ac Tryz.prog muts (F5 N) Fc N 188 [(.optr 100000 0),(.pagg a c),(.int .i64 b)] [(100000,⟨false,false,true,false,0,p,false⟩)] F=(Xo N (Bf F) (fun i o l e m=>Ul N F (Ct b i o c a l e m)) a c b p):=by kernel_rfl
 rw [Apc]
 exact hK.trans (by rw [e1];rfl)
def Ev (N:Nat) (args:List AV) (h:Al) (k:KF R):Option R :=
 match args,h with
 | [(.optr 100000 0),(.pagg a c),(.int .i64 b)],[(100000,⟨false,false,true,false,0,p,false⟩)]=>(Ij N a c b p (Bf k))
 | _,_=>none
def Um (N:Nat):Tw:=⟨Ev N,fun args h k=>by
 unfold Ev;split
 exact twE (Ko ..) (Ko ..)
 rfl⟩
theorem Aq0 (N:Nat):A0 Tryz.prog 188 (Um N):=fun args h res q hh=>by
 change Ev N args h (fun v q=>some (v,q))=_ at hh
 unfold Ev at hh;split at hh
 exact Aa (T:=F5 N) ⟨Bl N,C0 N,trivial⟩ follows ((Ko ..).trans hh)
 cases hh
def Acc (N:Nat)  (r0:LA→Option R) (a:Int) (b:Bool) (c:LA)   (e:LA):Option R :=
 (rdI .i64 (List.drop 19 c) fun n=>(cond (n==(2:Int)) (rdI .i64 (List.drop 2 c) fun o=>(rdI .i64 (List.drop 3 c) fun p=>(rdI .i64 (List.drop 21 c) fun q=>(As N o p [(.int .i64 q)] 1 false true (fun r=>(Ab N r 3 a 21 3 e (fun t=>(r0 t)))))))) (rdI .i64 (List.drop 21 c) fun u=>(Ab N (u==(0:Int)) 3 a 21 3 e (fun w=>(r0 w))))))
def Aeb (N:Nat)  (r0:LA→Option R) (a:Int) (b:Bool) (c e:LA):Option R:=(Acc N r0 a b c e)
def Acd (N:Nat)  (r0:LA→Option R) (a:Int) (b:Bool)  (q1:LA→Option R) (c f:LA):Option R :=
 (rdI .i64 (List.drop 20 c) fun x=>(As N 1 48 [(.int .i64 x)] 1 false true (fun y=>(Ab N y 3 a 20 3 f (fun j=>(rdI .i64 (List.drop 19 c) fun z=>(cond ((z != (1:Int))==false) (rdI .i64 (List.drop 20 c) fun aa=>(rdI .i64 (List.drop 12 c) fun ab=>(Ab N (cond false true (decide (aa≤ab))) 3 a 20 3 j (fun ac=>(q1 ac))))) (Ab N true 3 a 20 3 j (fun ad=>(q1 ad))))))))))
def Aec (N:Nat)  (r0:LA→Option R) (a:Int) (b:Bool) (c f:LA):Option R:=(Acd N r0 a b (fun e=>(Aeb N r0 a b c e)) c f)
def Ani (N:Nat) (r0:LA→Option R) (q0:LA→LA→Option R) (g:LA) (b:Bool) (a:Int) (i:LA):Option R :=
 (rdL 22 (List.drop 4 g) fun d ae=>(cond (Ak a ae) (cond (Nat.ble 22 (List.length (List.drop ((Int.toNat a)*22) d))) (cond ((Nat.beq 0 0)&&((Nat.beq (List.length (List.take 22 (List.drop ((Int.toNat a)*22) d))) 22)&&(Nat.beq 22 22))) (cond (Nat.ble 8 (List.length g)) (C6 N (List.take 8 g) b 3 a i (fun af=>(cond (Nat.ble 8 (List.length g)) (rdI .i64 (List.drop 1 (List.take 22 (List.drop ((Int.toNat a)*22) d))) fun ag=>(Eg N (List.take 8 g) b ag 3 a 1 af (fun ah=>(rdI .i64 (List.drop 2 (List.take 22 (List.drop ((Int.toNat a)*22) d))) fun ai=>(As N 0 1048576 [(.int .i64 ai)] 1 false true (fun aj=>(Ab N aj 3 a 2 3 ah (fun ak=>(rdI .i64 (List.drop 2 (List.take 22 (List.drop ((Int.toNat a)*22) d))) fun al=>(rdI .i64 (List.drop 3 (List.take 22 (List.drop ((Int.toNat a)*22) d))) fun am=>(As N al 1048576 [(.int .i64 am)] 1 false true (fun an=>(Ab N an 3 a 3 3 ak (fun ao=>(cond (Nat.ble 22 (List.length (List.take 22 (List.drop ((Int.toNat a)*22) d)))) (Ij N (List.take 22 (List.take 22 (List.drop ((Int.toNat a)*22) d))) b a ao (fun ap=>(rdI .i64 (List.drop 5 (List.take 22 (List.drop ((Int.toNat a)*22) d))) fun aq=>(As N 0 1048576 [(.int .i64 aq)] 1 false true (fun ar=>(Ab N ar 3 a 5 3 ap (fun au=>(rdI .i64 (List.drop 6 (List.take 22 (List.drop ((Int.toNat a)*22) d))) fun av=>(As N 0 1048576 [(.int .i64 av)] 1 false true (fun aw=>(Ab N aw 3 a 6 3 au (fun ax=>(rdI .i64 (List.drop 7 (List.take 22 (List.drop ((Int.toNat a)*22) d))) fun ay=>(As N 0 1048576 [(.int .i64 ay)] 1 false true (fun az=>(Ab N az 3 a 7 3 ax (fun ba=>(rdI .i64 (List.drop 2 (List.take 22 (List.drop ((Int.toNat a)*22) d))) fun bb=>(rdI .i64 (List.drop 3 (List.take 22 (List.drop ((Int.toNat a)*22) d))) fun bc=>(rdI .i64 (List.drop 8 (List.take 22 (List.drop ((Int.toNat a)*22) d))) fun bd=>(As N bb bc [(.int .i64 bd)] 1 false true (fun be=>(Ab N be 3 a 8 3 ba (fun bf=>(rdI .i64 (List.drop 2 (List.take 22 (List.drop ((Int.toNat a)*22) d))) fun bg=>(rdI .i64 (List.drop 3 (List.take 22 (List.drop ((Int.toNat a)*22) d))) fun bh=>(rdI .i64 (List.drop 9 (List.take 22 (List.drop ((Int.toNat a)*22) d))) fun bi=>(As N bg bh [(.int .i64 bi)] 1 false true (fun bj=>(Ab N bj 3 a 9 3 bf (fun bk=>(rdI .i64 (List.drop 10 (List.take 22 (List.drop ((Int.toNat a)*22) d))) fun bl=>(As N 0 24 [(.int .i64 bl)] 1 false true (fun bm=>(Ab N bm 3 a 10 3 bk (fun bn=>(rdI .i64 (List.drop 11 (List.take 22 (List.drop ((Int.toNat a)*22) d))) fun bo=>(As N 0 24 [(.int .i64 bo)] 1 false true (fun bp=>(Ab N bp 3 a 11 3 bn (fun bq=>(rdI .i64 (List.drop 12 (List.take 22 (List.drop ((Int.toNat a)*22) d))) fun br=>(As N 0 24 [(.int .i64 br)] 1 false true (fun bs=>(Ab N bs 3 a 12 3 bq (fun bt=>(rdI .i64 (List.drop 13 (List.take 22 (List.drop ((Int.toNat a)*22) d))) fun bu=>(As N 0 1048576 [(.int .i64 bu)] 1 false true (fun bv=>(Ab N bv 3 a 13 3 bt (fun bw=>(rdI .i64 (List.drop 14 (List.take 22 (List.drop ((Int.toNat a)*22) d))) fun bx=>(As N 0 1048576 [(.int .i64 bx)] 1 false true (fun bz=>(Ab N bz 3 a 14 3 bw (fun ca=>(rdI .i64 (List.drop 15 (List.take 22 (List.drop ((Int.toNat a)*22) d))) fun cb=>(As N 0 24 [(.int .i64 cb)] 1 false true (fun cc=>(Ab N cc 3 a 15 3 ca (fun cd=>(rdI .i64 (List.drop 16 (List.take 22 (List.drop ((Int.toNat a)*22) d))) fun ce=>(As N 0 1048576 [(.int .i64 ce)] 1 false true (fun cf=>(Ab N cf 3 a 16 3 cd (fun cg=>(rdI .i64 (List.drop 17 (List.take 22 (List.drop ((Int.toNat a)*22) d))) fun ch=>(As N 0 1048576 [(.int .i64 ch)] 1 false true (fun ci=>(Ab N ci 3 a 17 3 cg (fun cj=>(cond (Nat.ble 8 (List.length g)) (rdL 1 (List.drop 18 (List.take 22 (List.drop ((Int.toNat a)*22) d))) fun ck cl=>(Kk N (List.take 8 g) b ck cl false b 3 a 18 cj (fun cm=>(rdI .i64 (List.drop 19 (List.take 22 (List.drop ((Int.toNat a)*22) d))) fun cn=>(As N 0 2 [(.int .i64 cn)] 1 false true (fun co=>(Ab N co 3 a 19 12 cm (fun l=>(rdI .i64 (List.drop 19 (List.take 22 (List.drop ((Int.toNat a)*22) d))) fun cp=>(cond ((cp != (1:Int))==false) (rdI .i64 (List.drop 12 (List.take 22 (List.drop ((Int.toNat a)*22) d))) fun cq=>(Ab N (cond false true (decide (cq>(0:Int)))) 3 a 19 16 l (fun cr=>(q0 (List.take 22 (List.drop ((Int.toNat a)*22) d)) cr)))) (Ab N true 3 a 19 16 l (fun cs=>(q0 (List.take 22 (List.drop ((Int.toNat a)*22) d)) cs))))))))))))) none)))))))))))))))))))))))))))))))))))))))))))))))))))))))))))))))))))))))) none))))))))))))))) none))) none) none) none) none))
def Anj (N:Nat) (g:LA) (b:Bool) (a:Int) (i:LA) (r0:LA→Option R):Option R:=(Ani N r0 (fun c f=>(Aec N r0 a b c f)) g b a i)
def Qh:=(Aj (@Anj R)).1
theorem A28:@Qh R=@Anj R:=(Aj _).2
def Jn:Hints:={ H:=(hS (hR [0,2,4]) (hS (hR [0,2,4,6,7]) (hS (hR [0,2,4,6,7]) (hS (hR [0,2,4,6,7]) (hS (hR [0,2,4,6,7]) (hS (hR [0,2,4,6,7]) (hS (hR [0,2,4,6,7]) (hS (hR [0,2,4,6,7]) (hS (hR [0,2,4,6,7]) (hS (hR [0,2,4,6,7]) (hS (hR [0,2,4,6,7]) (hS (hR [0,2,4,6,7]) (hS (hR [0,2,4,6,7]) (hS (hR [0,2,4,6,7]) (hS (hR [0,2,4,6,7]) (hS (hR [0,2,4,6,7]) (hS (hR [0,2,4,6,7]) (hS (hR [0,2,4,6,7]) (hS (hR [0,2,4,6,7]) (hS (hR [0,2,4,6,7]) (hS (hR [0,2,6,7]) (hS (hR [0,2,6,7]) (hJ (hR [0,2,6,7]) (hS (hR [0,2,6,7]) (hJ (hR [0,2,6,7]) (hS (hR [0,2,6,7,210]) (hS hL hL))))))))))))))))))))))))))),nils:=[],modes:=[],free:=[],cob:=[] }
def Lw (N:Nat):List (Nat×Tw):=[(153,Dg N),(185,Hd N),(156,Cg N),(155,Bd N),(188,Um N),(187,Q8 N)]
def Ep (N:Nat):Env:=mkE 230 Jn (Lw N)
def A29 (N:Nat) (F:KF R):=Ar (Ep N) Tryz.f158 Jn.modes [100000] F
def Jo (N:Nat) (F:KF R):=atF (Ep N) [100000] N Tryz.f158 Jn (A29 N F)
def Dh  (F:KF R):LA→Option R:=(fun ct=>F (.tup []) [(100000,⟨false,false,true,false,0,ct,false⟩)])
def Jp (a:Int) (b:Bool) (c e:LA):St:={ s:=[(0,(.optr 100000 0)),(2,(.int .i64 a)),(6,(.optr 96 0)),(7,(.int .i64 3))],h:=[(96,⟨false,false,true,b,0,c,false⟩),(100000,⟨false,false,true,false,0,e,false⟩)] }
def Aed (N:Nat) (F:KF R):St→Option R:=Bh (Ep N) [100000] N (Jo N F [1,1,1,1,1,1,1,1,1,1,1,1,1,1,1,1,1,1,1,1,1,1,1,1,1] [])
def Aee (N:Nat) (F:KF R):St→Option R:=Bk (Ep N) [100000] N (Jo N F [1,1,1,1,1,1,1,1,1,1,1,1,1,1,1,1,1,1,1,1,1,1,1,1,1] [])
def Jq (a:Int) (b:Bool) (c f:LA):St:={ s:=[(0,(.optr 100000 0)),(2,(.int .i64 a)),(6,(.optr 96 0)),(7,(.int .i64 3))],h:=[(96,⟨false,false,true,b,0,c,false⟩),(100000,⟨false,false,true,false,0,f,false⟩)] }
def Aef (N:Nat) (F:KF R):St→Option R:=Bh (Ep N) [100000] N (Jo N F [1,1,1,1,1,1,1,1,1,1,1,1,1,1,1,1,1,1,1,1,1,1,1] [])
def Aeg (N:Nat) (F:KF R):St→Option R:=Bk (Ep N) [100000] N (Jo N F [1,1,1,1,1,1,1,1,1,1,1,1,1,1,1,1,1,1,1,1,1,1,1] [])
theorem Avv (N:Nat)  (F:KF R) (a:Int) (b:Bool) (c:LA):∀ (e:LA),Aee N F (Jp a b c e)=(Aeb N (Dh F) a b c e):=by
 intro e
 have hK:Aee N F (Jp a b c e)=(Acc N (Dh F) a b c e):=by kernel_rfl
 exact hK
theorem Avw (N:Nat)  (F:KF R) (a:Int) (b:Bool):∀ (c f:LA),Aeg N F (Jq a b c f)=(Aec N (Dh F) a b c f):=by
 intro c f
 have e1:=funext fun e=>(show Aed N F (Jp a b c e)=_ from (Au ..).trans (Avv N F a b c e))
 have hK:Aeg N F (Jq a b c f)=(Acd N (Dh F) a b (fun e=>Aed N F (Jp a b c e)) c f):=by kernel_rfl
 exact hK.trans (by rw [e1];rfl)
theorem Rb (N:Nat) (g:LA) (b:Bool) (a:Int) (i:LA) (F:KF R):Ac Tryz.prog muts (Lw N) Jn N 158 [(.optr 100000 0),(.pagg g b),(.int .i64 a)] [(100000,⟨false,false,true,false,0,i,false⟩)] F=(Qh N g b a i (Dh F)):=by
 have e1:=funext fun c=>funext fun f=>(show Aef N F (Jq a b c f)=_ from (Au ..).trans (Avw N F a b c f))
 have hK:Ac Tryz.prog muts (Lw N) Jn N 158 [(.optr 100000 0),(.pagg g b),(.int .i64 a)] [(100000,⟨false,false,true,false,0,i,false⟩)] F=(Ani N (Dh F) (fun c f=>Aef N F (Jq a b c f)) g b a i):=by kernel_rfl
 rw [A28]
 exact hK.trans (by rw [e1];rfl)
def Ik (N:Nat) (args:List AV) (h:Al) (k:KF R):Option R :=
 match args,h with
 | [(.optr 100000 0),(.pagg g b),(.int .i64 a)],[(100000,⟨false,false,true,false,0,i,false⟩)]=>(Qh N g b a i (Dh k))
 | _,_=>none
def Aeh (N:Nat):Tw:=⟨Ik N,fun args h k=>by
 unfold Ik;split
 exact twE (Rb ..) (Rb ..)
 rfl⟩
theorem A5w (N:Nat):A0 Tryz.prog 158 (Aeh N):=fun args h res m hh=>by
 change Ik N args h (fun v m=>some (v,m))=_ at hh
 unfold Ik at hh;split at hh
 exact Aa (T:=Lw N) ⟨Ea N,Lt N,C0 N,Bl N,Aq0 N,Ad0 N,trivial⟩ follows ((Rb ..).trans hh)
 cases hh
end
end Gx

namespace Gx
open Go Go.Proofs
set_option maxRecDepth 100000
noncomputable section
variable {R:Type}
def Akb (N:Nat) (r0:LA→Option R)  (c:LA) (d:Bool) (a:Int) (e:LA):Option R :=
 (rdL 9 (List.drop 5 c) fun b i=>(cond (Ak a i) (cond (Nat.ble 9 (List.length (List.drop ((Int.toNat a)*9) b))) (cond ((Nat.beq 0 0)&&((Nat.beq (List.length (List.take 9 (List.drop ((Int.toNat a)*9) b))) 9)&&(Nat.beq 9 9))) (cond (Nat.ble 8 (List.length c)) (C6 N (List.take 8 c) d 4 a e (fun j=>(cond (Nat.ble 8 (List.length c)) (rdI .i64 (List.drop 1 (List.take 9 (List.drop ((Int.toNat a)*9) b))) fun l=>(Eg N (List.take 8 c) d l 4 a 1 j (fun m=>(rdI .i64 (List.drop 2 (List.take 9 (List.drop ((Int.toNat a)*9) b))) fun n=>(As N 0 1048576 [(.int .i64 n)] 1 false true (fun o=>(Ab N o 4 a 2 3 m (fun p=>(rdI .i64 (List.drop 2 (List.take 9 (List.drop ((Int.toNat a)*9) b))) fun q=>(rdI .i64 (List.drop 3 (List.take 9 (List.drop ((Int.toNat a)*9) b))) fun r=>(As N 0 q [(.int .i64 r)] 1 false true (fun s=>(Ab N s 4 a 3 3 p (fun t=>(rdI .i64 (List.drop 2 (List.take 9 (List.drop ((Int.toNat a)*9) b))) fun u=>(rdI .i64 (List.drop 4 (List.take 9 (List.drop ((Int.toNat a)*9) b))) fun w=>(As N 0 u [(.int .i64 w)] 1 false true (fun x=>(Ab N x 4 a 4 3 t (fun y=>(rdI .i64 (List.drop 5 (List.take 9 (List.drop ((Int.toNat a)*9) b))) fun z=>(As N 0 1048576 [(.int .i64 z)] 1 false true (fun aa=>(Ab N aa 4 a 5 3 y (fun ab=>(rdI .i64 (List.drop 6 (List.take 9 (List.drop ((Int.toNat a)*9) b))) fun ac=>(As N 0 1048576 [(.int .i64 ac)] 1 false true (fun ad=>(Ab N ad 4 a 6 3 ab (fun f=>(cond (Nat.ble 2 (List.length (List.drop 7 (List.take 9 (List.drop ((Int.toNat a)*9) b))))) (cond ((!d)||(Bp (List.take 2 (List.drop 7 (List.take 9 (List.drop ((Int.toNat a)*9) b)))))) (Lu N (List.take 2 (List.drop 7 (List.take 9 (List.drop ((Int.toNat a)*9) b)))) false (fun ae=>(cond (ae==true) (rdI .i64 (List.drop 7 (List.take 9 (List.drop ((Int.toNat a)*9) b))) fun af=>(cond ((cond true (decide (af>(0:Int))) false)==true) (rdI .i64 (List.drop 7 (List.take 9 (List.drop ((Int.toNat a)*9) b))) fun ag=>(rdI .i64 (List.drop 8 (List.take 9 (List.drop ((Int.toNat a)*9) b))) fun ah=>(Ab N (cond true (decide (ag≤ah)) false) 4 a 7 3 f (fun ai=>(r0 ai))))) (Ab N false 4 a 7 3 f (fun aj=>(r0 aj))))) (Ab N false 4 a 7 3 f (fun ak=>(r0 ak)))))) none) none))))))))))))))))))))))))))))))) none))) none) none) none) none))
def Akc (N:Nat) (c:LA) (d:Bool) (a:Int) (e:LA) (r0:LA→Option R):Option R:=(Akb N r0 c d a e)
def Nx:=(Aj (@Akc R)).1
theorem Ax7:@Nx R=@Akc R:=(Aj _).2
def Ace:Hints:={ H:=(hS (hR [0,2,4]) (hS (hR [0,2,4,6,7]) (hS (hR [0,2,4,6,7]) (hS (hR [0,2,6,7]) (hS (hR [0,2,6,7]) (hS (hR [0,2,6,7]) (hS (hR [0,2,6,7]) (hS (hR [0,2,6,7]) (hS (hR [0,2,6,7]) hL))))))))),nils:=[],modes:=[],free:=[],cob:=[] }
def Rc (N:Nat):List (Nat×Tw):=[(153,Dg N),(185,Hd N),(156,Cg N),(155,Bd N),(186,Adf N)]
def Ox  (F:KF R):LA→Option R:=(fun al=>F (.tup []) [(100000,⟨false,false,true,false,0,al,false⟩)])
theorem Oy (N:Nat) (c:LA) (d:Bool) (a:Int) (e:LA) (F:KF R):Ac Tryz.prog muts (Rc N) Ace N 159 [(.optr 100000 0),(.pagg c d),(.int .i64 a)] [(100000,⟨false,false,true,false,0,e,false⟩)] F=(Nx N c d a e (Ox F)):=by
 have hK:Ac Tryz.prog muts (Rc N) Ace N 159 [(.optr 100000 0),(.pagg c d),(.int .i64 a)] [(100000,⟨false,false,true,false,0,e,false⟩)] F=(Akb N (Ox F) c d a e):=by kernel_rfl
 rw [Ax7]
 exact hK
def Hj (N:Nat) (args:List AV) (h:Al) (k:KF R):Option R :=
 match args,h with
 | [(.optr 100000 0),(.pagg c d),(.int .i64 a)],[(100000,⟨false,false,true,false,0,e,false⟩)]=>(Nx N c d a e (Ox k))
 | _,_=>none
def Acf (N:Nat):Tw:=⟨Hj N,fun args h k=>by
 unfold Hj;split
 exact twE (Oy ..) (Oy ..)
 rfl⟩
theorem A3a (N:Nat):A0 Tryz.prog 159 (Acf N):=fun args h res g hh=>by
 change Hj N args h (fun v g=>some (v,g))=_ at hh
 unfold Hj at hh;split at hh
 exact Aa (T:=Rc N) ⟨Ea N,Lt N,C0 N,Bl N,Axz N,trivial⟩ follows ((Oy ..).trans hh)
 cases hh
def Aq1 (N:Nat) (r0:LA→Option R)  (b:LA) (c:Bool) (a:Int) (d:LA):Option R :=
 (rdL 5 (List.drop 6 b) fun e g=>(cond (Ak a g) (cond (Nat.ble 5 (List.length (List.drop ((Int.toNat a)*5) e))) (cond ((Nat.beq 0 0)&&((Nat.beq (List.length (List.take 5 (List.drop ((Int.toNat a)*5) e))) 5)&&(Nat.beq 5 5))) (cond (Nat.ble 8 (List.length b)) (C6 N (List.take 8 b) c 5 a d (fun i=>(cond (Nat.ble 8 (List.length b)) (rdI .i64 (List.drop 1 (List.take 5 (List.drop ((Int.toNat a)*5) e))) fun j=>(Eg N (List.take 8 b) c j 5 a 1 i (fun l=>(cond (Nat.ble 8 (List.length b)) (rdL 1 (List.drop 2 (List.take 5 (List.drop ((Int.toNat a)*5) e))) fun m n=>(C1 N (List.take 8 b) c m n false c 0 1048576 5 a 2 l (fun o=>(cond (Nat.ble 8 (List.length b)) (rdL 1 (List.drop 3 (List.take 5 (List.drop ((Int.toNat a)*5) e))) fun p q=>(C1 N (List.take 8 b) c p q false c 0 1048576 5 a 3 o (fun r=>(cond (Nat.ble 8 (List.length b)) (rdL 1 (List.drop 4 (List.take 5 (List.drop ((Int.toNat a)*5) e))) fun s t=>(C1 N (List.take 8 b) c s t false c (-1048576) 1048576 5 a 4 r (fun u=>(r0 u)))) none)))) none)))) none)))) none))) none) none) none) none))
def Aq2 (N:Nat) (b:LA) (c:Bool) (a:Int) (d:LA) (r0:LA→Option R):Option R:=(Aq1 N r0 b c a d)
def S9:=(Aj (@Aq2 R)).1
theorem A5x:@S9 R=@Aq2 R:=(Aj _).2
def Akd:Hints:={ H:=(hS (hR [0,2,4]) (hS (hR [0,2,4,6,7]) (hS (hR [0,2,4,6,7]) (hS (hR [0,2,4,6,7]) (hS (hR [0,2,4,6,7]) (hS (hR [0,2,4,6,7]) hL)))))),nils:=[],modes:=[],free:=[],cob:=[] }
def W5 (N:Nat):List (Nat×Tw):=[(153,Dg N),(185,Hd N),(154,Hh N)]
def Tv  (F:KF R):LA→Option R:=(fun w=>F (.tup []) [(100000,⟨false,false,true,false,0,w,false⟩)])
theorem Tx (N:Nat) (b:LA) (c:Bool) (a:Int) (d:LA) (F:KF R):Ac Tryz.prog muts (W5 N) Akd N 160 [(.optr 100000 0),(.pagg b c),(.int .i64 a)] [(100000,⟨false,false,true,false,0,d,false⟩)] F=(S9 N b c a d (Tv F)):=by
 have hK:Ac Tryz.prog muts (W5 N) Akd N 160 [(.optr 100000 0),(.pagg b c),(.int .i64 a)] [(100000,⟨false,false,true,false,0,d,false⟩)] F=(Aq1 N (Tv F) b c a d):=by kernel_rfl
 rw [A5x]
 exact hK
def Jr (N:Nat) (args:List AV) (h:Al) (k:KF R):Option R :=
 match args,h with
 | [(.optr 100000 0),(.pagg b c),(.int .i64 a)],[(100000,⟨false,false,true,false,0,d,false⟩)]=>(S9 N b c a d (Tv k))
 | _,_=>none
def Ake (N:Nat):Tw:=⟨Jr N,fun args h k=>by
 unfold Jr;split
 exact twE (Tx ..) (Tx ..)
 rfl⟩
theorem Bci (N:Nat):A0 Tryz.prog 160 (Ake N):=fun args h res f hh=>by
 change Jr N args h (fun v f=>some (v,f))=_ at hh
 unfold Jr at hh;split at hh
 exact Aa (T:=W5 N) ⟨Ea N,Lt N,M5 N,trivial⟩ follows ((Tx ..).trans hh)
 cases hh
def W6 (N:Nat)  (r0:LA→Option R) (a:Int) (i:LA) (q:Nat) (b:Bool) (k2:Int→Int→LA→Option R)  (m e:Int) (o:LA):Option R :=
 (cond (decide (e<m)) (cond (Ak e q) (cond (Nat.ble 3 (List.length (List.drop ((Int.toNat e)*3) i))) (cond ((!b)||(Bp (List.take 3 (List.drop ((Int.toNat e)*3) i)))) (cond ((Nat.beq (List.length (List.take 3 (List.drop ((Int.toNat e)*3) i))) 3)&&((Nat.ble 3 3)&&(!false))) (rdI .i64 (List.drop 1 (setCells [(.int .i64 0),(.int .i64 0),(.int .i64 0)] 0 (List.take 3 (List.drop ((Int.toNat e)*3) i)))) fun aa=>(rdI .i64 (List.drop 2 (setCells [(.int .i64 0),(.int .i64 0),(.int .i64 0)] 0 (List.take 3 (List.drop ((Int.toNat e)*3) i)))) fun ab=>(As N 0 1048576 [(.int .i64 aa),(.int .i64 ab)] 2 false true (fun ac=>(Ab N ac 6 a 3 3 o (fun ad=>(k2 m (IntKind.wrap .i64 (e+(1:Int))) ad))))))) none) none) none) none) (r0 o))
def M6 (N:Nat)  (r0:LA→Option R) (a:Int) (i:LA) (q:Nat) (b:Bool):Nat→Int→Int→LA→Option R
 | 0,_,_,_=>none
 | n+1,m,e,o=>(W6 N r0 a i q b (M6 N r0 a i q b n) m e o)
def W7 (N:Nat)  (r0:LA→Option R) (a:Int) (j:LA) (r:Nat) (b:Bool) (t c d:LA) (k1:Nat→Int→Int→LA→Option R) (q2:LA→Nat→Int→Int→LA→Option R) (f:Nat) (p g:Int) (l:LA):Option R :=
 (cond (decide (g<p)) (cond (Ak g r) (cond (Nat.ble 3 (List.length (List.drop ((Int.toNat g)*3) j))) (cond ((!b)||(Bp (List.take 3 (List.drop ((Int.toNat g)*3) j)))) (cond ((Nat.beq (List.length (List.take 3 (List.drop ((Int.toNat g)*3) j))) 3)&&((Nat.ble 3 3)&&(!false))) (rdI .i64 (setCells [(.int .i64 0),(.int .i64 0),(.int .i64 0)] 0 (List.take 3 (List.drop ((Int.toNat g)*3) j))) fun ae=>(cond ((Nat.ble (f+1) 140737488355328)&&(Nat.ble ((f+1)*8) 140737488355328)) (k1 (f+1) p (IntKind.wrap .i64 (g+(1:Int))) ((List.take (f*1) l)++[(.int .i64 ae)])) none)) none) none) none) none) (rdL 22 (List.drop 4 c) fun bf af=>(As N 0 (IntKind.wrap .i64 (((af:Nat):Int) - (1:Int))) (List.take (f*1) l) f false true (fun ag=>(Ab N ag 6 a 3 12 t (fun ah=>(Zf N (List.take (f*1) l) f false true (fun ai=>(Ab N ai 6 a 3 11 ah (fun aj=>(rdL 3 (List.drop 3 d) fun i q=>(q2 i q ((q:Nat):Int) 0 aj))))))))))))
def M7 (N:Nat)  (r0:LA→Option R) (a:Int) (j:LA) (r:Nat) (b:Bool) (t c d:LA):Nat→Nat→Int→Int→LA→Option R
 | 0,_,_,_,_=>none
 | n+1,f,p,g,l=>(W7 N r0 a j r b t c d (M7 N r0 a j r b t c d n) (fun i q m e o=>(M6 N r0 a i q b N m e o)) f p g l)
def W8 (N:Nat)  (r0:LA→Option R) (a:Int) (b:Bool) (c:LA)  (q1:LA→Nat→LA→Nat→Int→Int→LA→Option R) (d u:LA):Option R :=
 (rdL 3 (List.drop 3 d) fun bg ak=>(Ab N (decide (((ak:Nat):Int)≤(16:Int))) 6 a 3 8 u (fun t=>(rdL 3 (List.drop 3 d) fun j r=>(q1 j r t 0 ((r:Nat):Int) 0 [])))))
def Xq (N:Nat)  (r0:LA→Option R) (a:Int) (b:Bool) (c d u:LA):Option R:=(W8 N r0 a b c (fun j r t f p g l=>(M7 N r0 a j r b t c d N f p g l)) d u)
def Aei (N:Nat) (r0:LA→Option R) (q0:LA→LA→Option R) (c:LA) (b:Bool) (a:Int) (w:LA):Option R :=
 (rdL 4 (List.drop 7 c) fun x al=>(cond (Ak a al) (cond (Nat.ble 4 (List.length (List.drop ((Int.toNat a)*4) x))) (cond ((Nat.beq 0 0)&&((Nat.beq (List.length (List.take 4 (List.drop ((Int.toNat a)*4) x))) 4)&&(Nat.beq 4 4))) (cond (Nat.ble 8 (List.length c)) (C6 N (List.take 8 c) b 6 a w (fun am=>(rdL 1 (List.drop 1 (List.take 4 (List.drop ((Int.toNat a)*4) x))) fun bh an=>(As N 1 2 [(.int .i64 ((an:Nat):Int))] 1 false true (fun ao=>(Ab N ao 6 a 1 4 am (fun ap=>(rdL 12 (List.drop 3 c) fun bi aq=>(rdL 1 (List.drop 1 (List.take 4 (List.drop ((Int.toNat a)*4) x))) fun ar au=>(As N 0 (IntKind.wrap .i64 (((aq:Nat):Int) - (1:Int))) ar au false b (fun av=>(Ab N av 6 a 1 12 ap (fun aw=>(rdL 1 (List.drop 1 (List.take 4 (List.drop ((Int.toNat a)*4) x))) fun ax ay=>(Zf N ax ay false b (fun az=>(Ab N az 6 a 1 11 aw (fun y=>(rdB (List.drop 2 (List.take 4 (List.drop ((Int.toNat a)*4) x))) fun ba=>(cond (ba==false) (rdL 3 (List.drop 3 (List.take 4 (List.drop ((Int.toNat a)*4) x))) fun bj bb=>(Ab N (cond false true (((bb:Nat):Int)==(0:Int))) 6 a 3 16 y (fun bc=>(q0 (List.take 4 (List.drop ((Int.toNat a)*4) x)) bc)))) (Ab N true 6 a 3 16 y (fun bd=>(q0 (List.take 4 (List.drop ((Int.toNat a)*4) x)) bd))))))))))))))))))))))) none) none) none) none))
def Aej (N:Nat) (c:LA) (b:Bool) (a:Int) (w:LA) (r0:LA→Option R):Option R:=(Aei N r0 (fun d u=>(Xq N r0 a b c d u)) c b a w)
def Lx:=(Aj (@Aej R)).1
theorem Avx:@Lx R=@Aej R:=(Aj _).2
def Hk:Hints:={ H:=(hS (hR [0,2,4]) (hS (hR [0,2,4,6,7]) (hS (hR [0,2,4,6,7]) (hS (hR [0,2,4,6,7]) (hS (hR [0,2,4,6,7]) (hS (hR [0,2,4,6,7]) (hJ (hR [0,2,4,6,7]) (hS (hR [0,2,4,6,7]) (hS (hR [0,2,4,6,7,8]) (hS (hS (hR [0,2,4,6,7,8,71,72,73]) (hN [0,2,4,6,7,8] (hN [0,2,4,6,7,8,71,72,73] (hS (hR [0,2,4,6,7,8,71,72,73,74]) (hS (hN [0,2,4,6,7,8,71,72,73] hL hL) (hS (hN [0,2,4,6,7,8,71,72,73] (hS (hR [0,2,4,6,7,8,10,71,72,73]) (hR [0,2,4,6,7,8,71,72,73])) hL) (hR [0,2,4,6,7,8,71,72,73])))) hL) hL)) (hS (hR [0,2,6,7,8]) (hS (hR [0,2,6,7]) (hS (hR [0,2,7,100,101,102]) (hS (hN [0,2,7,100,101,102] (hS (hR [0,2,7,100,101,102,103]) (hS (hN [0,2,7,100,101,102] hL hL) (hS (hN [0,2,7,100,101,102] (hS (hR [0,2,7,12,100,101,102]) (hR [0,2,7,100,101,102])) hL) (hR [0,2,7,100,101,102])))) hL) hL)))))))))))))),nils:=[(8,1)],modes:=[],free:=[],cob:=[] }
def Il (N:Nat):List (Nat×Tw):=[(153,Dg N),(156,Cg N),(155,Bd N),(189,Apb N)]
def B8 (N:Nat):Env:=mkE 117 Hk (Il N)
def Avy (N:Nat) (F:KF R):=Ar (B8 N) Tryz.f161 Hk.modes [100000] F
def Dk (N:Nat) (F:KF R):=atF (B8 N) [100000] N Tryz.f161 Hk (Avy N F)
def Bq  (F:KF R):LA→Option R:=(fun be=>F (.tup []) [(100000,⟨false,false,true,false,0,be,false⟩)])
def Dl (a:Int) (i:LA) (q:Nat) (b:Bool) (m e:Int) (o:LA):St:={ s:=[(0,(.optr 100000 0)),(2,(.int .i64 a)),(7,(.int .i64 6)),(100,(.imm i q 3 false b)),(101,(.int .i64 m)),(102,(.int .i64 e))],h:=[(100000,⟨false,false,true,false,0,o,false⟩)] }
def Xr (N:Nat) (F:KF R):St→Option R:=A4 (B8 N) [100000] N (Dk N F [1,1,1,1,1,1,1,1,1,1,1,1,1,0] []) N
def Hl (N:Nat) (F:KF R) (n:Nat):St→Option R:=Av (B8 N) [100000] N (Dk N F [1,1,1,1,1,1,1,1,1,1,1,1,1,0] []) n
def Dm (a:Int) (j:LA) (r:Nat) (b:Bool) (t c d:LA) (f:Nat) (p g:Int) (l:LA):St:={ s:=[(0,(.optr 100000 0)),(2,(.int .i64 a)),(4,(.optr 300000 0)),(6,(.optr 300001 0)),(7,(.int .i64 6)),(8,(.own 300002 0 f)),(71,(.imm j r 3 false b)),(72,(.int .i64 p)),(73,(.int .i64 g))],h:=[(100000,⟨false,false,true,false,0,t,false⟩),(300000,⟨false,false,true,b,0,c,false⟩),(300001,⟨false,false,true,b,0,d,false⟩),(300002,⟨false,false,true,false,1,l,false⟩)] }
def Xs (N:Nat) (F:KF R):St→Option R:=A4 (B8 N) [100000] N (Dk N F [1,1,1,1,1,1,1,1,1,0,1,0] []) N
def Hm (N:Nat) (F:KF R) (n:Nat):St→Option R:=Av (B8 N) [100000] N (Dk N F [1,1,1,1,1,1,1,1,1,0,1,0] []) n
def Hn (a:Int) (b:Bool) (c d u:LA):St:={ s:=[(0,(.optr 100000 0)),(2,(.int .i64 a)),(4,(.optr 64 0)),(6,(.optr 96 0)),(7,(.int .i64 6))],h:=[(64,⟨false,false,true,b,0,c,false⟩),(96,⟨false,false,true,b,0,d,false⟩),(100000,⟨false,false,true,false,0,u,false⟩)] }
def Xt (N:Nat) (F:KF R):St→Option R:=Bh (B8 N) [100000] N (Dk N F [1,1,1,1,1,1,1] [])
def Xu (N:Nat) (F:KF R):St→Option R:=Bk (B8 N) [100000] N (Dk N F [1,1,1,1,1,1,1] [])
theorem Ape (N:Nat)  (F:KF R) (a:Int) (i:LA) (q:Nat) (b:Bool):∀ (n:Nat) (m e:Int) (o:LA),Hl N F n (Dl a i q b m e o)=(M6 N (Bq F) a i q b n m e o):=by
 intro n
 induction n with
 | zero=>intros;kernel_rfl
 | succ n ih =>
  intro m e o
  have e0:=funext fun m=>funext fun e=>funext fun o=>(show Hl N F n (Dl a i q b m e o)=_ from ih m e o)
  have hK:Hl N F (n+1) (Dl a i q b m e o)=(W6 N (Bq F) a i q b (fun m e o=>Hl N F n (Dl a i q b m e o)) m e o):=by kernel_rfl
  exact hK.trans (by rw [e0];rfl)
theorem Apf (N:Nat)  (F:KF R) (a:Int) (j:LA) (r:Nat) (b:Bool) (t c d:LA):∀ (n f:Nat) (p g:Int) (l:LA),Hm N F n (Dm a j r b t c d f p g l)=(M7 N (Bq F) a j r b t c d n f p g l):=by
 intro n
 induction n with
 | zero=>intros;kernel_rfl
 | succ n ih =>
  intro f p g l
  have e0:=funext fun f=>funext fun p=>funext fun g=>funext fun l=>(show Hm N F n (Dm a j r b t c d f p g l)=_ from ih f p g l)
  have e1:=funext fun i=>funext fun q=>funext fun m=>funext fun e=>funext fun o=>(show Xr N F (Dl a i q b m e o)=_ from (An ..).trans (Ape N F a i q b N m e o))
  have hK:Hm N F (n+1) (Dm a j r b t c d f p g l)=(W7 N (Bq F) a j r b t c d (fun f p g l=>Hm N F n (Dm a j r b t c d f p g l)) (fun i q m e o=>Xr N F (Dl a i q b m e o)) f p g l):=by kernel_rfl
  exact hK.trans (by rw [e0,e1];rfl)
theorem Apg (N:Nat)  (F:KF R) (a:Int) (b:Bool) (c:LA):∀ (d u:LA),Xu N F (Hn a b c d u)=(Xq N (Bq F) a b c d u):=by
 intro d u
 have e1:=funext fun j=>funext fun r=>funext fun t=>funext fun f=>funext fun p=>funext fun g=>funext fun l=>(show Xs N F (Dm a j r b t c d f p g l)=_ from (An ..).trans (Apf N F a j r b t c d N f p g l))
 have hK:Xu N F (Hn a b c d u)=(W8 N (Bq F) a b c (fun j r t f p g l=>Xs N F (Dm a j r b t c d f p g l)) d u):=by kernel_rfl
 exact hK.trans (by rw [e1];rfl)
theorem M8 (N:Nat) (c:LA) (b:Bool) (a:Int) (w:LA) (F:KF R):Ac Tryz.prog muts (Il N) Hk N 161 [(.optr 100000 0),(.pagg c b),(.int .i64 a)] [(100000,⟨false,false,true,false,0,w,false⟩)] F=(Lx N c b a w (Bq F)):=by
 have e1:=funext fun d=>funext fun u=>(show Xt N F (Hn a b c d u)=_ from (Au ..).trans (Apg N F a b c d u))
 have hK:Ac Tryz.prog muts (Il N) Hk N 161 [(.optr 100000 0),(.pagg c b),(.int .i64 a)] [(100000,⟨false,false,true,false,0,w,false⟩)] F=(Aei N (Bq F) (fun d u=>Xt N F (Hn a b c d u)) c b a w):=by kernel_rfl
 rw [Avx]
 exact hK.trans (by rw [e1];rfl)
def F6 (N:Nat) (args:List AV) (h:Al) (k:KF R):Option R :=
 match args,h with
 | [(.optr 100000 0),(.pagg c b),(.int .i64 a)],[(100000,⟨false,false,true,false,0,w,false⟩)]=>(Lx N c b a w (Bq k))
 | _,_=>none
def Xv (N:Nat):Tw:=⟨F6 N,fun args h k=>by
 unfold F6;split
 exact twE (M8 ..) (M8 ..)
 rfl⟩
theorem Ax8 (N:Nat):A0 Tryz.prog 161 (Xv N):=fun args h res z hh=>by
 change F6 N args h (fun v z=>some (v,z))=_ at hh
 unfold F6 at hh;split at hh
 exact Aa (T:=Il N) ⟨Ea N,C0 N,Bl N,A8b N,trivial⟩ follows ((M8 ..).trans hh)
 cases hh
def Bnz (N:Nat)  (r0:Bool→Option R) (b:LA) (a:Nat) (d e:Bool) (c:Int) (k0:Int→Option R)  (f:Int):Option R :=
 (cond (decide (f<((a:Nat):Int))) (cond (Ak f a) (rdI .i64 (List.drop ((Int.toNat f)*1) b) fun i=>(cond (i==c) (r0 true) (k0 (IntKind.wrap .i64 (f+(1:Int)))))) none) (r0 false))
def Bcj (N:Nat)  (r0:Bool→Option R) (b:LA) (a:Nat) (d e:Bool) (c:Int):Nat→Int→Option R
 | 0,_=>none
 | n+1,f=>(Bnz N r0 b a d e c (Bcj N r0 b a d e c n) f)
def B5h (N:Nat) (r0:Bool→Option R) (q0:Int→Option R) (b:LA) (a:Nat) (d e:Bool) (c:Int):Option R :=
 (q0 0)
def B5i (N:Nat) (b:LA) (a:Nat) (d e:Bool) (c:Int) (r0:Bool→Option R):Option R:=(B5h N r0 (fun f=>(Bcj N r0 b a d e c N f)) b a d e c)
def A5c:=(Aj (@B5i R)).1
theorem B5j:@A5c R=@B5i R:=(Aj _).2
def Avz:Hints:={ H:=(hS (hR [0,1]) (hS (hS (hR [0,1,5]) (hS (hN [0,1,5] (hS (hS (hR [0,1,5,9]) (hN [0,1,5] hL hL)) (hS (hN [0,1,5] (hS (hR [0,1,5,17]) (hN [0,1,5] (hS (hR [4]) hL) hL)) hL) (hR [0,1,5]))) hL) hL)) (hS (hR [4]) hL))),nils:=[],modes:=[],free:=[],cob:=[] }
def A5d (N:Nat):List (Nat×Tw):=[]
def A5e (N:Nat):Env:=mkE 18 Avz (A5d N)
def B5k (N:Nat) (F:KF R):=Ar (A5e N) Tryz.f163 Avz.modes [] F
def Bvs (N:Nat) (F:KF R):=atF (A5e N) [] N Tryz.f163 Avz (B5k N F)
def Akf  (F:KF R):Bool→Option R:=(fun j=>F (.bool j) [])
def Zg (b:LA) (a:Nat) (d e:Bool) (c f:Int):St:={ s:=[(0,(.imm b a 1 d e)),(1,(.int .i64 c)),(5,(.int .i64 f))],h:=[] }
def Bvt (N:Nat) (F:KF R):St→Option R:=A4 (A5e N) [] N (Bvs N F [1,0,1,0] []) N
def Av0 (N:Nat) (F:KF R) (n:Nat):St→Option R:=Av (A5e N) [] N (Bvs N F [1,0,1,0] []) n
theorem Bxu (N:Nat)  (F:KF R) (b:LA) (a:Nat) (d e:Bool) (c:Int):∀ (n:Nat) (f:Int),Av0 N F n (Zg b a d e c f)=(Bcj N (Akf F) b a d e c n f):=by
 intro n
 induction n with
 | zero=>intros;kernel_rfl
 | succ n ih =>
  intro f
  have e0:=funext fun f=>(show Av0 N F n (Zg b a d e c f)=_ from ih f)
  have hK:Av0 N F (n+1) (Zg b a d e c f)=(Bnz N (Akf F) b a d e c (fun f=>Av0 N F n (Zg b a d e c f)) f):=by kernel_rfl
  exact hK.trans (by rw [e0];rfl)
theorem Bck (N:Nat) (b:LA) (a:Nat) (d e:Bool) (c:Int) (F:KF R):Ac Tryz.prog muts (A5d N) Avz N 163 [(.imm b a 1 d e),(.int .i64 c)] [] F=(A5c N b a d e c (Akf F)):=by
 have e1:=funext fun f=>(show Bvt N F (Zg b a d e c f)=_ from (An ..).trans (Bxu N F b a d e c N f))
 have hK:Ac Tryz.prog muts (A5d N) Avz N 163 [(.imm b a 1 d e),(.int .i64 c)] [] F=(B5h N (Akf F) (fun f=>Bvt N F (Zg b a d e c f)) b a d e c):=by kernel_rfl
 rw [B5j]
 exact hK.trans (by rw [e1];rfl)
def Ank (N:Nat) (args:List AV) (h:Al) (k:KF R):Option R :=
 match args,h with
 | [(.imm b a 1 d e),(.int .i64 c)],[]=>(A5c N b a d e c (Akf k))
 | _,_=>none
def Av1 (N:Nat):Tw:=⟨Ank N,fun args h k=>by
 unfold Ank;split
 exact twE (Bck ..) (Bck ..)
 rfl⟩
theorem Bcl (N:Nat):A0 Tryz.prog 163 (Av1 N):=fun args h res g hh=>by
 change Ank N args h (fun v g=>some (v,g))=_ at hh
 unfold Ank at hh;split at hh
 exact Aa (T:=A5d N) trivial follows ((Bck ..).trans hh)
 cases hh
def Anl (N:Nat)  (r0:Nat→LA→Option R) (d:Int) (e:Bool) (a:LA) (k0:Nat→Int→LA→Option R)  (b:Nat) (c:Int) (f:LA):Option R :=
 (rdL 12 (List.drop 3 a) fun t i=>(cond (decide (c<((i:Nat):Int))) (rdL 12 (List.drop 3 a) fun j l=>(cond (Ak c l) (rdL 1 (List.drop 11 (List.drop ((Int.toNat c)*12) j)) fun m o=>(A5c N m o false e d (fun p=>(cond (!p) (cond ((Nat.ble (b+1) 140737488355328)&&(Nat.ble ((b+1)*8) 140737488355328)) (k0 (b+1) (IntKind.wrap .i64 (c+(1:Int))) ((List.take (b*1) f)++[(.int .i64 c)])) none) (k0 b (IntKind.wrap .i64 (c+(1:Int))) f))))) none)) (r0 b f)))
def Zh (N:Nat)  (r0:Nat→LA→Option R) (d:Int) (e:Bool) (a:LA):Nat→Nat→Int→LA→Option R
 | 0,_,_,_=>none
 | n+1,b,c,f=>(Anl N r0 d e a (Zh N r0 d e a n) b c f)
def A3b (N:Nat) (r0:Nat→LA→Option R) (q0:Nat→Int→LA→Option R) (a:LA) (e:Bool) (d:Int):Option R :=
 (q0 0 0 [])
def A3c (N:Nat) (a:LA) (e:Bool) (d:Int) (r0:Nat→LA→Option R):Option R:=(A3b N r0 (fun b c f=>(Zh N r0 d e a N b c f)) a e d)
def Aba:=(Aj (@A3c R)).1
theorem Bge:@Aba R=@A3c R:=(Aj _).2
def Qi:Hints:={ H:=(hS (hR [1,2]) (hS (hR [1,2,5]) (hS (hS (hR [1,2,5,6]) (hN [5] (hN [1,2,5,6] (hS (hS (hR [1,2,5,6,11]) (hN [1,2,5,6] hL hL)) (hS (hN [1,2,5,6] (hS (hR [1,2,5,6,22]) (hN [1,2,5,6] (hR [1,2,5,6]) hL)) hL) (hR [1,2,5,6]))) hL) hL)) (hS (hR [4]) hL)))),nils:=[(4,1),(5,1)],modes:=[(2,1)],free:=[],cob:=[] }
def Ta (N:Nat):List (Nat×Tw):=[(163,Av1 N)]
def Tb (N:Nat):Env:=mkE 28 Qi (Ta N)
def Bgf (N:Nat) (F:KF R):=Ar (Tb N) Tryz.f190 Qi.modes [] F
def Aq3 (N:Nat) (F:KF R):=atF (Tb N) [] N Tryz.f190 Qi (Bgf N F)
def Kp  (F:KF R):Nat→LA→Option R:=(fun q r=>F (.own 300000 0 q) [(300000,⟨false,false,true,false,1,r,false⟩)])
def Gu (d:Int) (e:Bool) (a:LA) (b:Nat) (c:Int) (f:LA):St:={ s:=[(1,(.int .i64 d)),(2,(.optr 300000 0)),(5,(.own 300001 0 b)),(6,(.int .i64 c))],h:=[(300000,⟨false,false,true,e,0,a,false⟩),(300001,⟨false,false,true,false,1,f,false⟩)] }
def Aq4 (N:Nat) (F:KF R):St→Option R:=A4 (Tb N) [] N (Aq3 N F [1,1,0,1,0] []) N
def Qj (N:Nat) (F:KF R) (n:Nat):St→Option R:=Av (Tb N) [] N (Aq3 N F [1,1,0,1,0] []) n
theorem A5y (N:Nat)  (F:KF R) (d:Int) (e:Bool) (a:LA):∀ (n b:Nat) (c:Int) (f:LA),Qj N F n (Gu d e a b c f)=(Zh N (Kp F) d e a n b c f):=by
 intro n
 induction n with
 | zero=>intros;kernel_rfl
 | succ n ih =>
  intro b c f
  have e0:=funext fun b=>funext fun c=>funext fun f=>(show Qj N F n (Gu d e a b c f)=_ from ih b c f)
  have hK:Qj N F (n+1) (Gu d e a b c f)=(Anl N (Kp F) d e a (fun b c f=>Qj N F n (Gu d e a b c f)) b c f):=by kernel_rfl
  exact hK.trans (by rw [e0];rfl)
theorem Zi (N:Nat) (a:LA) (e:Bool) (d:Int) (F:KF R):Ac Tryz.prog muts (Ta N) Qi N 190 [(.pagg a e),(.int .i64 d)] [] F=(Aba N a e d (Kp F)):=by
 have e1:=funext fun b=>funext fun c=>funext fun f=>(show Aq4 N F (Gu d e a b c f)=_ from (An ..).trans (A5y N F d e a N b c f))
 have hK:Ac Tryz.prog muts (Ta N) Qi N 190 [(.pagg a e),(.int .i64 d)] [] F=(A3b N (Kp F) (fun b c f=>Aq4 N F (Gu d e a b c f)) a e d):=by kernel_rfl
 rw [Bge]
 exact hK.trans (by rw [e1];rfl)
def Ny (N:Nat) (args:List AV) (h:Al) (k:KF R):Option R :=
 match args,h with
 | [(.pagg a e),(.int .i64 d)],[]=>(Aba N a e d (Kp k))
 | _,_=>none
def Aq5 (N:Nat):Tw:=⟨Ny N,fun args h k=>by
 unfold Ny;split
 exact twE (Zi ..) (Zi ..)
 rfl⟩
theorem Bku (N:Nat):A0 Tryz.prog 190 (Aq5 N):=fun args h res g hh=>by
 change Ny N args h (fun v g=>some (v,g))=_ at hh
 unfold Ny at hh;split at hh
 exact Aa (T:=Ta N) ⟨Bcl N,trivial⟩ follows ((Zi ..).trans hh)
 cases hh
def A8c (N:Nat)  (r0:Nat→Nat→LA→LA→Option R) (e:Nat) (b:Bool) (a i:LA) (k0:Nat→Int→Int→LA→Option R)  (c:Nat) (f d:Int) (g:LA):Option R :=
 (cond (decide (d<f)) (cond (Ak d e) (rdI .i64 (List.drop (0+((Int.toNat d)*1)) i) fun l=>(rdL 12 (List.drop 3 a) fun o p=>(cond (Ak l p) (rdI .i64 (List.drop 1 (List.drop ((Int.toNat l)*12) o)) fun q=>(rdL 12 (List.drop 3 a) fun r t=>(cond (Ak l t) (rdI .i64 (List.drop 2 (List.drop ((Int.toNat l)*12) r)) fun u=>(cond ((Nat.ble (c+1) 140737488355328)&&(Nat.ble ((c+1)*16) 140737488355328)) (k0 (c+1) f (IntKind.wrap .i64 (d+(1:Int))) ((List.take (c*2) g)++[(.int .i64 q),(.int .i64 u)])) none)) none))) none))) none) (r0 c e g i))
def Av2 (N:Nat)  (r0:Nat→Nat→LA→LA→Option R) (e:Nat) (b:Bool) (a i:LA):Nat→Nat→Int→Int→LA→Option R
 | 0,_,_,_,_=>none
 | n+1,c,f,d,g=>(A8c N r0 e b a i (Av2 N r0 e b a i n) c f d g)
def Bvu (N:Nat) (r0:Nat→Nat→LA→LA→Option R) (q0:Nat→LA→Nat→Int→Int→LA→Option R) (a:LA) (b:Bool) (j:Int):Option R :=
 (cond (Nat.ble 8 (List.length a)) (Aba N (List.take 8 a) b j (fun e i=>(q0 e i 0 ((e:Nat):Int) 0 []))) none)
def Bvv (N:Nat) (a:LA) (b:Bool) (j:Int) (r0:Nat→Nat→LA→LA→Option R):Option R:=(Bvu N r0 (fun e i c f d g=>(Av2 N r0 e b a i N c f d g)) a b j)
def A5f:=(Aj (@Bvv R)).1
theorem Bxv:@A5f R=@Bvv R:=(Aj _).2
def Age:Hints:={ H:=(hS (hR [1,2]) (hS (hR [2,6]) (hS (hR [2,6,7]) (hS (hS (hR [2,6,7,13,14,15]) (hN [6,7] (hN [2,6,7,13,14,15] (hS (hR [2,6,7,13,14,15,16]) (hS (hN [2,6,7,13,14,15] hL hL) (hS (hN [2,6,7,13,14,15] (hS (hR [2,6,7,9,13,14,15]) (hR [2,6,7,13,14,15])) hL) (hR [2,6,7,13,14,15])))) hL) hL)) (hS (hR [4,5]) hL))))),nils:=[(4,2),(5,1),(7,2)],modes:=[(2,2),(2,1)],free:=[],cob:=[] }
def Anm (N:Nat):List (Nat×Tw):=[(190,Aq5 N)]
def Ann (N:Nat):Env:=mkE 38 Age (Anm N)
def Bxw (N:Nat) (F:KF R):=Ar (Ann N) Tryz.f162 Age.modes [] F
def Bgg (N:Nat) (F:KF R):=atF (Ann N) [] N Tryz.f162 Age (Bxw N F)
def W9  (F:KF R):Nat→Nat→LA→LA→Option R:=(fun w x y z=>F (.tup [(.own 300000 0 w),(.own 300001 0 x)]) [(300000,⟨false,false,true,false,2,y,false⟩),(300001,⟨false,false,true,false,1,z,false⟩)])
def Qk (e:Nat) (b:Bool) (a i:LA) (c:Nat) (f d:Int) (g:LA):St:={ s:=[(2,(.optr 300000 0)),(6,(.own 300001 0 e)),(7,(.own 300002 0 c)),(13,(.own 300001 0 e)),(14,(.int .i64 f)),(15,(.int .i64 d))],h:=[(300000,⟨false,false,true,b,0,a,false⟩),(300001,⟨false,false,true,false,1,i,false⟩),(300002,⟨false,false,true,false,2,g,false⟩)] }
def Bgh (N:Nat) (F:KF R):St→Option R:=A4 (Ann N) [] N (Bgg N F [1,1,1,0,1,0] []) N
def Agf (N:Nat) (F:KF R) (n:Nat):St→Option R:=Av (Ann N) [] N (Bgg N F [1,1,1,0,1,0] []) n
theorem Bo1 (N:Nat)  (F:KF R) (e:Nat) (b:Bool) (a i:LA):∀ (n c:Nat) (f d:Int) (g:LA),Agf N F n (Qk e b a i c f d g)=(Av2 N (W9 F) e b a i n c f d g):=by
 intro n
 induction n with
 | zero=>intros;kernel_rfl
 | succ n ih =>
  intro c f d g
  have e0:=funext fun c=>funext fun f=>funext fun d=>funext fun g=>(show Agf N F n (Qk e b a i c f d g)=_ from ih c f d g)
  have hK:Agf N F (n+1) (Qk e b a i c f d g)=(A8c N (W9 F) e b a i (fun c f d g=>Agf N F n (Qk e b a i c f d g)) c f d g):=by kernel_rfl
  exact hK.trans (by rw [e0];rfl)
theorem Av3 (N:Nat) (a:LA) (b:Bool) (j:Int) (F:KF R):Ac Tryz.prog muts (Anm N) Age N 162 [(.pagg a b),(.int .i64 j)] [] F=(A5f N a b j (W9 F)):=by
 have e1:=funext fun e=>funext fun i=>funext fun c=>funext fun f=>funext fun d=>funext fun g=>(show Bgh N F (Qk e b a i c f d g)=_ from (An ..).trans (Bo1 N F e b a i N c f d g))
 have hK:Ac Tryz.prog muts (Anm N) Age N 162 [(.pagg a b),(.int .i64 j)] [] F=(Bvu N (W9 F) (fun e i c f d g=>Bgh N F (Qk e b a i c f d g)) a b j):=by kernel_rfl
 rw [Bxv]
 exact hK.trans (by rw [e1];rfl)
def Abb (N:Nat) (args:List AV) (h:Al) (k:KF R):Option R :=
 match args,h with
 | [(.pagg a b),(.int .i64 j)],[]=>(A5f N a b j (W9 k))
 | _,_=>none
def Bgi (N:Nat):Tw:=⟨Abb N,fun args h k=>by
 unfold Abb;split
 exact twE (Av3 ..) (Av3 ..)
 rfl⟩
theorem B2t (N:Nat):A0 Tryz.prog 162 (Bgi N):=fun args h res m hh=>by
 change Abb N args h (fun v m=>some (v,m))=_ at hh
 unfold Abb at hh;split at hh
 exact Aa (T:=Anm N) ⟨Bku N,trivial⟩ follows ((Av3 ..).trans hh)
 cases hh
end
end Gx

namespace Gx
open Go Go.Proofs
set_option maxRecDepth 100000
noncomputable section
variable {R:Type}
def Ax0 (N:Nat) (k1:Bool→LA→Option R) (r0:Nat→LA→Option R) (a:LA) (c:Nat) (e d:Bool) (b:Nat) (k2:Bool→Int→Int→LA→Option R)  (o:Bool) (j f:Int) (g:LA):Option R :=
 (cond (decide (f<j)) (cond (Ak f c) (cond (Nat.ble 2 (List.length (List.drop ((Int.toNat f)*2) a))) (cond ((!d)||(Bp (List.take 2 (List.drop ((Int.toNat f)*2) a)))) (cond ((Nat.beq (List.length (List.take 2 (List.drop ((Int.toNat f)*2) a))) 2)&&((Nat.ble 2 2)&&(!false))) (rdI .i64 (setCells [(.int .i64 0),(.int .i64 0)] 0 (List.take 2 (List.drop ((Int.toNat f)*2) a))) fun ab=>(cond (Ak ab b) (rdI .i64 (List.drop (0+((Int.toNat ab)*1)) g) fun r=>(rdI .i64 (List.drop 1 (setCells [(.int .i64 0),(.int .i64 0)] 0 (List.take 2 (List.drop ((Int.toNat f)*2) a)))) fun ac=>(cond (Ak ac b) (rdI .i64 (List.drop (0+((Int.toNat ac)*1)) g) fun t=>(cond (o==false) (rdI .i64 (setCells [(.int .i64 0),(.int .i64 0)] 0 (List.take 2 (List.drop ((Int.toNat f)*2) a))) fun ad=>(cond (Ak ad b) (rdI .i64 (List.drop (0+((Int.toNat ad)*1)) g) fun ag=>(cond ((cond false true (ag != (Ut r t)))==false) (rdI .i64 (List.drop 1 (setCells [(.int .i64 0),(.int .i64 0)] 0 (List.take 2 (List.drop ((Int.toNat f)*2) a)))) fun ae=>(cond (Ak ae b) (rdI .i64 (List.drop (0+((Int.toNat ae)*1)) g) fun ah=>(rdI .i64 (setCells [(.int .i64 0),(.int .i64 0)] 0 (List.take 2 (List.drop ((Int.toNat f)*2) a))) fun u=>(rdI .i64 (List.drop 1 (setCells [(.int .i64 0),(.int .i64 0)] 0 (List.take 2 (List.drop ((Int.toNat f)*2) a)))) fun y=>(cond (Ak u b) (cond ((Nat.beq 1 1)&&((Nat.ble ((0+((Int.toNat u)*1))+1) (List.length g))&&(!false))) (cond (Ak y b) (cond ((Nat.beq 1 1)&&((Nat.ble ((0+((Int.toNat y)*1))+1) (List.length (List.set g (0+((Int.toNat u)*1)) (.int .i64 (Ut r t)))))&&(!false))) (k2 (cond false true (ah != (Ut r t))) j (IntKind.wrap .i64 (f+(1:Int))) (List.set (List.set g (0+((Int.toNat u)*1)) (.int .i64 (Ut r t))) (0+((Int.toNat y)*1)) (.int .i64 (Ut r t)))) none) none) none) none)))) none)) (rdI .i64 (setCells [(.int .i64 0),(.int .i64 0)] 0 (List.take 2 (List.drop ((Int.toNat f)*2) a))) fun w=>(rdI .i64 (List.drop 1 (setCells [(.int .i64 0),(.int .i64 0)] 0 (List.take 2 (List.drop ((Int.toNat f)*2) a)))) fun z=>(cond (Ak w b) (cond ((Nat.beq 1 1)&&((Nat.ble ((0+((Int.toNat w)*1))+1) (List.length g))&&(!false))) (cond (Ak z b) (cond ((Nat.beq 1 1)&&((Nat.ble ((0+((Int.toNat z)*1))+1) (List.length (List.set g (0+((Int.toNat w)*1)) (.int .i64 (Ut r t)))))&&(!false))) (k2 true j (IntKind.wrap .i64 (f+(1:Int))) (List.set (List.set g (0+((Int.toNat w)*1)) (.int .i64 (Ut r t))) (0+((Int.toNat z)*1)) (.int .i64 (Ut r t)))) none) none) none) none))))) none)) (rdI .i64 (setCells [(.int .i64 0),(.int .i64 0)] 0 (List.take 2 (List.drop ((Int.toNat f)*2) a))) fun x=>(rdI .i64 (List.drop 1 (setCells [(.int .i64 0),(.int .i64 0)] 0 (List.take 2 (List.drop ((Int.toNat f)*2) a)))) fun aa=>(cond (Ak x b) (cond ((Nat.beq 1 1)&&((Nat.ble ((0+((Int.toNat x)*1))+1) (List.length g))&&(!false))) (cond (Ak aa b) (cond ((Nat.beq 1 1)&&((Nat.ble ((0+((Int.toNat aa)*1))+1) (List.length (List.set g (0+((Int.toNat x)*1)) (.int .i64 (Ut r t)))))&&(!false))) (k2 true j (IntKind.wrap .i64 (f+(1:Int))) (List.set (List.set g (0+((Int.toNat x)*1)) (.int .i64 (Ut r t))) (0+((Int.toNat aa)*1)) (.int .i64 (Ut r t)))) none) none) none) none))))) none))) none)) none) none) none) none) (k1 o g))
def Xa (N:Nat) (k1:Bool→LA→Option R) (r0:Nat→LA→Option R) (a:LA) (c:Nat) (e d:Bool) (b:Nat):Nat→Bool→Int→Int→LA→Option R
 | 0,_,_,_,_=>none
 | n+1,o,j,f,g=>(Ax0 N k1 r0 a c e d b (Xa N k1 r0 a c e d b n) o j f g)
def Ax1 (N:Nat)  (r0:Nat→LA→Option R) (a:LA) (c:Nat) (e d:Bool) (b:Nat) (k1:Bool→LA→Option R) (q2:Bool→Int→Int→LA→Option R) (p:Bool) (l:LA):Option R :=
 (cond p (q2 false ((c:Nat):Int) 0 l) (r0 b l))
def Oz (N:Nat)  (r0:Nat→LA→Option R) (a:LA) (c:Nat) (e d:Bool) (b:Nat):Nat→Bool→LA→Option R
 | 0,_,_=>none
 | n+1,p,l=>(Ax1 N r0 a c e d b (Oz N r0 a c e d b n) (fun o j f g=>(Xa N (Oz N r0 a c e d b n) r0 a c e d b N o j f g)) p l)
def Ax2 (N:Nat)  (r0:Nat→LA→Option R) (i:Int) (a:LA) (c:Nat) (e d:Bool) (k0:Nat→Int→LA→Option R) (q1:Bool→LA→Option R) (b:Nat) (m:Int) (q:LA):Option R :=
 (cond (decide (m<i)) (cond (Ak m b) (cond ((Nat.beq 1 1)&&((Nat.ble ((0+((Int.toNat m)*1))+1) (List.length q))&&(!false))) (k0 b (IntKind.wrap .i64 (m+(1:Int))) (List.set q (0+((Int.toNat m)*1)) (.int .i64 m))) none) none) (q1 true q))
def Akg (N:Nat)  (r0:Nat→LA→Option R) (i:Int) (a:LA) (c:Nat) (e d:Bool):Nat→Nat→Int→LA→Option R
 | 0,_,_,_=>none
 | n+1,b,m,q=>(Ax2 N r0 i a c e d (Akg N r0 i a c e d n) (fun p l=>(Oz N r0 a c e d b N p l)) b m q)
def Bgj (N:Nat) (r0:Nat→LA→Option R) (q0:Nat→Int→LA→Option R) (i:Int) (a:LA) (c:Nat) (e d:Bool):Option R :=
 (cond ((decide ((0:Int)≤i))&&((decide (i≤i))&&((decide (i≤(140737488355328:Int)))&&(decide ((i*((8:Nat):Int))≤(140737488355328:Int)))))) (q0 (Int.toNat i) 0 (List.replicate (Int.toNat i) (.int .i64 0))) none)
def Bgk (N:Nat) (i:Int) (a:LA) (c:Nat) (e d:Bool) (r0:Nat→LA→Option R):Option R:=(Bgj N r0 (fun b m q=>(Akg N r0 i a c e d N b m q)) i a c e d)
def Acg:=(Aj (@Bgk R)).1
theorem Bo2:@Acg R=@Bgk R:=(Aj _).2
def Xb:Hints:={ H:=(hS (hR [0,1]) (hS (hR [0,1,5]) (hS (hS (hR [0,1,5,6]) (hN [1,5] (hN [0,1,5,6] (hS (hS (hR [0,1,5,6,15]) (hN [0,1,5,6] hL hL)) (hS (hN [0,1,5,6] (hR [0,1,5,6]) hL) (hR [0,1,5,6]))) hL) hL)) (hS (hS (hR [1,5,7]) (hN [5] (hN [1,5,7] (hS (hS (hR [1,5,22]) (hN [1,5] hL hL)) (hN [1,5,7] (hS (hR [1,5,7]) (hS (hR [1,5,7,23,24,25]) (hN [1,5,7] (hN [1,5,7,23,24,25] (hS (hR [1,5,7,23,24,25,26]) (hS (hN [1,5,7,23,24,25] hL hL) (hS (hN [1,5,7,23,24,25] (hS (hR [1,5,7,9,23,24,25]) (hS (hR [1,5,7,9,10,23,24,25]) (hS (hR [1,5,7,9,10,23,24,25]) (hR [1,5,7,23,24,25])))) hL) (hR [1,5,7,23,24,25])))) hL) hL))) hL)) hL) hL)) (hS (hR [4]) hL))))),nils:=[(4,1)],modes:=[(2,1)],free:=[],cob:=[] }
def Abc (N:Nat):List (Nat×Tw):=[]
def Gh (N:Nat):Env:=mkE 71 Xb (Abc N)
def Bo3 (N:Nat) (F:KF R):=Ar (Gh N) Tryz.f192 Xb.modes [] F
def Kq (N:Nat) (F:KF R):=atF (Gh N) [] N Tryz.f192 Xb (Bo3 N F)
def C3  (F:KF R):Nat→LA→Option R:=(fun ai aj=>F (.own 300000 0 ai) [(300000,⟨false,false,true,false,1,aj,false⟩)])
def Kr (a:LA) (c:Nat) (e d:Bool) (b:Nat) (o:Bool) (j f:Int) (g:LA):St:={ s:=[(1,(.imm a c 2 e d)),(5,(.own 300000 0 b)),(7,(.bool o)),(23,(.imm a c 2 e d)),(24,(.int .i64 j)),(25,(.int .i64 f))],h:=[(300000,⟨false,false,true,false,1,g,false⟩)] }
def A3d (N:Nat) (F:KF R) (Q1:St→Option R):St→Option R:=A4 (Gh N) [] N (Kq N F [1,1,1,0,1,0,0,1,0,1,1,0] [Q1]) N
def Xc (N:Nat) (F:KF R) (Q1:St→Option R) (n:Nat):St→Option R:=Av (Gh N) [] N (Kq N F [1,1,1,0,1,0,0,1,0,1,1,0] [Q1]) n
def E6 (a:LA) (c:Nat) (e d:Bool) (b:Nat) (p:Bool) (l:LA):St:={ s:=[(1,(.imm a c 2 e d)),(5,(.own 300000 0 b)),(7,(.bool p))],h:=[(300000,⟨false,false,true,false,1,l,false⟩)] }
def A3e (N:Nat) (F:KF R):St→Option R:=A4 (Gh N) [] N (Kq N F [1,1,1,0,1,0] []) N
def He (N:Nat) (F:KF R) (n:Nat):St→Option R:=Av (Gh N) [] N (Kq N F [1,1,1,0,1,0] []) n
def Ks (i:Int) (a:LA) (c:Nat) (e d:Bool) (b:Nat) (m:Int) (q:LA):St:={ s:=[(0,(.int .i64 i)),(1,(.imm a c 2 e d)),(5,(.own 300000 0 b)),(6,(.int .i64 m))],h:=[(300000,⟨false,false,true,false,1,q,false⟩)] }
def A3f (N:Nat) (F:KF R):St→Option R:=A4 (Gh N) [] N (Kq N F [1,1,0,1,0] []) N
def Xd (N:Nat) (F:KF R) (n:Nat):St→Option R:=Av (Gh N) [] N (Kq N F [1,1,0,1,0] []) n
theorem Bgl (N:Nat) (Q1:St→Option R) (F:KF R) (a:LA) (c:Nat) (e d:Bool) (b:Nat):∀ (n:Nat) (o:Bool) (j f:Int) (g:LA),Xc N F Q1 n (Kr a c e d b o j f g)=(Xa N (fun p l=>Q1 (E6 a c e d b p l)) (C3 F) a c e d b n o j f g):=by
 intro n
 induction n with
 | zero=>intros;kernel_rfl
 | succ n ih =>
  intro o j f g
  have e0:=funext fun o=>funext fun j=>funext fun f=>funext fun g=>(show Xc N F Q1 n (Kr a c e d b o j f g)=_ from ih o j f g)
  have hK:Xc N F Q1 (n+1) (Kr a c e d b o j f g)=(Ax0 N (fun p l=>Q1 (E6 a c e d b p l)) (C3 F) a c e d b (fun o j f g=>Xc N F Q1 n (Kr a c e d b o j f g)) o j f g):=by kernel_rfl
  exact hK.trans (by rw [e0];rfl)
theorem Bgm (N:Nat)  (F:KF R) (a:LA) (c:Nat) (e d:Bool) (b:Nat):∀ (n:Nat) (p:Bool) (l:LA),He N F n (E6 a c e d b p l)=(Oz N (C3 F) a c e d b n p l):=by
 intro n
 induction n with
 | zero=>intros;kernel_rfl
 | succ n ih =>
  intro p l
  have e0:=funext fun p=>funext fun l=>(show He N F n (E6 a c e d b p l)=_ from ih p l)
  have e1:(fun o j f g=>A3d N F (He N F n) (Kr a c e d b o j f g))=(fun o j f g=>(Xa N (Oz N (C3 F) a c e d b n) (C3 F) a c e d b N o j f g)):=by funext o;funext j;funext f;funext g;exact ((An ..).trans (Bgl N (He N F n) F a c e d b N o j f g)).trans (by rw [e0])
  have hK:He N F (n+1) (E6 a c e d b p l)=(Ax1 N (C3 F) a c e d b (fun p l=>He N F n (E6 a c e d b p l)) (fun o j f g=>A3d N F (He N F n) (Kr a c e d b o j f g)) p l):=by kernel_rfl
  exact hK.trans (by rw [e0,e1];rfl)
theorem Bgn (N:Nat)  (F:KF R) (i:Int) (a:LA) (c:Nat) (e d:Bool):∀ (n b:Nat) (m:Int) (q:LA),Xd N F n (Ks i a c e d b m q)=(Akg N (C3 F) i a c e d n b m q):=by
 intro n
 induction n with
 | zero=>intros;kernel_rfl
 | succ n ih =>
  intro b m q
  have e0:=funext fun b=>funext fun m=>funext fun q=>(show Xd N F n (Ks i a c e d b m q)=_ from ih b m q)
  have e1:=funext fun p=>funext fun l=>(show A3e N F (E6 a c e d b p l)=_ from (An ..).trans (Bgm N F a c e d b N p l))
  have hK:Xd N F (n+1) (Ks i a c e d b m q)=(Ax2 N (C3 F) i a c e d (fun b m q=>Xd N F n (Ks i a c e d b m q)) (fun p l=>A3e N F (E6 a c e d b p l)) b m q):=by kernel_rfl
  exact hK.trans (by rw [e0,e1];rfl)
theorem Akh (N:Nat) (i:Int) (a:LA) (c:Nat) (e d:Bool) (F:KF R):Ac Tryz.prog muts (Abc N) Xb N 192 [(.int .i64 i),(.imm a c 2 e d)] [] F=(Acg N i a c e d (C3 F)):=by
 have e1:=funext fun b=>funext fun m=>funext fun q=>(show A3f N F (Ks i a c e d b m q)=_ from (An ..).trans (Bgn N F i a c e d N b m q))
 have hK:Ac Tryz.prog muts (Abc N) Xb N 192 [(.int .i64 i),(.imm a c 2 e d)] [] F=(Bgj N (C3 F) (fun b m q=>A3f N F (Ks i a c e d b m q)) i a c e d):=by kernel_rfl
 rw [Bo2]
 exact hK.trans (by rw [e1];rfl)
def Tc (N:Nat) (args:List AV) (h:Al) (k:KF R):Option R :=
 match args,h with
 | [(.int .i64 i),(.imm a c 2 e d)],[]=>(Acg N i a c e d (C3 k))
 | _,_=>none
def A3g (N:Nat):Tw:=⟨Tc N,fun args h k=>by
 unfold Tc;split
 exact twE (Akh ..) (Akh ..)
 rfl⟩
theorem Bvw (N:Nat):A0 Tryz.prog 192 (A3g N):=fun args h res af hh=>by
 change Tc N args h (fun v af=>some (v,af))=_ at hh
 unfold Tc at hh;split at hh
 exact Aa (T:=Abc N) trivial follows ((Akh ..).trans hh)
 cases hh
def A8d (N:Nat)  (r0:Int→Option R) (c:LA) (a:Nat) (d e:Bool) (k0:Int→Int→Option R)  (f b:Int):Option R :=
 (cond (decide (b<((a:Nat):Int))) (cond (Ak b a) (rdI .i64 (List.drop ((Int.toNat b)*1) c) fun i=>(cond (i==b) (k0 (IntKind.wrap .i64 (f+(1:Int))) (IntKind.wrap .i64 (b+(1:Int)))) (k0 f (IntKind.wrap .i64 (b+(1:Int)))))) none) (r0 f))
def Av4 (N:Nat)  (r0:Int→Option R) (c:LA) (a:Nat) (d e:Bool):Nat→Int→Int→Option R
 | 0,_,_=>none
 | n+1,f,b=>(A8d N r0 c a d e (Av4 N r0 c a d e n) f b)
def Bvx (N:Nat) (r0:Int→Option R) (q0:Int→Int→Option R) (c:LA) (a:Nat) (d e:Bool):Option R :=
 (q0 0 0)
def Bvy (N:Nat) (c:LA) (a:Nat) (d e:Bool) (r0:Int→Option R):Option R:=(Bvx N r0 (fun f b=>(Av4 N r0 c a d e N f b)) c a d e)
def Aq6:=(Aj (@Bvy R)).1
theorem Bxx:@Aq6 R=@Bvy R:=(Aj _).2
def Agg:Hints:={ H:=(hS (hR [0]) (hS (hR [0,3]) (hS (hS (hR [0,3,4]) (hN [3] (hN [0,3,4] (hS (hS (hR [0,3,4,8]) (hN [0,3,4] hL hL)) (hS (hN [0,3,4] (hS (hR [0,3,4,16]) (hN [0,3,4] (hR [0,3,4]) hL)) hL) (hR [0,3,4]))) hL) hL)) (hS (hR [2]) hL)))),nils:=[],modes:=[],free:=[],cob:=[] }
def Ano (N:Nat):List (Nat×Tw):=[]
def Anp (N:Nat):Env:=mkE 20 Agg (Ano N)
def Bxy (N:Nat) (F:KF R):=Ar (Anp N) Tryz.f191 Agg.modes [] F
def Bgo (N:Nat) (F:KF R):=atF (Anp N) [] N Tryz.f191 Agg (Bxy N F)
def Xe  (F:KF R):Int→Option R:=(fun j=>F (.int .i64 j) [])
def Ql (c:LA) (a:Nat) (d e:Bool) (f b:Int):St:={ s:=[(0,(.imm c a 1 d e)),(3,(.int .i64 f)),(4,(.int .i64 b))],h:=[] }
def Bgp (N:Nat) (F:KF R):St→Option R:=A4 (Anp N) [] N (Bgo N F [1,1,0,1,0] []) N
def Agh (N:Nat) (F:KF R) (n:Nat):St→Option R:=Av (Anp N) [] N (Bgo N F [1,1,0,1,0] []) n
theorem Bo4 (N:Nat)  (F:KF R) (c:LA) (a:Nat) (d e:Bool):∀ (n:Nat) (f b:Int),Agh N F n (Ql c a d e f b)=(Av4 N (Xe F) c a d e n f b):=by
 intro n
 induction n with
 | zero=>intros;kernel_rfl
 | succ n ih =>
  intro f b
  have e0:=funext fun f=>funext fun b=>(show Agh N F n (Ql c a d e f b)=_ from ih f b)
  have hK:Agh N F (n+1) (Ql c a d e f b)=(A8d N (Xe F) c a d e (fun f b=>Agh N F n (Ql c a d e f b)) f b):=by kernel_rfl
  exact hK.trans (by rw [e0];rfl)
theorem Av5 (N:Nat) (c:LA) (a:Nat) (d e:Bool) (F:KF R):Ac Tryz.prog muts (Ano N) Agg N 191 [(.imm c a 1 d e)] [] F=(Aq6 N c a d e (Xe F)):=by
 have e1:=funext fun f=>funext fun b=>(show Bgp N F (Ql c a d e f b)=_ from (An ..).trans (Bo4 N F c a d e N f b))
 have hK:Ac Tryz.prog muts (Ano N) Agg N 191 [(.imm c a 1 d e)] [] F=(Bvx N (Xe F) (fun f b=>Bgp N F (Ql c a d e f b)) c a d e):=by kernel_rfl
 rw [Bxx]
 exact hK.trans (by rw [e1];rfl)
def Abd (N:Nat) (args:List AV) (h:Al) (k:KF R):Option R :=
 match args,h with
 | [(.imm c a 1 d e)],[]=>(Aq6 N c a d e (Xe k))
 | _,_=>none
def Bgq (N:Nat):Tw:=⟨Abd N,fun args h k=>by
 unfold Abd;split
 exact twE (Av5 ..) (Av5 ..)
 rfl⟩
theorem B2u (N:Nat):A0 Tryz.prog 191 (Bgq N):=fun args h res g hh=>by
 change Abd N args h (fun v g=>some (v,g))=_ at hh
 unfold Abd at hh;split at hh
 exact Aa (T:=Ano N) trivial follows ((Av5 ..).trans hh)
 cases hh
def Anq (N:Nat)  (r0:Bool→Option R) (e:Int) (a:LA) (c:Nat) (l f:Bool) (g:LA) (i:Nat) (m j:Bool) (k0:Nat→Int→LA→Option R)  (d:Nat) (b:Int) (o:LA):Option R :=
 (cond (decide (b<((c:Nat):Int))) (A5c N g i false j b (fun t=>(cond (!t) (cond (Ak b c) (cond (Nat.ble 2 (List.length (List.drop ((Int.toNat b)*2) a))) (cond ((!f)||(Bp (List.take 2 (List.drop ((Int.toNat b)*2) a)))) (cond ((Nat.beq (List.length (List.take 2 (List.drop ((Int.toNat b)*2) a))) 2)&&(Nat.ble 2 2)) (cond ((Nat.ble (d+1) 140737488355328)&&(Nat.ble ((d+1)*16) 140737488355328)) (k0 (d+1) (IntKind.wrap .i64 (b+(1:Int))) ((List.take (d*2) o)++(List.take 2 (setCells [(.int .i64 0),(.int .i64 0)] 0 (List.take 2 (List.drop ((Int.toNat b)*2) a)))))) none) none) none) none) none) (k0 d (IntKind.wrap .i64 (b+(1:Int))) o)))) (Acg N e (List.take (d*2) o) d false true (fun p u=>(Aq6 N (List.take (p*1) u) p false true (fun w=>(Acg N e a c false f (fun q x=>(Aq6 N (List.take (q*1) x) q false true (fun y=>(r0 (decide (w>y))))))))))))
def Zj (N:Nat)  (r0:Bool→Option R) (e:Int) (a:LA) (c:Nat) (l f:Bool) (g:LA) (i:Nat) (m j:Bool):Nat→Nat→Int→LA→Option R
 | 0,_,_,_=>none
 | n+1,d,b,o=>(Anq N r0 e a c l f g i m j (Zj N r0 e a c l f g i m j n) d b o)
def A3h (N:Nat) (r0:Bool→Option R) (q0:Nat→Int→LA→Option R) (e:Int) (a:LA) (c:Nat) (l f:Bool) (g:LA) (i:Nat) (m j:Bool):Option R :=
 (q0 0 0 [])
def A3i (N:Nat) (e:Int) (a:LA) (c:Nat) (l f:Bool) (g:LA) (i:Nat) (m j:Bool) (r0:Bool→Option R):Option R:=(A3h N r0 (fun d b o=>(Zj N r0 e a c l f g i m j N d b o)) e a c l f g i m j)
def Abe:=(Aj (@A3i R)).1
theorem Bgr:@Abe R=@A3i R:=(Aj _).2
def Qm:Hints:={ H:=(hS (hR [0,1,2]) (hS (hR [0,1,2,7]) (hS (hS (hR [0,1,2,7,8]) (hN [0,1,7] (hN [0,1,2,7,8] (hS (hS (hR [0,1,2,7,8,12]) (hN [0,1,2,7,8] hL hL)) (hS (hN [0,1,2,7,8] (hS (hR [0,1,2,7,8,18]) (hN [0,1,2,7,8] (hR [0,1,2,7,8]) hL)) hL) (hR [0,1,2,7,8]))) hL) hL)) (hS (hR [6]) hL)))),nils:=[(7,2)],modes:=[],free:=[],cob:=[] }
def Td (N:Nat):List (Nat×Tw):=[(163,Av1 N),(192,A3g N),(191,Bgq N)]
def Te (N:Nat):Env:=mkE 35 Qm (Td N)
def Bgs (N:Nat) (F:KF R):=Ar (Te N) Tryz.f164 Qm.modes [] F
def Aq7 (N:Nat) (F:KF R):=atF (Te N) [] N Tryz.f164 Qm (Bgs N F)
def Kt  (F:KF R):Bool→Option R:=(fun z=>F (.bool z) [])
def Gv (e:Int) (a:LA) (c:Nat) (l f:Bool) (g:LA) (i:Nat) (m j:Bool) (d:Nat) (b:Int) (o:LA):St:={ s:=[(0,(.int .i64 e)),(1,(.imm a c 2 l f)),(2,(.imm g i 1 m j)),(7,(.own 300000 0 d)),(8,(.int .i64 b))],h:=[(300000,⟨false,false,true,false,2,o,false⟩)] }
def Aq8 (N:Nat) (F:KF R):St→Option R:=A4 (Te N) [] N (Aq7 N F [1,1,0,1,0] []) N
def Qn (N:Nat) (F:KF R) (n:Nat):St→Option R:=Av (Te N) [] N (Aq7 N F [1,1,0,1,0] []) n
theorem A5z (N:Nat)  (F:KF R) (e:Int) (a:LA) (c:Nat) (l f:Bool) (g:LA) (i:Nat) (m j:Bool):∀ (n d:Nat) (b:Int) (o:LA),Qn N F n (Gv e a c l f g i m j d b o)=(Zj N (Kt F) e a c l f g i m j n d b o):=by
 intro n
 induction n with
 | zero=>intros;kernel_rfl
 | succ n ih =>
  intro d b o
  have e0:=funext fun d=>funext fun b=>funext fun o=>(show Qn N F n (Gv e a c l f g i m j d b o)=_ from ih d b o)
  have hK:Qn N F (n+1) (Gv e a c l f g i m j d b o)=(Anq N (Kt F) e a c l f g i m j (fun d b o=>Qn N F n (Gv e a c l f g i m j d b o)) d b o):=by kernel_rfl
  exact hK.trans (by rw [e0];rfl)
theorem Zk (N:Nat) (e:Int) (a:LA) (c:Nat) (l f:Bool) (g:LA) (i:Nat) (m j:Bool) (F:KF R):Ac Tryz.prog muts (Td N) Qm N 164 [(.int .i64 e),(.imm a c 2 l f),(.imm g i 1 m j)] [] F=(Abe N e a c l f g i m j (Kt F)):=by
 have e1:=funext fun d=>funext fun b=>funext fun o=>(show Aq8 N F (Gv e a c l f g i m j d b o)=_ from (An ..).trans (A5z N F e a c l f g i m j N d b o))
 have hK:Ac Tryz.prog muts (Td N) Qm N 164 [(.int .i64 e),(.imm a c 2 l f),(.imm g i 1 m j)] [] F=(A3h N (Kt F) (fun d b o=>Aq8 N F (Gv e a c l f g i m j d b o)) e a c l f g i m j):=by kernel_rfl
 rw [Bgr]
 exact hK.trans (by rw [e1];rfl)
def Nz (N:Nat) (args:List AV) (h:Al) (k:KF R):Option R :=
 match args,h with
 | [(.int .i64 e),(.imm a c 2 l f),(.imm g i 1 m j)],[]=>(Abe N e a c l f g i m j (Kt k))
 | _,_=>none
def Aq9 (N:Nat):Tw:=⟨Nz N,fun args h k=>by
 unfold Nz;split
 exact twE (Zk ..) (Zk ..)
 rfl⟩
theorem Bkv (N:Nat):A0 Tryz.prog 164 (Aq9 N):=fun args h res r hh=>by
 change Nz N args h (fun v r=>some (v,r))=_ at hh
 unfold Nz at hh;split at hh
 exact Aa (T:=Td N) ⟨Bcl N,Bvw N,B2u N,trivial⟩ follows ((Zk ..).trans hh)
 cases hh
end
end Gx
