/- A part of the proof: what it holds is said by each theorem. -/
import Derived.Laws.BitsLemmas
import Derived.Laws.RangeAny
import Derived.Laws.RangeString
import Derived.Lib.AtoiAllCases
import Derived.Lib.IndexMore
import Derived.Test.YtjmfofdghmlldaaGreatDoorP3V
set_option linter.unusedVariables false
set_option linter.defProp false
set_option linter.unusedSimpArgs false
namespace Gx
open Go Go.Proofs
section
variable {R:Type}
theorem A29 {v:Nat} (h:(Ba v).length≤2):v<18446744073709551616:=by
 have:=Lj (Av v)
 rw[Ax] at this
 have b:4294967296 ^ (Ba v).length≤4294967296 ^ 2:=Nat.pow_le_pow_right (by omega) h
 omega
theorem zL {v:Nat} (h:v<18446744073709551616):(Ba v).length≤2:=MW (by simpa using h)
theorem A44 {N:Nat} {l:List Nat} {n:Nat} {t o:Bool} {K:Int→O R} (hn:n=l.length) (b:Aw l) (c:l.length≤2) (hN:4≤N):gY N (Au l) n t o K=K (val l:Int):=by
 subst hn
 obtain⟨M,rfl⟩:∃ M,N=M+4:=⟨N - 4,by omega⟩
 rw[uY];unfold nq
 match l,b,c with
 | [],_,_ =>
  dsimp only
  rw[Kv];unfold Me
  simp[val]
 | [x],b,_ =>
  have d:=(E9.1 b).1
  dsimp only
  rw[Kv];unfold Me
  simp only[List.length_cons,List.length_nil,Int.toNat_zero,Nat.zero_mul,List.drop_zero,gT,A6]
  rw[show decide ((0:Int)<((0+1:Nat):Int))=true by decide,ct,show Ae 0 (0+1)=true by decide,ct,show IntKind.wrap .i64 ((32:Int)*0)=0 by decide,show decide ((0:Int)<0)=false by decide,cf]
  rw[Kv];unfold Me
  rw[show IntKind.wrap .i64 ((0:Int)+1)=1 by decide,show decide ((1:Int)<((0+1:Nat):Int))=false by decide,cf]
  have e:IntKind.wrap .u64 ((IntKind.wrap .u64 (x:Int))*2 ^ (min (Int.toNat 0) 64))=(x:Int):=by rw[a7 (by omega)];simp;exact a7 (by omega)
  rw[e,show(0:Int)=((0:Nat):Int) by rfl,A8r (by omega) (by omega)]
  simp[val]
 | [x,y],b,_ =>
  have d:=(E9.1 b).1
  have i:=(E9.1 (E9.1 b).2).1
  dsimp only
  rw[Kv];unfold Me
  simp only[List.length_cons,List.length_nil,Int.toNat_zero,Nat.zero_mul,List.drop_zero,gT,A6]
  rw[show decide ((0:Int)<((0+1+1:Nat):Int))=true by decide,ct,show Ae 0 (0+1+1)=true by decide,ct,show IntKind.wrap .i64 ((32:Int)*0)=0 by decide,show decide ((0:Int)<0)=false by decide,cf]
  rw[Kv];unfold Me
  rw[show IntKind.wrap .i64 ((0:Int)+1)=1 by decide,show decide ((1:Int)<((0+1+1:Nat):Int))=true by decide,ct,show Ae 1 (0+1+1)=true by decide,ct,show IntKind.wrap .i64 ((32:Int)*1)=32 by decide,show decide ((32:Int)<0)=false by decide]
  simp only[show Int.toNat 1*1=1 by rfl,List.drop_succ_cons,List.drop_zero,A6,cf]
  rw[Kv];unfold Me
  rw[show IntKind.wrap .i64 ((1:Int)+1)=2 by decide,show decide ((2:Int)<((0+1+1:Nat):Int))=false by decide,cf]
  have e:IntKind.wrap .u64 ((IntKind.wrap .u64 (x:Int))*2 ^ (min (Int.toNat 0) 64))=(x:Int):=by rw[a7 (by omega)];simp;exact a7 (by omega)
  have f:IntKind.wrap .u64 ((IntKind.wrap .u64 (y:Int))*2 ^ (min (Int.toNat 32) 64))=((y*2 ^ 32:Nat):Int):=by
   rw[a7 (by omega),show(2:Int) ^ (min (Int.toNat 32) 64)=((2 ^ 32:Nat):Int) by rfl,A98,a7 (by omega)]
  rw[e,f,show(0:Int)=((0:Nat):Int) by rfl,A8r (by omega) (by omega),A8r (by simp;omega) (by omega),Nat.zero_or,Nat.or_comm,Ay7 (by omega)]
  congr 1;simp only[val];omega
theorem A1b {N:Nat} {v:Nat} (e:v<18446744073709551616) (hN:4≤N):∃ S,Aw S∧val S=v∧∀ K:Nat→LA→O R,Ob N (v:Int) K=K (Ba v).length (Au S):=by
 have d:Aw [v%4294967296,v/4294967296]:=E9.2 ⟨by omega,E9.2 ⟨by omega,gS⟩⟩
 have b:val [v%4294967296,v/4294967296]=v:=by simp[val];omega
 refine⟨_,d,b,fun K=>?_⟩
 rw[JG];unfold GO
 rw[Atg,Ay6,A9q (show v/4294967296<4294967296 by omega)]
 have:=Afw (R:=R) (N:=N) (l:=[v%4294967296,v/4294967296]) (K:=fun c=>K c (Au [v%4294967296,v/4294967296])) d (by simp) 2 N (by simp) (by omega)
 rw[show [v%4294967296,v/4294967296].take 2=[v%4294967296,v/4294967296] by rfl,b] at this
 rw[mL];unfold nZ
 exact this
theorem xH {N:Nat} {l:List Nat} {n:Nat} {t o:Bool} {K:Int→Bool→O R} (hn:n=l.length) (c:Aw l) (b:fit l.length N):FR N (Au l) n t o K=if val l<18446744073709551616 then K (val l:Int) true else K 0 false:=by
 have e:=b.1
 rw[jK];unfold mR
 rw[Ec hn c b]
 by_cases h:val l<18446744073709551616
 ·have:=zL h
  rw[if_pos h,show decide ((((Ba (val l)).length:Nat):Int)>2)=false by simp;omega,cf,A44 rfl (Av _) this (by omega),Ax]
 ·have:¬ (Ba (val l)).length≤2:=fun d=>h (A29 d)
  rw[if_neg h,show decide ((((Ba (val l)).length:Nat):Int)>2)=true by simp;omega,ct]
theorem A45 {N:Nat} {l:List Nat} {n:Nat} {t o:Bool} {K:Nat→LA→O R} (hn:n=l.length) (c:Aw l) (b:fit l.length N):ng N (Au l) n t o K=K (Ba (val l)).length (Au (Ba (val l))):=by
 have d:=b.1;have e:=b.2
 have:=(D2 c).2
 rw[uW];unfold Aas
 rw[Ec hn c b,Bai (by omega),ct,JF,Bool.or_true,ct]
 congr 1
 unfold C4
 rw[Nat.min_self,Nat.mul_one,List.take_zero,List.nil_append,List.take_of_length_le (by rw[C1];exact Nat.le_refl _),List.drop_eq_nil_of_le (by simp[C1]),List.append_nil]
end
end Gx

namespace Gx
open Go Go.Proofs
section
variable {R:Type}
theorem Amb {X:List Nat} {n:Nat} (h:X.length=n+1):val X=val (X.take n)+4294967296 ^ n*X[n]:=by
 have:=Cx (l:=X) (c:=n) (by omega)
 rwa [List.take_of_length_le (by omega)] at this
end
end Gx

namespace Gx
open Go Go.Proofs
section
variable {R:Type}
theorem A7q (a b:Nat):Int.tdiv (a:Int) (b:Int)=((a/b:Nat):Int):=rfl
theorem A7r (a b:Nat):Int.tmod (a:Int) (b:Int)=((a%b:Nat):Int):=rfl
theorem Bb9 {a b:Nat} (c:a<4294967296) (d:b<4294967296):uU .u64 (IntKind.wrap .u64 ((a:Int)*2 ^ 32)) (b:Int)=((a*4294967296+b:Nat):Int):=by
 rw[show(2:Int) ^ 32=((2 ^ 32:Nat):Int) by rfl,A98,a7 (by omega),A8r (by omega) (by omega),Ay7 (by omega)]
end
end Gx

namespace Gx
open Go Go.Proofs
section
variable {R:Type}
theorem A7s {l:List Nat} {d:Nat} (h:d<l.length):val (l.drop d)=l[d]+4294967296*val (l.drop (d+1)):=by
 rw[List.drop_eq_getElem_cons h,val]
end
end Gx

namespace Gx
open Go Go.Proofs
section
variable {R:Type}
theorem A1c {S:List Nat} {n:Nat} (hS:Aw S) (h:S.length=n+1):val S<(S[n]+1)*4294967296 ^ n:=by
 have c:=Amb h
 have b:=Lj (Mr hS n)
 rw[List.length_take,Nat.min_eq_left (by omega)] at b
 rw[Nat.add_mul,Nat.mul_comm S[n]];omega
end
end Gx

namespace Gx
open Go Go.Proofs
section
variable {R:Type}
theorem A7t {x y:Nat} (c:1≤y) (h:y≤x):2*(y*(x%y))≤x*y:=by
 have d:=Nat.div_add_mod x y
 have e:=Nat.mod_lt x (show 0<y by omega)
 have hq:1≤x/y:=by rw[Nat.le_div_iff_mul_le (by omega)];omega
 have f:y*1≤y*(x/y):=Nat.mul_le_mul_left _ hq
 have b:2*(x%y)≤x:=by omega
 have:=Nat.mul_le_mul_left y b
 rw[Nat.mul_comm x y,Nat.mul_left_comm];exact this
end
end Gx

namespace Gx
open Go Go.Proofs
section
variable {R:Type}
theorem t_ {a:List Nat} (b:Aw a) (i:Nat):a.getD i 0<4294967296:=by
 by_cases h:i<a.length
 ·rw[List.getD_eq_getElem?_getD,List.getElem?_eq_getElem h];exact Jv b h
 ·rw[List.getD_eq_getElem?_getD,List.getElem?_eq_none (by omega)];simp
end
end Gx

namespace Gx
open Go Go.Proofs
section
variable {R:Type}
theorem A7u (n m:Nat):4294967296 ^ n*4294967296 ^ m=2 ^ (32*(n+m)):=by
 rw[←Nat.pow_add,show(4294967296:Nat)=2 ^ 32 by rfl,←Nat.pow_mul]
end
end Gx

namespace Gx
open Go Go.Proofs
section
variable {R:Type}
theorem Bbl {c:Nat} (h:c≤1000000000000):((Nat.ble (0+c) 140737488355328)&&(Nat.ble ((0+c)*4) 140737488355328))=true:=by simp;omega
theorem mg {N:Nat} {l:List Nat} {t o:Bool} {K:Nat→LA→O R} (b:Aw l) (hs:l.length≤1000000000000):∀ (c fuel:Nat),c≤l.length→c<fuel →
  Pk N K (Au l) l.length t o fuel (c:Int)=K (Ba (val (l.take c))).length (Au (Ba (val (l.take c))))
 | 0,fuel+1,d,_=>by
  rw[Pk];unfold EC
  rw[show decide (((0:Nat):Int)>0)=false by simp]
  rw[show((false:Bool)==true)=false by rfl,cf,Bav (by omega),ct,Int.toNat_natCast,Nat.mul_one,gU,JF,Bool.or_true,ct,Bbl (by omega),ct];rfl
 | c+1,fuel+1,d,e=>by
  rw[Pk];unfold EC
  rw[Bah,ct,wP (by omega),Ab (by omega),ct,Aja (by omega),Bag,Bav (by omega),ct,mg b hs c fuel (by omega) (by omega),Int.toNat_natCast,Nat.mul_one,gU,JF,Bool.or_true,ct,Bbl (by omega),ct,Nat.zero_add]
  by_cases h0:l[c]=0
  ·rw[Cx (by omega),h0];simp
  ·rw[Aqg b (by omega) h0,List.length_take,Nat.min_eq_left d]
   rw[A9s h0,cf]
theorem Er {N:Nat} {l:List Nat} {n:Nat} {t o:Bool} {K:Nat→LA→O R} (hn:n=l.length) (c:Aw l) (b:fit l.length N):Ev N (Au l) n t o K=K (Ba (val l)).length (Au (Ba (val l))):=by
 subst hn
 have d:=b.1;have e:=b.2
 rw[TH];unfold OZ
 dsimp only
 rw[mg c (by omega) l.length N (Nat.le_refl _) (by omega),List.take_length]
theorem Awo {N:Nat} {a b:List Nat} {t o t' o':Bool} {K:Bool→O R} (hs:a.length≤1000000000000) (f:a.length=b.length):∀ (m j fuel:Nat),j+m=a.length→m<fuel →
  Mu N K (Au a) a.length t o (Au b) b.length t' o' fuel (j:Int)=K (decide (a.drop j=b.drop j))
 | 0,j,fuel+1,i,_=>by
  rw[Mu];unfold Y4
  rw[Jf (by omega),cf,List.drop_eq_nil_of_le (by omega),List.drop_eq_nil_of_le (by omega)];simp
 | m+1,j,fuel+1,i,k=>by
  have d:j<a.length:=by omega
  have e:j<b.length:=by omega
  rw[Mu];unfold Y4
  rw[Hy d,ct,Ab d,ct,Aja d,Ab e,ct,Aja e,wS (by omega),Awo hs f m (j+1) fuel (by omega) (by omega),List.drop_eq_getElem_cons d,List.drop_eq_getElem_cons e]
  by_cases h:a[j]=b[j]
  ·rw[show((((a[j]:Nat):Int) != ((b[j]:Nat):Int)))=false by simp[h],cf];congr 1;rw[decide_eq_decide,List.cons.injEq];exact⟨fun c=>⟨h,c⟩,fun c=>c.2⟩
  ·rw[show((((a[j]:Nat):Int) != ((b[j]:Nat):Int)))=true by rw[bne_iff_ne];omega,ct];congr 1;symm;rw[decide_eq_false_iff_not,List.cons.injEq];exact fun c=>h c.1
theorem A7v {N:Nat} {a b:List Nat} {n m:Nat} {t o t' o':Bool} {K:Bool→O R} (hn:n=a.length) (e:m=b.length) (d:fit a.length N):FS N (Au a) n t o (Au b) m t' o' K=K (decide (a=b)):=by
 subst hn e
 have f:=d.1;have i:=d.2
 rw[jM];unfold TJ
 by_cases c:a.length=b.length
 ·rw[show(((a.length:Nat):Int) != ((b.length:Nat):Int))=false by simp[c],cf]
  have:=Awo (R:=R) (N:=N) (t:=t) (o:=o) (t':=t') (o':=o') (K:=K) (by omega) c a.length 0 N (by omega) (by omega)
  simpa using this
 ·rw[show(((a.length:Nat):Int) != ((b.length:Nat):Int))=true by rw[bne_iff_ne];omega,ct]
  congr 1;symm;rw[decide_eq_false_iff_not];intro h;exact c (by rw[h])
theorem MI {N:Nat} {v:Nat} {K:Nat→LA→O R} (d:v<18446744073709551616) (hN:4≤N):Gn N (v:Int) K=K (Ba v).length (Au (Ba v)):=by
 have c:Aw [v%4294967296,v/4294967296]:=E9.2 ⟨by omega,E9.2 ⟨by omega,gS⟩⟩
 have b:val [v%4294967296,v/4294967296]=v:=by simp[val];omega
 rw[GT];unfold CD
 rw[Atg,Ay6,A9q (show v/4294967296<4294967296 by omega)]
 have:=mg (R:=R) (N:=N) (l:=[v%4294967296,v/4294967296]) (t:=false) (o:=true) (K:=K) c (by simp) 2 N (by simp) (by omega)
 rw[show [v%4294967296,v/4294967296].take 2=[v%4294967296,v/4294967296] by rfl,b] at this
 rw[TH];unfold OZ
 exact this
theorem VF {N:Nat} {l:List Nat} {n:Nat} {t o:Bool} {K:Int→Bool→O R} (hn:n=l.length) (m:Aw l) (j:fit l.length N):Tt N (Au l) n t o K=if val l<18446744073709551616 then K (val l:Int) true else K 0 false:=by
 have u:=j.1
 rw[cM];unfold JP
 rw[Er hn m j]
 by_cases h:val l<18446744073709551616
 ·have q:=zL h
  rw[if_pos h,show decide ((((Ba (val l)).length:Nat):Int)>2)=false by simp;omega,cf]
  have c:=Ax (val l)
  have f:=Av (val l)
  obtain⟨M,hM⟩:∃ M,N=M+4:=⟨N - 4,by omega⟩
  rw[hM]
  generalize Ba (val l)=d at *
  match d,q,c,f with
  | [],_,c,_ =>
   dsimp only
   rw[E3];unfold Gp
   rw[←c,i64 (by simp)];rfl
  | [x],_,c,f =>
   have i:=(E9.1 f).1
   have e:val l=x:=by rw[←c];simp[val]
   dsimp only
   rw[E3];unfold Gp
   rw[i64 (by simp),show((([x]:List Nat).length:Nat):Int) - 1=((0:Nat):Int) by rfl,show decide (((0:Nat):Int)≥0)=true by rfl,ct,Ab (by simp),ct,t8 (by simp)]
   rw[E3];unfold Gp
   rw[i64 (by simp),show decide ((((0:Nat):Int) - 1)≥0)=false by rfl,cf]
   have:=Bb9 (a:=0) (b:=x) (by omega) i
   simp only[List.getElem_cons_zero]
   rw[a7 (show x<18446744073709551616 by omega),show(0:Int)=((0:Nat):Int) by rfl,this,e];simp
  | [x,y],_,c,f =>
   have i:=(E9.1 f).1
   have k:=(E9.1 (E9.1 f).2).1
   have e:val l=y*4294967296+x:=by rw[←c];simp[val];omega
   dsimp only
   rw[E3];unfold Gp
   rw[i64 (by simp),show((([x,y]:List Nat).length:Nat):Int) - 1=((1:Nat):Int) by rfl,show decide (((1:Nat):Int)≥0)=true by rfl,ct,Ab (by simp),ct,t8 (by simp)]
   rw[E3];unfold Gp
   rw[i64 (by simp),show(((1:Nat):Int) - 1)=((0:Nat):Int) by rfl,show decide (((0:Nat):Int)≥0)=true by rfl,ct,Ab (by simp),ct,t8 (by simp)]
   rw[E3];unfold Gp
   rw[i64 (by simp),show decide ((((0:Nat):Int) - 1)≥0)=false by rfl,cf]
   have o1:=Bb9 (a:=0) (b:=y) (by omega) k
   have o2:=Bb9 (a:=y) (b:=x) k i
   simp only[List.getElem_cons_zero,List.getElem_cons_succ]
   rw[a7 (show y<18446744073709551616 by omega),a7 (show x<18446744073709551616 by omega),show(0:Int)=((0:Nat):Int) by rfl,o1,Nat.zero_mul,Nat.zero_add,o2,e]
 ·have:¬ (Ba (val l)).length≤2:=fun s=>h (A29 s)
  rw[if_neg h,show decide ((((Ba (val l)).length:Nat):Int)>2)=true by simp;omega,ct]
theorem Amc {N:Nat} {x y:List Nat} {K:Int→O R} (d:Aw x) (e:Aw y) (hs:x.length≤1000000000000) (j:x.length=y.length):∀ (i fuel:Nat),i≤x.length→i<fuel →
  Iu N K x.length y.length (Au x) (Au y) fuel ((i:Int) - 1)=K (FB (val (x.take i)) (val (y.take i)))
 | 0,fuel+1,_,_=>by
  rw[Iu];unfold Te
  rw[show decide ((((0:Nat):Int) - 1)≥0)=false by simp,cf]
  simp[Al7]
 | i+1,fuel+1,hi,k=>by
  rw[Iu];unfold Te
  rw[show(((i+1:Nat):Int) - 1)=(i:Int) by omega,show decide ((i:Int)≥0)=true by simp,ct,Ab (by omega),ct,t8 (by omega),Ab (by omega),ct,t8 (by omega),ct,t8 (by omega),ct,t8 (by omega),i64 (by omega),
   Amc d e hs j i fuel (by omega) (by omega),Cx (by omega),Cx (by omega)]
  have b:=Lj (Mr d i)
  have c:=Lj (Mr e i)
  rw[List.length_take,Nat.min_eq_left (by omega)] at b c
  by_cases c1:x[i]<y[i]
  ·have:=zJ b c c1
   rw[show decide (((x[i]:Nat):Int)<((y[i]:Nat):Int))=true by simp;exact c1,ct]
   unfold FB;rw[if_pos this]
  ·by_cases f:y[i]<x[i]
   ·have:=zJ c b f
    rw[show decide (((x[i]:Nat):Int)<((y[i]:Nat):Int))=false by simp;omega,cf,show decide (((x[i]:Nat):Int)>((y[i]:Nat):Int))=true by simp;exact f,ct]
    unfold FB;rw[if_neg (by omega),if_pos this]
   ·have:x[i]=y[i]:=by omega
    rw[show decide (((x[i]:Nat):Int)<((y[i]:Nat):Int))=false by simp;omega,cf,show decide (((x[i]:Nat):Int)>((y[i]:Nat):Int))=false by simp;omega,cf,this]
    unfold FB
    congr 1
    by_cases a1:val (x.take i)<val (y.take i)
    ·rw[if_pos a1,if_pos (by omega)]
    ·by_cases a2:val (y.take i)<val (x.take i)
     ·rw[if_neg a1,if_pos a2,if_neg (by omega),if_pos (by omega)]
     ·rw[if_neg a1,if_neg a2,if_neg (by omega),if_neg (by omega)]
theorem A46 {N:Nat} {a b:List Nat} {n m:Nat} {t o t' o':Bool} {K:Int→O R} (hn:n=a.length) (j:m=b.length) (d:Aw a) (e:Aw b) (c:fit (a.length+b.length) N) :
  Uk N (Au a) n t o (Au b) m t' o' K=K (FB (val a) (val b)):=by
 subst hn j
 have k:=c.1;have l:=c.2
 rw[WM];unfold ED
 dsimp only
 rw[Er rfl d (c.le (by omega)),Er rfl e (c.le (by omega))]
 have la:=(D2 d).2
 have lb:=(D2 e).2
 by_cases f:(Ba (val a)).length=(Ba (val b)).length
 ·rw[show((((Ba (val a)).length:Nat):Int) != (((Ba (val b)).length:Nat):Int))=false by simp;omega,cf,i64 (by omega),Amc (Av _) (Av _) (by omega) f _ N (Nat.le_refl _) (by omega),List.take_length,f,List.take_length,Ax,Ax]
 ·rw[show((((Ba (val a)).length:Nat):Int) != (((Ba (val b)).length:Nat):Int))=true by simp;omega,ct]
  by_cases i:(Ba (val a)).length<(Ba (val b)).length
  ·have:=VE i
   rw[Hy i,ct]
   unfold FB;rw[if_pos this]
  ·have:=VE (show(Ba (val b)).length<(Ba (val a)).length by omega)
   rw[Jf (by omega),cf]
   unfold FB;rw[if_neg (by omega),if_pos this]
end
end Gx

namespace Gx
open Go Go.Proofs
section
variable {R:Type}
theorem Bbm (a b:Nat):ly (a:Int) (b:Int)=((max a b:Nat):Int):=by
 unfold ly
 by_cases h:(b:Int)>(a:Int)
 ·rw[decide_eq_true h];show(b:Int)=_;omega
 ·rw[decide_eq_false h];show(a:Int)=_;omega
theorem Amd {N:Nat} {a b:List Nat} {t o t' o':Bool} {n:Nat} (q:Aw a) (u:Aw b) (v:a.length<n) (x:b.length<n) (hn:n≤max a.length b.length+1) (k:fit n N):∀ (m d fuel:Nat) (S:List Nat) (c:Nat),d+m=n→m<fuel→Aw S→S.length=n→A8k S d→c≤1 →
  val S+4294967296 ^ d*c=val (a.take d)+val (b.take d) →
  ∀ K:Nat→LA→O R,Kw N K (Au a) a.length t o (Au b) b.length t' o' fuel n (c:Int) (d:Int) (Au S)=K (Ba (val a+val b)).length (Au (Ba (val a+val b)))
 | 0,d,fuel+1,S,c,I,_,hS,l,y,L,z=>by
  intro K
  have A:d=n:=by omega
  subst A
  rw[List.take_of_length_le (by omega),List.take_of_length_le (by omega)] at z
  have C:c=0:=by
   rcases Nat.eq_zero_or_pos c with h | h
   ·exact h
   ·exfalso
    have D:c=1:=by omega
    subst D
    obtain⟨e,rfl⟩:∃ e,d=e+1:=⟨d - 1,by omega⟩
    have x1:=Lj q
    have x2:=Lj u
    have y1:4294967296 ^ a.length≤4294967296 ^ e:=Nat.pow_le_pow_right (by omega) (by omega)
    have y2:4294967296 ^ b.length≤4294967296 ^ e:=Nat.pow_le_pow_right (by omega) (by omega)
    rw[Nat.pow_succ] at z
    omega
  subst C
  have F:val S=val a+val b:=by omega
  rw[Kw];unfold JQ
  rw[Jf (Nat.le_refl _),cf,Nat.mul_one,List.take_of_length_le (by rw[C1];omega),Er l.symm hS (by rw[l];exact k),F]
 | m+1,d,fuel+1,S,c,I,M,hS,l,y,L,z=>by
  intro K
  have T:=k.1;have U:=k.2
  have ga:=t_ q d
  have gb:=t_ u d
  have step:∀ s:Nat,s=c+a.getD d 0+b.getD d 0→val (S.set d (s%4294967296))+4294967296 ^ (d+1)*(s/4294967296)=val (a.take (d+1))+val (b.take (d+1)):=by
   intro s hs
   rw[hY y (by omega),RO a d,RO b d,Nat.pow_succ]
   have e:=fM (4294967296 ^ d) s
   have V:4294967296 ^ d*s=4294967296 ^ d*c+4294967296 ^ d*a.getD d 0+4294967296 ^ d*b.getD d 0:=by rw[hs,Nat.mul_add,Nat.mul_add]
   omega
  have next:∀ s:Nat,s=c+a.getD d 0+b.getD d 0→Kw N K (Au a) a.length t o (Au b) b.length t' o' fuel n ((s/4294967296:Nat):Int) ((d+1:Nat):Int) (Au (S.set d (s%4294967296)))=K (Ba (val a+val b)).length (Au (Ba (val a+val b))):=by
   intro s hs
   exact Amd q u v x hn k m (d+1) fuel (S.set d (s%4294967296)) (s/4294967296) (by omega) (by omega) (Oa hS (by omega) d) (by simpa using l) (hU y) (by omega) (step s hs) K
  have second:∀ w:Nat,w=c+a.getD d 0→GW N (Kw N K (Au a) a.length t o (Au b) b.length t' o' fuel) K (Au a) a.length t o (Au b) b.length t' o' n (Au S) (w:Int) (d:Int)=K (Ba (val a+val b)).length (Au (Ba (val a+val b))):=by
   intro w G
   unfold GW
   by_cases f:d<b.length
   ·have j:b.getD d 0=b[d]:=by rw[List.getD_eq_getElem?_getD,List.getElem?_eq_getElem f];rfl
    rw[Hy f,ct,Ab f,ct,Aja f,Ab (by omega),ct,A2j (by omega),ct,a7 (show b[d]<18446744073709551616 by omega),An3,a7 (show w+b[d]<18446744073709551616 by omega),Ay6,Atg,Afv,wS (by omega)]
    exact next _ (by rw[G,j])
   ·have j:b.getD d 0=0:=by rw[List.getD_eq_getElem?_getD,List.getElem?_eq_none (by omega)];rfl
    rw[Jf (by omega),cf,Ab (by omega),ct,A2j (by omega),ct,Ay6,Atg,Afv,wS (by omega)]
    exact next _ (by rw[G,j];rfl)
  rw[Kw];unfold JQ
  rw[Hy (by omega),ct]
  by_cases i:d<a.length
  ·have j:a.getD d 0=a[d]:=by rw[List.getD_eq_getElem?_getD,List.getElem?_eq_getElem i];rfl
   rw[Hy i,ct,Ab i,ct,Aja i,a7 (show a[d]<18446744073709551616 by omega),An3,a7 (show c+a[d]<18446744073709551616 by omega)]
   exact second _ (by rw[j])
  ·have j:a.getD d 0=0:=by rw[List.getD_eq_getElem?_getD,List.getElem?_eq_none (by omega)];rfl
   rw[Jf (by omega),cf]
   exact second _ (by rw[j];rfl)
theorem Ame {N:Nat} {a b:List Nat} {n m:Nat} {t o t' o':Bool} {K:Nat→LA→O R} (hn:n=a.length) (d:m=b.length) (e:Aw a) (f:Aw b) (c:fit (a.length+b.length+1) N) :
  JR N (Au a) n t o (Au b) m t' o' K=K (Ba (val a+val b)).length (Au (Ba (val a+val b))):=by
 subst hn d
 have i:=c.1;have j:=c.2
 rw[uu];unfold oN
 rw[Bbm,wS (by omega),Bai (by omega),ct,Int.toNat_natCast,Lk]
 exact Amd e f (n:=max a.length b.length+1) (by omega) (by omega) (Nat.le_refl _) (c.le (by omega)) (max a.length b.length+1) 0 N (List.replicate (max a.length b.length+1) 0) 0 (by omega) (by omega) (Jw _) (by simp) (Zt _) (by omega) (by rw[Ku];simp[val]) K
theorem Amf {N:Nat} {a b:List Nat} (D:Aw a) (F:Aw b) (t:fit a.length N) (q:b.length≤a.length) (u:val b≤val a):∀ (m d fuel:Nat) (S:List Nat) (c:Nat),d+m=a.length→m<fuel→Aw S→S.length=a.length→A8k S d→c≤1 →
  val S+val (b.take d)=val (a.take d)+4294967296 ^ d*c →
  ∀ K:Nat→Bool→LA→O R,Kx N K a.length b.length (Au a) (Au b) fuel (c:Int) (d:Int) (Au S)=K (Ba (val a - val b)).length true (Au (Ba (val a - val b)))
 | 0,d,fuel+1,S,c,I,_,hS,s,v,L,G=>by
  intro K
  have x:d=a.length:=by omega
  subst x
  rw[List.take_length,List.take_of_length_le q] at G
  have k:=Lj hS
  rw[s] at k
  have z:c=0:=by
   rcases Nat.lt_or_ge 0 c with h | h
   ·exfalso
    have:c=1:=by omega
    subst this
    omega
   ·omega
  subst z
  have A:val S=val a - val b:=by omega
  rw[Kx];unfold JU
  rw[Jf (Nat.le_refl _),cf,Nat.mul_one,List.take_of_length_le (by rw[C1];omega),Er s.symm hS (by rw[s];exact t),A]
 | m+1,d,fuel+1,S,c,I,M,hS,s,v,L,G=>by
  intro K
  have U:=t.1;have V:=t.2
  have f:d<a.length:=by omega
  have ad:=Jv D f
  have gb:=t_ F d
  have step:∀ y g i:Nat,y=c+b.getD d 0→a[d]+4294967296*i=g+y→val (S.set d g)+val (b.take (d+1))=val (a.take (d+1))+4294967296 ^ (d+1)*i:=by
   intro y g i n l
   rw[hY v (by omega),Cx f,RO b d,Nat.pow_succ,Nat.mul_assoc]
   have e:4294967296 ^ d*(a[d]+4294967296*i)=4294967296 ^ d*(g+(c+b.getD d 0)):=by rw[l,n]
   rw[Nat.mul_add,Nat.mul_add,Nat.mul_add] at e
   omega
  have next:∀ y g i:Nat,g<4294967296→i≤1→y=c+b.getD d 0→a[d]+4294967296*i=g+y→Kx N K a.length b.length (Au a) (Au b) fuel (i:Int) ((d+1:Nat):Int) (Au (S.set d g))=K (Ba (val a - val b)).length true (Au (Ba (val a - val b))):=by
   intro y g i l C n T
   exact Amf D F t q u m (d+1) fuel (S.set d g) i (by omega) (by omega) (Oa hS l d) (by simpa using s) (hU v) C (step y g i n T) K
  have second:∀ y:Nat,y=c+b.getD d 0→GX N (Kx N K a.length b.length (Au a) (Au b) fuel) K a.length b.length (Au a) (Au b) (Au S) (d:Int) (y:Int)=K (Ba (val a - val b)).length true (Au (Ba (val a - val b))):=by
   intro y n
   unfold GX
   rw[Ab f,ct,t8 f,a7 (show a[d]<18446744073709551616 by omega)]
   by_cases k:a[d]<y
   ·rw[Hy k,ct,ct,A2j (by omega),ct,show((a[d]:Nat):Int)+4294967296=((a[d]+4294967296:Nat):Int) by omega,a7 (show a[d]+4294967296<18446744073709551616 by omega),An4 (by omega) (by omega),A9q (by omega),Afv,wS (by omega)]
    exact next y (a[d]+4294967296 - y) 1 (by omega) (by omega) n (by omega)
   ·rw[Jf (by omega),cf,ct,A2j (by omega),ct,An4 (by omega) (by omega),A9q (by omega),Afv,wS (by omega)]
    exact next y (a[d] - y) 0 (by omega) (by omega) n (by omega)
  rw[Kx];unfold JU
  rw[Hy f,ct]
  by_cases j:d<b.length
  ·have l:b.getD d 0=b[d]:=by rw[List.getD_eq_getElem?_getD,List.getElem?_eq_getElem j];rfl
   rw[Hy j,ct,Ab j,ct,t8 j,a7 (show b[d]<18446744073709551616 by omega),An3,a7 (show c+b[d]<18446744073709551616 by omega)]
   exact second _ (by rw[l])
  ·have l:b.getD d 0=0:=by rw[List.getD_eq_getElem?_getD,List.getElem?_eq_none (by omega)];rfl
   rw[Jf (by omega),cf]
   exact second _ (by rw[l];rfl)
theorem A47 {N:Nat} {a b:List Nat} {n m:Nat} {t o t' o':Bool} {K:Nat→Bool→LA→O R} (hn:n=a.length) (j:m=b.length) (e:Aw a) (f:Aw b) (d:fit (a.length+b.length) N) :
  JV N (Au a) n t o (Au b) m t' o' K=if val b≤val a then K (Ba (val a - val b)).length true (Au (Ba (val a - val b))) else K 0 false []:=by
 subst hn j
 have k:=d.1;have l:=d.2
 have la:=(D2 e).2
 have lb:=(D2 f).2
 rw[uy];unfold oP
 dsimp only
 rw[A46 rfl rfl e f d]
 by_cases c:val b≤val a
 ·have i:=Gh c
  rw[if_pos c,show decide (FB (val a) (val b)<0)=false by (unfold FB;rw[if_neg (by omega)];split<;>rfl),cf,Er rfl e (d.le (by omega)),Er rfl f (d.le (by omega)),Bai (by omega),ct,Lk]
  have:=Amf (R:=R) (N:=N) (a:=Ba (val a)) (b:=Ba (val b)) (Av _) (Av _) (d.le (by omega)) i (by rw[Ax,Ax];exact c) (Ba (val a)).length 0 N (List.replicate (Ba (val a)).length 0) 0 (by omega) (by omega) (Jw _) (by simp) (Zt _) (by omega) (by rw[Ku];simp[val]) K
  rw[Ax,Ax] at this
  exact this
 ·rw[if_neg c,show decide (FB (val a) (val b)<0)=true by (unfold FB;rw[if_pos (by omega)];rfl),ct]
end
end Gx

namespace Gx
open Go Go.Proofs
section
variable {R:Type}
theorem Af0 {N:Nat}:∀ (k fuel n v:Nat),v<2 ^ k→k<fuel→n+k≤1000000000000→∃ b:Nat,b≤k∧v<2 ^ b∧(v≠0→2 ^ b≤2*v)∧(v=0→b=0)∧∀ K:Int→O R,Mg N K fuel (n:Int) (v:Int)=K ((n+b:Nat):Int)
 | 0,fuel+1,n,v,c,_,_=>by
  have h0:v=0:=by simpa using c
  subst h0
  refine⟨0,by omega,by simp,fun h=>absurd rfl h,fun _=>rfl,fun K=>?_⟩
  rw[Mg];unfold Vj
  rw[show decide (((0:Nat):Int)>0)=false by rfl,cf];rfl
 | k+1,fuel+1,n,v,c,j,hn=>by
  by_cases h0:v=0
  ·subst h0
   refine⟨0,by omega,by simp,fun h=>absurd rfl h,fun _=>rfl,fun K=>?_⟩
   rw[Mg];unfold Vj
   rw[show decide (((0:Nat):Int)>0)=false by rfl,cf];rfl
  ·obtain⟨b,l,m,e,f,i⟩:=Af0 (N:=N) k fuel (n+1) (v/2) (by rw[Nat.pow_succ] at c;omega) (by omega) (by omega)
   refine⟨b+1,by omega,by rw[Nat.pow_succ];omega,fun _=>?_,fun h=>absurd h h0,fun K=>?_⟩
   ·by_cases d:v/2=0
    ·rw[f d];simp;omega
    ·have:=e d;rw[Nat.pow_succ];omega
   ·rw[Mg];unfold Vj
    rw[show decide (((v:Nat):Int)>0)=true by rw[decide_eq_true_eq];omega,ct,wS (by omega),nW v 1,show v/2 ^ 1=v/2 by rfl,i]
    congr 2;omega
theorem A1d {N:Nat} {a:List Nat} {n:Nat} {t o:Bool} (hn:n=a.length) (e:Aw a) (d:fit a.length N):∃ nb:Nat,nb≤32*a.length∧val a<2 ^ nb∧(val a≠0→2 ^ nb≤2*val a)∧(val a=0→nb=0)∧∀ K:Int→O R,PA N (Au a) n t o K=K (nb:Int):=by
 have v:=d.1;have x:=d.2
 have la:=(D2 e).2
 by_cases h0:val a=0
 ·refine⟨0,by omega,by rw[h0];simp,fun h=>absurd h0 h,fun _=>rfl,fun K=>?_⟩
  rw[TK];unfold O'
  rw[Er hn e d,h0,Hg];rfl
 ·have j:(Ba (val a)).length≠0:=fun h=>h0 (Ej.1 h)
  obtain⟨k,f⟩:∃ k,(Ba (val a)).length=k+1:=⟨(Ba (val a)).length - 1,by omega⟩
  have top:=Jv (Av (val a)) (show k<(Ba (val a)).length by omega)
  have c:(Ba (val a))[k]'(by omega)≠0:=by
   have:=A6v (val a) (mK h0)
   rw[List.getLast_eq_getElem] at this
   simp only[f,Nat.add_sub_cancel] at this
   exact this
  have tf:=Amb f
  have tl:=A1c (Av (val a)) f
  rw[Ax] at tf tl
  obtain⟨b,y,l,m,z,q⟩:=Af0 (R:=R) (N:=N) 32 N (32*k) ((Ba (val a))[k]'(by omega)) (by exact top) (by omega) (by omega)
  have i:(2:Nat) ^ (32*k+b)=4294967296 ^ k*2 ^ b:=by rw[Nat.pow_add,Nat.pow_mul]
  refine⟨32*k+b,by omega,?_,fun _=>?_,fun h=>absurd h h0,fun K=>?_⟩
  ·rw[i]
   have:((Ba (val a))[k]'(by omega)+1)*4294967296 ^ k≤2 ^ b*4294967296 ^ k:=Nat.mul_le_mul_right _ l
   rw[Nat.mul_comm (2 ^ b)] at this;omega
  ·rw[i]
   have:=Nat.mul_le_mul_left (4294967296 ^ k) (m c)
   rw[Nat.mul_left_comm] at this
   omega
  ·rw[TK];unfold O'
   have s:IntKind.wrap .i64 ((((Ba (val a)).length:Nat):Int) - 1)=((k:Nat):Int):=by rw[i64 (by omega)];omega
   have u:IntKind.wrap .i64 ((32:Int)*((k:Nat):Int))=((32*k:Nat):Int):=by rw[i64 (by omega)];omega
   rw[Er hn e d,A9s j,cf,s,Ab (by omega),ct,t8 (by omega),u]
   exact q K
theorem Awp {a:List Nat} {j:Nat} (h:j<a.length):val a=val (a.take j)+4294967296 ^ j*(a[j]+4294967296*val (a.drop (j+1))):=by
 have:=mJ (a.take j) (a.drop j)
 rw[List.take_append_drop,List.length_take,Nat.min_eq_left (by omega),A7s h] at this
 exact this
theorem ta (j k:Nat):(2:Nat) ^ (32*j+k)=4294967296 ^ j*2 ^ k:=by rw[Nat.pow_add,Nat.pow_mul]
theorem A83 {a:List Nat} {j k:Nat} (b:Aw a) (h:j<a.length) (f:k<32):val a/2 ^ (32*j+k)%2=a[j]/2 ^ k%2:=by
 have tl:=Lj (Mr b j)
 rw[List.length_take,Nat.min_eq_left (by omega)] at tl
 have hP:0<4294967296 ^ j:=Nat.pow_pos (by omega)
 have c:0<2 ^ k:=Nat.pow_pos (by omega)
 rw[ta,←Nat.div_div_eq_div_mul,Awp h,Nat.add_mul_div_left _ _ hP,Nat.div_eq_of_lt tl,Nat.zero_add]
 have e:4294967296=2 ^ k*(2*2 ^ (31 - k)):=by rw[←Nat.pow_succ',←Nat.pow_add,show k+(31 - k+1)=32 by omega]
 have d:4294967296*val (a.drop (j+1))=2 ^ k*(2*(2 ^ (31 - k)*val (a.drop (j+1)))):=by
  rw[←Nat.mul_assoc 2,←Nat.mul_assoc,←e]
 rw[d,Nat.add_mul_div_left _ _ c,Nat.add_mul_mod_self_left]
theorem A48 {N:Nat} {a:List Nat} {n:Nat} {t o:Bool} {i:Nat} {K:Int→O R} (hn:n=a.length) (f:Aw a) (hi:i<32*a.length) (hs:a.length≤1000000000):oO N (Au a) n t o (i:Int) K=K ((val a/2 ^ i%2:Nat):Int):=by
 subst hn
 have c:i/32<a.length:=by omega
 have aj:=Jv f c
 rw[uw];unfold Abf
 have j:IntKind.wrap .i64 (Int.tdiv ((i:Nat):Int) 32)=((i/32:Nat):Int):=by rw[show(32:Int)=((32:Nat):Int) by rfl,A7q,i64 (by omega)]
 have l:IntKind.wrap .u64 (Int.tmod ((i:Nat):Int) 32)=((i%32:Nat):Int):=by rw[show(32:Int)=((32:Nat):Int) by rfl,A7r,a7 (by omega)]
 rw[j,l,show decide (((i/32:Nat):Int)≥((a.length:Nat):Int))=false by rw[decide_eq_false_iff_not];omega,cf,Ab c,ct,Aja c,show decide (((i%32:Nat):Int)<0)=false by rw[decide_eq_false_iff_not];omega,cf,Int.toNat_natCast,Nat.min_eq_left (by omega),nW]
 have d:a[i/32]/2 ^ (i%32)<4294967296:=Nat.lt_of_le_of_lt (Nat.div_le_self _ _) aj
 have e:=Ay3 (k:=.u32) rfl (a:=a[i/32]/2 ^ (i%32)) (b:=1) d (by decide)
 rw[show(1:Int)=((1:Nat):Int) by rfl,e,Nat.and_one_is_mod]
 have:=A83 f c (k:=i%32) (by omega)
 rw[Nat.div_add_mod] at this
 rw[this]
theorem A7w {Q:List Nat} {j k:Nat} (hQ:Aw Q) (h:j<Q.length) (c:k<32) (b:2 ^ (32*j+k+1)∣val Q):2 ^ (k+1)∣Q[j]:=by
 have tl:=Lj (Mr hQ j)
 rw[List.length_take,Nat.min_eq_left (by omega)] at tl
 have hP:0<4294967296 ^ j:=Nat.pow_pos (by omega)
 rw[Nat.add_assoc,ta,Awp h] at b
 have h0:val (Q.take j)=0:=by
  have x1:4294967296 ^ j∣val (Q.take j):=(Nat.dvd_add_left (Nat.dvd_mul_right _ _)).1 (Nat.dvd_trans (Nat.dvd_mul_right _ _) b)
  exact Nat.eq_zero_of_dvd_of_lt x1 tl
 rw[h0,Nat.zero_add] at b
 have x2:=Nat.dvd_of_mul_dvd_mul_left hP b
 have x3:2 ^ (k+1)∣4294967296*val (Q.drop (j+1)):=Nat.dvd_trans ⟨2 ^ (31 - k),by rw[←Nat.pow_add,show k+1+(31 - k)=32 by omega]⟩ (Nat.dvd_mul_right _ _)
 exact(Nat.dvd_add_left x3).1 x2
theorem tb {N:Nat} {a b:List Nat} {t o:Bool} {B:Nat} (L:Aw a) (l:b=Ba B) (hB:0<B) (j:fit (a.length+2*b.length+4) N):∀ (i fuel:Nat) (Q:List Nat) (r:Nat),i<fuel→i≤32*a.length→Aw Q→Q.length=a.length→r=val a/2 ^ i%B→val Q=val a/2 ^ i/B*2 ^ i →
  ∀ K:Nat→Nat→Bool→LA→LA→O R,Gj N K (Au a) a.length t o b.length (Au b) fuel (Ba r).length ((i:Int) - 1) (Au Q) (Au (Ba r))=K (Ba (val a/B)).length (Ba (val a%B)).length true (Au (Ba (val a/B))) (Au (Ba (val a%B)))
 | 0,fuel+1,Q,r,_,_,hQ,z,hr,q=>by
  intro K
  rw[Nat.pow_zero,Nat.div_one] at hr q
  rw[Nat.mul_one] at q
  have lr:(Ba r).length≤b.length:=by
   rw[l];apply Gh;rw[hr];exact Nat.le_of_lt (Nat.mod_lt _ hB)
  rw[Gj];unfold Vk
  rw[show decide ((((0:Nat):Int) - 1)≥0)=false by rfl,cf,Nat.mul_one,List.take_of_length_le (by rw[C1];omega),Er z.symm hQ (by rw[z];exact j.le (by omega)),Nat.mul_one,List.take_of_length_le (by rw[C1];omega),Er rfl (Av _) (j.le (by omega)),Ax,q,hr]
 | i+1,fuel+1,Q,r,Y,hi,hQ,z,hr,q=>by
  intro K
  have h1:=j.1;have h2:=j.2
  have hrB:r<B:=by rw[hr];exact Nat.mod_lt _ hB
  have lr:(Ba r).length≤b.length:=by rw[l];exact Gh (Nat.le_of_lt hrB)
  have f:val a/2 ^ i=2*(val a/2 ^ (i+1))+val a/2 ^ i%2:=by
   have:=Nat.div_add_mod (val a/2 ^ i) 2
   rw[Nat.div_div_eq_div_mul,←Nat.pow_succ] at this
   exact this.symm
  have M:=Nat.div_add_mod (val a/2 ^ (i+1)) B
  have hb2:val a/2 ^ i%2<2:=Nat.mod_lt _ (by omega)
  generalize hH:val a/2 ^ (i+1)=H at *
  generalize A:val a/2 ^ i%2=bt at *
  have d:val a/2 ^ i=B*(2*(H/B))+(2*r+bt):=by
   rw[f,hr,Nat.mul_left_comm];omega
  clear hr M f
  have C:i/32<Q.length:=by omega
  have qj:=Jv hQ C
  have D:2 ^ (32*(i/32)+i%32+1)∣val Q:=by rw[Nat.div_add_mod,q];exact Nat.dvd_mul_left _ _
  have s:=A7w hQ C (Nat.mod_lt _ (by omega)) D
  have S:2 ^ i=4294967296 ^ (i/32)*2 ^ (i%32):=by rw[←ta,Nat.div_add_mod]
  have F:2 ^ (i%32+1)≤4294967296:=(Nat.pow_le_pow_right (by omega) (show i%32+1≤32 by omega):2 ^ (i%32+1)≤2 ^ 32)
  have G:uU .u32 ((Q[i/32]:Nat):Int) (IntKind.wrap .u32 ((1:Int)*2 ^ (min (Int.toNat ((i%32:Nat):Int)) 32)))=((Q[i/32]+2 ^ (i%32):Nat):Int)∧Q[i/32]+2 ^ (i%32)<4294967296:=by
   obtain⟨c,T⟩:=s
   have V:0<2 ^ (i%32):=Nat.pow_pos (by omega)
   have U:Q[i/32]+2 ^ (i%32)<4294967296:=by
    obtain⟨w,X⟩:∃ w,4294967296=2 ^ (i%32+1)*w:=⟨2 ^ (31 - i%32),by rw[←Nat.pow_add,show i%32+1+(31 - i%32)=32 by omega]⟩
    have x1:c<w:=by rw[T,X] at qj;exact Nat.lt_of_mul_lt_mul_left qj
    have x2:=Nat.mul_le_mul_left (2 ^ (i%32+1)) (show c+1≤w from x1)
    rw[Nat.mul_add,←X,←T,Nat.mul_one,Nat.pow_succ] at x2
    omega
   refine⟨?_,U⟩
   rw[Int.toNat_natCast,Nat.min_eq_left (by omega),Int.one_mul,show(2:Int) ^ (i%32)=((2 ^ (i%32):Nat):Int) by simp,A9q (by rw[Nat.pow_succ] at F;omega),Aki (k:=.u32) rfl qj (by show 2 ^ (i%32)<4294967296;rw[Nat.pow_succ] at F;omega)]
   congr 1
   have e:Q[i/32]=c*2 ^ (i%32+1):=by rw[T,Nat.mul_comm]
   rw[e];exact Ay7 (by rw[Nat.pow_succ];omega)
  have w1:IntKind.wrap .i64 (Int.tdiv ((i:Nat):Int) 32)=((i/32:Nat):Int):=by rw[show(32:Int)=((32:Nat):Int) by rfl,A7q,i64 (by omega)]
  have w2:IntKind.wrap .u64 (Int.tmod ((i:Nat):Int) 32)=((i%32:Nat):Int):=by rw[show(32:Int)=((32:Nat):Int) by rfl,A7r,a7 (by omega)]
  have l2:(Ba (2*r+bt)).length≤b.length+1:=by
   apply MW
   have x1:=Lj (Av B)
   rw[Ax,←l] at x1
   rw[Nat.pow_succ];omega
  have second:Oe N (Gj N K (Au a) a.length t o b.length (Au b) fuel) K (Au a) a.length t o b.length ((i:Nat):Int) (Au b) (Au Q) (Ba (2*r+bt)).length (Au (Ba (2*r+bt)))=K (Ba (val a/B)).length (Ba (val a%B)).length true (Au (Ba (val a/B))) (Au (Ba (val a%B))):=by
   unfold Oe
   have lb:Aw b:=by rw[l];exact Av _
   have vb:val b=B:=by rw[l,Ax]
   rw[Nat.mul_one,Nat.mul_one,List.take_of_length_le (by rw[C1];omega),List.take_of_length_le (by rw[C1];omega),A47 rfl rfl (Av _) lb (j.le (by omega)),Ax,vb]
   by_cases I:B≤2*r+bt
   ·have u:val a/2 ^ i/B=2*(H/B)+1:=by
     rw[d,show B*(2*(H/B))+(2*r+bt)=B*(2*(H/B)+1)+(2*r+bt - B) by rw[Nat.mul_add];omega,Nat.mul_add_div hB,Nat.div_eq_of_lt (show 2*r+bt - B<B by omega),Nat.add_zero]
    have y:val a/2 ^ i%B=2*r+bt - B:=by
     rw[d,show B*(2*(H/B))+(2*r+bt)=B*(2*(H/B)+1)+(2*r+bt - B) by rw[Nat.mul_add];omega,Nat.mul_add_mod,Nat.mod_eq_of_lt (by omega)]
    rw[if_pos I,ct,w1,w2,Ab (by omega),ct,t8 C,show decide (((i%32:Nat):Int)<0)=false by rw[decide_eq_false_iff_not];omega,cf,ct,A2j C,ct,G.1,Afv,i64 (by omega)]
    refine tb L l hB j i fuel (Q.set (i/32) (Q[i/32]+2 ^ (i%32))) (2*r+bt - B) (by omega) (by omega) (Oa hQ G.2 _) (by simpa using z) y.symm ?_ K
    have x1:=zK (v:=Q[i/32]+2 ^ (i%32)) C
    rw[Nat.mul_add,←S] at x1
    rw[u,Nat.add_mul,Nat.one_mul,Nat.mul_comm 2,Nat.mul_assoc,Nat.mul_comm 2,←Nat.pow_succ,←q]
    omega
   ·have u:val a/2 ^ i/B=2*(H/B):=by rw[d,Nat.mul_add_div hB,Nat.div_eq_of_lt (show 2*r+bt<B by omega),Nat.add_zero]
    have y:val a/2 ^ i%B=2*r+bt:=by rw[d,Nat.mul_add_mod,Nat.mod_eq_of_lt (by omega)]
    rw[if_neg I,cf,i64 (by omega)]
    refine tb L l hB j i fuel Q (2*r+bt) (by omega) (by omega) hQ z y.symm ?_ K
    rw[u,Nat.mul_comm 2,Nat.mul_assoc,Nat.mul_comm 2,←Nat.pow_succ,←q]
  rw[Gj];unfold Vk
  rw[show(((i+1:Nat):Int) - 1)=((i:Nat):Int) by omega,show decide (((i:Nat):Int)≥0)=true by rw[decide_eq_true_eq];omega,ct,Nat.mul_one,List.take_of_length_le (by rw[C1];omega),Ame rfl rfl (Av _) (Av _) (j.le (by omega)),Ax,A48 rfl L (by omega) (by omega),A]
  have l3:(Ba (r+r)).length≤b.length+1:=by
   apply MW
   have x1:=Lj (Av B)
   rw[Ax,←l] at x1
   rw[Nat.pow_succ];omega
  rcases(show bt=0∨bt=1 by omega) with rfl | rfl
  ·rw[show(((0:Nat):Int)==1)=false by rfl,cf]
   rw[show 2*r+0=r+r by omega] at second
   exact second
  ·rw[show(((1:Nat):Int)==1)=true by rfl,ct,Nat.mul_one,List.take_of_length_le (by rw[C1];omega)]
   have:=Ame (R:=R) (N:=N) (a:=Ba (r+r)) (b:=[1]) (n:=(Ba (r+r)).length) (m:=1) (t:=false) (o:=true) (t':=false) (o':=true) (K:=fun af ag=>Oe N (Gj N K (Au a) a.length t o b.length (Au b) fuel) K (Au a) a.length t o b.length ((i:Nat):Int) (Au b) (Au Q) af ag) rfl rfl (Av _) (by intro x hx;simp at hx;omega) (j.le (by simp;omega))
   rw[Ax,show val [1]=1 by rfl,show r+r+1=2*r+1 by omega] at this
   exact this.trans second
end
end Gx

namespace Gx
open Go Go.Proofs
section
variable {R:Type}
theorem VG {N:Nat} {a b:List Nat} {n m:Nat} {t o t' o':Bool} {K:Nat→Nat→Bool→LA→LA→O R} (hn:n=a.length) (u:m=b.length) (j:Aw a) (q:Aw b) (f:val b≠0) (e:fit (a.length+2*b.length+4) N) :
  Tx N (Au a) n t o (Au b) m t' o' K=K (Ba (val a/val b)).length (Ba (val a%val b)).length true (Au (Ba (val a/val b))) (Au (Ba (val a%val b))):=by
 have v:=e.1;have x:=e.2
 have lb:=(D2 q).2
 have k:(Ba (val b)).length≠0:=fun h=>f (Ej.1 h)
 rw[cR];unfold JW
 dsimp only
 have long:R9 N K (Au a) n t o (Ba (val b)).length (Au (Ba (val b)))=K (Ba (val a/val b)).length (Ba (val a%val b)).length true (Au (Ba (val a/val b))) (Au (Ba (val a%val b))):=by
  obtain⟨nb,n1,n2,n3,n4,n5⟩:=A1d (R:=R) (N:=N) (a:=a) (n:=n) (t:=false) (o:=o) hn j (e.le (by omega))
  unfold R9 GY
  dsimp only
  rw[n5,hn,Bai (by omega),ct,Lk,i64 (by omega)]
  have s:val a/2 ^ nb=0:=Nat.div_eq_of_lt n2
  have:=tb (R:=R) (N:=N) (a:=a) (b:=Ba (val b)) (t:=t) (o:=o) (B:=val b) j rfl (by omega) (e.le (by omega)) nb N (List.replicate a.length 0) 0 (by omega) n1 (Jw _) (by simp) (by rw[s];simp) (by rw[s,Ku];simp) K
  exact this
 rw[Er u q (e.le (by omega)),A9s k,cf,VF hn j (e.le (by omega)),Nat.mul_one,List.take_of_length_le (by rw[C1];exact Nat.le_refl _)]
 by_cases d:val a<18446744073709551616
 ·rw[if_pos d,VF rfl (Av _) (e.le (by omega)),Ax]
  by_cases c:val b<18446744073709551616
  ·have i:val a/val b<18446744073709551616:=Nat.lt_of_le_of_lt (Nat.div_le_self _ _) d
   have l:val a%val b<18446744073709551616:=Nat.lt_of_le_of_lt (Nat.mod_le _ _) d
   rw[if_pos c,show((true:Bool)==true)=true by rfl,ct,Bag,ct,A9s f,cf,A7q,a7 i,MI i (by omega),cf,A7r,MI l (by omega)]
  ·rw[if_neg c,show((true:Bool)==true)=true by rfl,ct,Bag,cf,long]
 ·rw[if_neg d,VF rfl (Av _) (e.le (by omega)),Ax]
  by_cases c:val b<18446744073709551616
  ·rw[if_pos c,show((false:Bool)==true)=false by rfl,cf,long]
  ·rw[if_neg c,show((false:Bool)==true)=false by rfl,cf,long]
theorem A49 {N:Nat}:∀ (k fuel A B:Nat),k<fuel→A*B<2 ^ k→B<A→fit (3*(Ba A).length+4) N→∀ K:Nat→LA→O R,Fa N K fuel (Ba A).length (Ba B).length (Au (Ba A)) (Au (Ba B))=K (Ba (Nat.gcd A B)).length (Au (Ba (Nat.gcd A B))):=by
 have base:∀ (fuel A:Nat) (K:Nat→LA→O R),Fa N K (fuel+1) (Ba A).length (Ba 0).length (Au (Ba A)) (Au (Ba 0))=K (Ba (Nat.gcd A 0)).length (Au (Ba (Nat.gcd A 0))):=by
  intro fuel A K
  rw[Fa];unfold Ul
  rw[Hg,show decide ((((([]:List Nat).length:Nat)):Int)>0)=false by decide,cf,Nat.gcd_zero_right]
 intro k
 induction k with
 | zero =>
  intro fuel A B e b c d K
  obtain⟨fuel,rfl⟩:∃ F,fuel=F+1:=⟨fuel - 1,by omega⟩
  have f:B=0:=by
   rcases Nat.eq_zero_or_pos B with h | h
   ·exact h
   ·have q:=Nat.mul_le_mul_left A (show 1≤B by omega)
    rw[Nat.pow_zero] at b;omega
  subst f
  exact base fuel A K
 | succ k i =>
  intro fuel A B e b c d K
  have s:=d.1;have t:=d.2
  obtain⟨fuel,rfl⟩:∃ F,fuel=F+1:=⟨fuel - 1,by omega⟩
  rcases Nat.eq_zero_or_pos B with h | h
  ·subst h;exact base fuel A K
  have j:=Gh (Nat.le_of_lt c)
  have l:(Ba B).length≠0:=fun h0=>by have:=Ej.1 h0;omega
  have m:=Nat.mod_lt A h
  have u:=A7t (show 1≤B by omega) (Nat.le_of_lt c)
  have:=i fuel B (A%B) (by omega) (by rw[Nat.pow_succ] at b;omega) m (d.le (by omega)) K
  have n:Nat.gcd B (A%B)=Nat.gcd A B:=by rw[Nat.gcd_comm,←Nat.gcd_rec,Nat.gcd_comm]
  rw[n] at this
  rw[Fa];unfold Ul
  rw[show decide ((((Ba B).length:Nat):Int)>0)=true by rw[decide_eq_true_eq];omega,ct,Nat.mul_one,Nat.mul_one,List.take_of_length_le (by rw[C1];exact Nat.le_refl _),List.take_of_length_le (by rw[C1];exact Nat.le_refl _),VG rfl rfl (Av _) (Av _) (by rw[Ax];omega) (d.le (by omega)),Ax,Ax]
  exact this
theorem A5a {N:Nat} {a b:List Nat} {n m:Nat} {t o t' o':Bool} {K:Nat→LA→O R} (hn:n=a.length) (l:m=b.length) (f:Aw a) (i:Aw b) (d:fit (3*(a.length+b.length)+4) N) :
  gZ N (Au a) n t o (Au b) m t' o' K=K (Ba (Nat.gcd (val a) (val b))).length (Au (Ba (Nat.gcd (val a) (val b)))):=by
 have u:=d.1;have v:=d.2
 have la:=(D2 f).2
 have lb:=(D2 i).2
 have j:val a*val b<2 ^ (32*(a.length+b.length)):=by rw[←A7u];exact Nat.mul_lt_mul'' (Lj f) (Lj i)
 rw[vA];unfold oR
 dsimp only
 rw[Er hn f (d.le (by omega)),Er l i (d.le (by omega))]
 obtain⟨F,hF⟩:∃ F,N=F+1:=⟨N - 1,by omega⟩
 rcases Nat.eq_zero_or_pos (val b) with h | h
 ·rw[h,Hg,Nat.gcd_zero_right,hF,Fa];unfold Ul
  rw[show decide ((((([]:List Nat).length:Nat)):Int)>0)=false by decide,cf]
 ·have k:=Nat.mod_lt (val a) h
  have q:(Ba (val b)).length≠0:=fun h0=>by have:=Ej.1 h0;omega
  have c:val b*(val a%val b)<2 ^ (32*(a.length+b.length)):=by
   have:val b*(val a%val b)≤val b*val a:=Nat.mul_le_mul_left _ (Nat.mod_le _ _)
   rw[Nat.mul_comm (val b) (val a)] at this;omega
  have:=A49 (R:=R) (N:=N) (32*(a.length+b.length)) F (val b) (val a%val b) (by omega) c k (d.le (by omega)) K
  have s:Nat.gcd (val b) (val a%val b)=Nat.gcd (val a) (val b):=by rw[Nat.gcd_comm,←Nat.gcd_rec,Nat.gcd_comm]
  rw[s] at this
  have e:Fa N K (F+1) (Ba (val a)).length (Ba (val b)).length (Au (Ba (val a))) (Au (Ba (val b)))=Fa N K F (Ba (val b)).length (Ba (val a%val b)).length (Au (Ba (val b))) (Au (Ba (val a%val b))):=by
   rw[Fa];unfold Ul
   rw[show decide ((((Ba (val b)).length:Nat):Int)>0)=true by rw[decide_eq_true_eq];omega,ct,Nat.mul_one,Nat.mul_one,List.take_of_length_le (by rw[C1];exact Nat.le_refl _),List.take_of_length_le (by rw[C1];exact Nat.le_refl _),VG rfl rfl (Av _) (Av _) (by rw[Ax];omega) (d.le (by omega)),Ax,Ax]
  conv=>lhs;rw[show(Fa N K N)=Fa N K (F+1) by rw[←hF]]
  rw[e];exact this
end
end Gx

namespace Gx
open Go Go.Proofs
section
variable {R:Type}
inductive LS where
 | nil
 | of (l:List Nat) (t o:Bool)
def LS.l:LS→List Nat
 | .nil=>[]
 | .of l _ _=>l
def LS.av:LS→AV
 | .nil=>.nsl
 | .of l t o=>.imm (Au l) l.length 1 t o
theorem Bak {s:LS} {r:LA} {f:LA→Nat→O R}:Br 1 (s.av::r) f=f (Au s.l) s.l.length:=by
 cases s<;>simp[Br,LS.av,LS.l,A5x,Au]
theorem Bbn {b:Bool} {r:LA} {f:Bool→O R}:bW (.bool b::r) f=f b:=by simp[bW,asBool]
def U9 (neg:Bool) (s:LS):LA:=[.bool neg,s.av]
def C3 (neg:Bool) (s:LS):Int:=if neg then -(val s.l:Int) else (val s.l:Int)
theorem U0 (neg:Bool) (s:LS):(C3 neg s).natAbs=val s.l:=by unfold C3;cases neg<;>simp
theorem FC {neg:Bool} {s:LS} {f:Bool→O R}:bW (U9 neg s) f=f neg:=Bbn
theorem RP {neg:Bool} {s:LS} {f:LA→Nat→O R}:Br 1 (List.drop 1 (U9 neg s)) f=f (Au s.l) s.l.length:=by rw[U9,List.drop_succ_cons,List.drop_zero,Bak]
theorem Ql {N:Nat} {c:Bool} {a:Nat} {b:LA} {K:Bool→O R}:Ll N c a b K=K (c&&decide (0<a)):=by
 rw[jA];unfold mM
 cases c<;>simp
theorem FY {z:Int} {c:Bool} {m:Nat} (h:z=if c then -(m:Int) else (m:Int)):(c&&decide (0<(Ba m).length))=decide (z<0)∧z.natAbs=m:=by
 have d:z.natAbs=m:=by rw[h];cases c<;>simp
 refine⟨?_,d⟩
 by_cases h0:m=0
 ·subst h0;rw[h,Hg];cases c<;>simp
 ·have:0<(Ba m).length:=by
   rcases Nat.eq_zero_or_pos (Ba m).length with b | b
   ·exact absurd (Ej.1 b) h0
   ·exact b
  rw[h];cases c<;>simp[this]<;>omega
theorem Zu {N:Nat} {v:Int} (f:-9223372036854775808≤v∧v≤9223372036854775807) (hN:4≤N):∃ S,Aw S∧val S=v.natAbs∧∀ K:Bool→Nat→LA→O R,Ms N v K=K (decide (v<0)) (Ba v.natAbs).length (Au S):=by
 have d:v.natAbs<18446744073709551616:=by omega
 obtain⟨S,s1,s2,c⟩:=A1b (R:=R) (N:=N) d hN
 refine⟨S,s1,s2,fun K=>?_⟩
 rw[cA];unfold b_
 by_cases h:v<0
 ·have e:IntKind.wrap .u64 ((0:Int) - IntKind.wrap .u64 v)=(v.natAbs:Int):=by rw[yJ,yJ];omega
  rw[decide_eq_true h,ct,e,c,Ql]
  have h0:v.natAbs≠0:=by omega
  have:0<(Ba v.natAbs).length:=by
   rcases Nat.eq_zero_or_pos (Ba v.natAbs).length with b | b
   ·exact absurd (Ej.1 b) h0
   ·exact b
  simp[this]
 ·have e:IntKind.wrap .u64 v=(v.natAbs:Int):=by rw[yJ];omega
  rw[decide_eq_false h,cf,e,c,Ql];rfl
theorem A5b {N:Nat} {n1 n2:Bool} {s1 s2:LS} {o1 o2:Bool} (d:Aw s1.l) (e:Aw s2.l) (f:fit (s1.l.length+s2.l.length) N):∃ S,Aw S∧val S=(C3 n1 s1*C3 n2 s2).natAbs∧∀ K:Bool→Nat→LA→O R,TF N (U9 n1 s1) o1 (U9 n2 s2) o2 K=K (decide (C3 n1 s1*C3 n2 s2<0)) (Ba (C3 n1 s1*C3 n2 s2).natAbs).length (Au S):=by
 obtain⟨S,a1,a2,a3⟩:=A7p (R:=R) (N:=N) (a:=s1.l) (b:=s2.l) (t:=false) (o:=o1) (t':=false) (o':=o2) rfl rfl d e f
 have i:C3 n1 s1*C3 n2 s2=if (!(n1==n2)) then -((val s1.l*val s2.l:Nat):Int) else ((val s1.l*val s2.l:Nat):Int):=by
  unfold C3;cases n1<;>cases n2<;>simp[Int.mul_neg,Int.neg_mul]
 obtain⟨c1,c⟩:=FY i
 refine⟨S,a1,by rw[a2,c],fun K=>?_⟩
 rw[Aaq];unfold Aoa
 rw[FC,FC,RP,RP,a3,Ql,c1,c]
theorem A5c {N:Nat} {n1 n2:Bool} {s1 s2:LS} {o1 o2:Bool} (f:Aw s1.l) (i:Aw s2.l) (j:fit (s1.l.length+s2.l.length+1) N):∃ S,Aw S∧val S=(C3 n1 s1+C3 n2 s2).natAbs∧∀ K:Bool→Nat→LA→O R,Aa1 N (U9 n1 s1) o1 (U9 n2 s2) o2 K=K (decide (C3 n1 s1+C3 n2 s2<0)) (Ba (C3 n1 s1+C3 n2 s2).natAbs).length (Au S):=by
 by_cases hn:n1=n2
 ·subst hn
  obtain⟨S,a1,a2,a3⟩:=A7k (R:=R) (N:=N) (a:=s1.l) (b:=s2.l) (t:=false) (o:=o1) (t':=false) (o':=o2) rfl rfl f i j
  have d:C3 n1 s1+C3 n1 s2=if n1 then -((val s1.l+val s2.l:Nat):Int) else ((val s1.l+val s2.l:Nat):Int):=by
   unfold C3;cases n1<;>simp;omega
  obtain⟨c1,c⟩:=FY d
  refine⟨S,a1,by rw[a2,c],fun K=>?_⟩
  rw[TG];unfold np
  rw[FC,FC,show(n1==n1)=true by simp,ct,FC,RP,RP,a3,Ql,c1,c]
 ·have e:(n1==n2)=false:=by simp[hn]
  by_cases k:val s2.l≤val s1.l
  ·obtain⟨S,a1,a2,a3⟩:=Awn (R:=R) (N:=N) (a:=s1.l) (b:=s2.l) (t:=false) (o:=o1) (t':=false) (o':=o2) rfl rfl f i (j.le (by omega)) k
   have d:C3 n1 s1+C3 n2 s2=if n1 then -((val s1.l - val s2.l:Nat):Int) else ((val s1.l - val s2.l:Nat):Int):=by
    unfold C3;cases n1<;>cases n2<;>simp at hn ⊢<;>omega
   obtain⟨c1,c⟩:=FY d
   refine⟨S,a1,by rw[a2,c],fun K=>?_⟩
   rw[TG];unfold np
   rw[FC,FC,e,cf,RP,RP,a3,ct,FC,Ql,c1,c]
  ·obtain⟨S,a1,a2,a3⟩:=Awn (R:=R) (N:=N) (a:=s2.l) (b:=s1.l) (t:=false) (o:=o2) (t':=false) (o':=o1) rfl rfl i f (j.le (by omega)) (by omega)
   have d:C3 n1 s1+C3 n2 s2=if n2 then -((val s2.l - val s1.l:Nat):Int) else ((val s2.l - val s1.l:Nat):Int):=by
    unfold C3;cases n1<;>cases n2<;>simp at hn ⊢<;>omega
   obtain⟨c1,c⟩:=FY d
   refine⟨S,a1,by rw[a2,c],fun K=>?_⟩
   rw[TG];unfold np
   rw[FC,FC,e,cf,RP,RP,A7l rfl rfl f i (j.le (by omega)) (by omega),cf,RP,RP,a3,FC,Ql,c1,c]
end
end Gx

namespace Gx
open Go Go.Proofs
section
variable {R:Type}
structure RatD where
 neg:Bool
 ns:LS
 ds:LS
def RatD.av (x:RatD):LA:=[.bool x.neg,x.ns.av,x.ds.av]
theorem Awq (n:Bool) (s:LS):Nat.ble 2 (List.length (U9 n s))=true:=rfl
theorem A9t (n:Bool) (s:LS):List.take 2 (U9 n s)=U9 n s:=rfl
theorem A7x:([.int .u32 1]:LA)=Au [1]:=rfl
theorem hZ:Ba 1=[1]:=by rw[JE (by omega)];simp[Hg]
theorem N7 {v:Nat} {S:List Nat} (b:Aw S) (c:val S=v):List.take ((Ba v).length*1) (Au S)=Au (Ba v):=by rw[←c,A43 b]
theorem A84 (neg:Bool) (l:List Nat) (t o:Bool):([.bool neg,.imm (Au l) l.length 1 t o]:LA)=U9 neg (.of l t o):=rfl
theorem qq {z:Int} {t o:Bool}:C3 (decide (z<0)) (.of (Ba z.natAbs) t o)=z:=by
 unfold C3 LS.l;rw[Ax]
 by_cases h:z<0
 ·rw[if_pos (by simpa using h)];omega
 ·rw[if_neg (by simpa using h)];omega
end
end Gx

namespace Gx
open Go Go.Proofs
section
variable {R:Type}
def Jt (z:Int):LA:=U9 (decide (z<0)) (.of (Ba z.natAbs) false false)
theorem A3a (z:Int) (K:LA→O R):(cond ((Nat.beq 0 0)&&((Nat.beq (List.length (Jt z)) 2)&&(Nat.beq 2 2))) (cond (Nat.ble 2 (List.length (Jt z))) (K (List.take 2 (Jt z))) none) none)=K (Jt z):=rfl
theorem Bca (z:Int):List.take 2 (Jt z)=Jt z:=rfl
theorem Bbo (z:Int):Nat.ble 2 (List.length (Jt z))=true:=rfl
theorem Bcb (z:Int):Nat.beq (List.length (Jt z)) 2=true:=rfl
theorem Bal (v:Nat):List.take ((Ba v).length*1) (Au (Ba v))=Au (Ba v):=N7 (Av _) (Ax v)
theorem Yn {N:Nat} {neg:Bool} {l:List Nat} {n:Nat} {t o:Bool} {K:LA→O R} (hn:n=l.length) (b:Aw l) (d:fit l.length N):It N neg (Au l) n t o K=K (Jt (if neg then -(val l:Int) else (val l:Int))):=by
 obtain⟨c1,e⟩:=FY (z:=if neg then -(val l:Int) else (val l:Int)) (c:=neg) (m:=val l) rfl
 rw[oA];unfold sf
 rw[Er hn b d,Bal]
 unfold Jt
 rw[←c1,e]
 cases neg
 ·rfl
 ·rw[show((true:Bool)==true)=true by rfl,ct,Bag];simp[U9,LS.av]
theorem ky {N:Nat} {v:Int} {K:LA→O R} (c:-9223372036854775808≤v∧v≤9223372036854775807) (hN:2000≤N):Mf N v K=K (Jt v):=by
 have b:v.natAbs<18446744073709551616:=by omega
 have d:=zL b
 rw[WJ];unfold TI
 by_cases h:v<0
 ·have e:IntKind.wrap .u64 (IntKind.wrap .u64 (IntKind.wrap .i64 ((0:Int) - IntKind.wrap .i64 (v+1)))+1)=(v.natAbs:Int):=by
   rw[i64 (a:=v+1) (by omega),i64 (by omega),yJ,yJ];omega
  rw[decide_eq_true h,ct,e,MI b (by omega),Bal,Yn rfl (Av _) ⟨by omega,by omega⟩,Ax]
  have:(if true=true then -(v.natAbs:Int) else (v.natAbs:Int))=v:=by rw[if_pos rfl];omega
  rw[this];exact A3a _ _
 ·have e:IntKind.wrap .u64 v=(v.natAbs:Int):=by rw[yJ];omega
  rw[decide_eq_false h,cf,e,MI b (by omega),Bal,Yn rfl (Av _) ⟨by omega,by omega⟩,Ax]
  have:(if false=true then -(v.natAbs:Int) else (v.natAbs:Int))=v:=by rw[if_neg (by decide)];omega
  rw[this];exact A3a _ _
theorem mh {N:Nat} {n:Bool} {s:LS} {o:Bool} {K:LA→O R} (hs:Aw s.l) (b:fit s.l.length N):GV N (U9 n s) o K=K (Jt (C3 n s)):=by
 rw[oC];unfold sh
 rw[FC,RP,Yn rfl hs b];exact A3a _ _
theorem A1e {N:Nat} {n:Bool} {s:LS} {o:Bool} {K:Int→O R} (hs:Aw s.l) (b:fit s.l.length N):cJ N (U9 n s) o K=K (C3 n s).sign:=by
 rw[oE];unfold si
 rw[Awq,ct,A9t,mh hs b,Bcb,show((true&&(true&&(!false))))=true by rfl,ct]
 have e:setCells (U9 n s) 0 (Jt (C3 n s))=Jt (C3 n s):=rfl
 rw[e]
 generalize C3 n s=z
 unfold Jt
 rw[FC]
 rcases Int.lt_trichotomy z 0 with h | h | h
 ·rw[decide_eq_true h,ct,Int.sign_eq_neg_one_of_neg h]
 ·subst h;rfl
 ·rw[decide_eq_false (by omega),cf,RP]
  have:(Ba z.natAbs).length≠0:=fun c=>by have:=Ej.1 c;omega
  simp only[LS.l]
  rw[A9s this,cf,Int.sign_eq_one_of_pos h]
theorem A5d {N:Nat} {n1 n2:Bool} {s1 s2:LS} {o1 o2:Bool} {K:LA→O R} (b:Aw s1.l) (c:Aw s2.l) (d:fit (3*(s1.l.length+s2.l.length)+4) N):oS N (U9 n1 s1) o1 (U9 n2 s2) o2 K=K (Jt ((Nat.gcd (C3 n1 s1).natAbs (C3 n2 s2).natAbs:Nat):Int)):=by
 have e:(Ba (Nat.gcd (val s1.l) (val s2.l))).length≤s1.l.length+s2.l.length:=by
  rcases Nat.eq_zero_or_pos (val s1.l) with h | h
  ·rw[h,Nat.gcd_zero_left];have:=(D2 c).2;omega
  ·have:=Gh (Nat.gcd_le_left (val s2.l) h);have:=(D2 b).2;omega
 rw[vC];unfold Abz
 rw[RP,RP,A5a rfl rfl b c d,Bal,Yn rfl (Av _) (d.le (by omega)),Ax,U0,U0];exact A3a _ _
theorem fN {N:Nat} {n1:Bool} {s1:LS} {g:Nat} {o1 o2:Bool} {K:LA→LA→Bool→O R} (e:Aw s1.l) (j:0<g) (i:g∣val s1.l) (d:fit (s1.l.length+2*(Ba g).length+4) N):Xx N (U9 n1 s1) o1 (Jt (g:Int)) o2 K=K (Jt (C3 n1 s1/(g:Int))) (Jt 0) true:=by
 have b:Jt (g:Int)=U9 false (.of (Ba g) false false):=by
  unfold Jt;rw[decide_eq_false (by omega),Int.natAbs_natCast]
 have hq:(Ba (val s1.l/g)).length≤s1.l.length:=Nat.le_trans (Gh (Nat.div_le_self _ _)) (D2 e).2
 rw[b,cU];unfold cT
 rw[RP,RP,show(LS.of (Ba g) false false).l=Ba g by rfl]
 rw[VG rfl rfl e (Av _) (by rw[Ax];omega) d,Ax,Nat.mod_eq_zero_of_dvd i,show(!true)=false by rfl,cf,FC,FC,Bal,Yn rfl (Av _) (d.le (by omega)),FC,Bal,Yn rfl (Av _) (d.le (by simp[Hg])),Ax,Ax]
 have k:(if n1=true then -((0:Nat):Int) else ((0:Nat):Int))=0:=by cases n1<;>rfl
 have e1:(if (!(n1==false))=true then -((val s1.l/g:Nat):Int) else ((val s1.l/g:Nat):Int))=C3 n1 s1/(g:Int):=by
  obtain⟨c,b⟩:=i
  have m:val s1.l/g=c:=by rw[b,Nat.mul_div_cancel_left _ j]
  rw[m];unfold C3;rw[b]
  cases n1
  ·simp;rw[Int.mul_ediv_cancel_left _ (by omega)]
  ·simp only[Bool.true_beq,Bool.not_false,if_true]
   rw[show -((g*c:Nat):Int)=(g:Int)*(-(c:Int)) by rw[Int.mul_neg];simp,Int.mul_ediv_cancel_left _ (by omega)]
 rw[k,e1]
 generalize C3 n1 s1/(g:Int)=q
 have n:∀ (f:Bool→O R),bW (Jt 0) f=f false:=fun f=>FC
 rw[show((Nat.beq 0 0)&&((Nat.beq (List.length (Jt q)) 2)&&(Nat.beq 2 2)))=true by rfl,ct,show((Nat.beq 0 0)&&((Nat.beq (List.length (Jt 0)) 2)&&(Nat.beq 2 2)))=true by rfl,ct,n,cf]
 rfl
end
end Gx

namespace Gx
open Go Go.Proofs
section
variable {R:Type}
def Bcl (q:Rat):RatD:=⟨decide (q.num<0),.of (Ba q.num.natAbs) false false,.of (Ba q.den) false false⟩
def cq (q:Rat):LA:=(Bcl q).av
theorem A9u (q:Rat) (K:LA→O R):(cond ((Nat.beq 0 0)&&((Nat.beq (List.length (cq q)) 3)&&(Nat.beq 3 3))) (cond (Nat.ble 3 (List.length (cq q))) (K (List.take 3 (cq q))) none) none)=K (cq q):=rfl
theorem A85:cq 0=[(.bool false),(.imm [] 0 1 false false),(.imm [(.int .u32 1)] 1 1 false false)]:=by
 have e:cq 0=[.bool false,.imm (Au (Ba 0)) (Ba 0).length 1 false false,.imm (Au (Ba 1)) (Ba 1).length 1 false false]:=rfl
 rw[e,hZ];rfl
theorem mj {N:Nat} {K:LA→O R}:Z5 N K=K (cq 0):=by
 rw[oG];unfold sj
 rw[A85]
theorem A7y (z:Int):mkRat z 1=(z:Rat):=by
 apply Rat.ext
 ·rw[Rat.num_mkRat,if_neg (by decide),Nat.gcd_one_left];simp
 ·rw[Rat.den_mkRat,if_neg (by decide),Nat.gcd_one_left];simp
theorem A86 (z:Int) (w:Nat) (b:w≠0):(mkRat z w).num=z/((Nat.gcd z.natAbs w:Nat):Int)∧(mkRat z w).den=w/Nat.gcd z.natAbs w:=by
 refine⟨?_,?_⟩
 ·rw[Rat.num_mkRat,if_neg b,Nat.gcd_comm w]
 ·rw[Rat.den_mkRat,if_neg b,Nat.gcd_comm w]
theorem Awr {N:Nat} {n1 n2:Bool} {s1 s2:LS} {o1 o2:Bool} {K:LA→O R} (n:Aw s1.l) (i:Aw s2.l) (x:0≤C3 n2 s2) (d:fit (4*(s1.l.length+s2.l.length)+10) N):G_ N (U9 n1 s1) o1 (U9 n2 s2) o2 K=K (cq (mkRat (C3 n1 s1) (C3 n2 s2).natAbs)):=by
 have e:=U0 n2 s2
 have j:=U0 n1 s1
 rw[oT];unfold g_
 rw[Awq,ct,A9t,A1e i (d.le (by omega))]
 by_cases h0:C3 n2 s2=0
 ·rw[h0,show((0:Int).sign==0)=true by rfl,ct,mj]
  rw[show(0:Int).natAbs=0 by rfl,Rat.mkRat_zero];exact A9u _ _
 ·have y:(C3 n2 s2).natAbs≠0:=by omega
  have q:((C3 n2 s2).sign==0)=false:=by rw[Int.sign_eq_one_of_pos (by omega)];rfl
  rw[q,cf,ct,mh i (d.le (by omega)),show((Nat.beq 0 0)&&((Nat.beq (List.length (Jt (C3 n2 s2))) 2)&&(Nat.beq 2 2)))=true by rfl,ct]
  have rb:∀ (z:Int) (f:Bool→O R),bW (Jt z) f=f (decide (z<0)):=fun z f=>FC
  have rl:∀ (z:Int) (f:LA→Nat→O R),Br 1 (List.drop 1 (Jt z)) f=f (Au (Ba z.natAbs)) (Ba z.natAbs).length:=fun z f=>RP
  have l2:=(D2 i).2
  have l1:=(D2 n).2
  rw[rb,decide_eq_false (by omega),show((!false)==true)=true by rfl,ct,rl,A7x,A7v (a:=Ba (C3 n2 s2).natAbs) (b:=[1]) (m:=1) rfl rfl (d.le (by rw[e];omega)),Bag]
  by_cases c:(C3 n2 s2).natAbs=1
  ·rw[c,hZ,show decide (([1]:List Nat)=[1])=true by decide,ct,Awq,ct,A9t,mh n (d.le (by omega)),rl,c,hZ]
   rw[A7y]
   have A:cq ((C3 n1 s1:Int):Rat)=[.bool (decide (C3 n1 s1<0)),.imm (Au (Ba (C3 n1 s1).natAbs)) (Ba (C3 n1 s1).natAbs).length 1 false false,.imm (Au [1]) 1 1 false false]:=by
    unfold cq Bcl RatD.av LS.av
    rw[Rat.num_intCast,Rat.den_intCast,hZ];rfl
   rw[A];rfl
  ·have s:decide (Ba (C3 n2 s2).natAbs=[1])=false:=by
    rw[decide_eq_false_iff_not];intro C
    have:=congrArg val C
    rw[Ax] at this;simp[val] at this;omega
   rw[s,cf]
   unfold JX
   have k:0<Nat.gcd (C3 n1 s1).natAbs (C3 n2 s2).natAbs:=Nat.gcd_pos_of_pos_right _ (by omega)
   have D:(Ba (Nat.gcd (C3 n1 s1).natAbs (C3 n2 s2).natAbs)).length≤s2.l.length:=Nat.le_trans (Gh (Nat.gcd_le_right _ (by omega))) (by rw[e];exact l2)
   have t:Nat.gcd (C3 n1 s1).natAbs (C3 n2 s2).natAbs∣val s1.l:=by rw[←j];exact Nat.gcd_dvd_left _ _
   have u:Nat.gcd (C3 n1 s1).natAbs (C3 n2 s2).natAbs∣val s2.l:=by rw[←e];exact Nat.gcd_dvd_right _ _
   obtain⟨F,G⟩:=A86 (C3 n1 s1) (C3 n2 s2).natAbs y
   rw[Awq,ct,Awq,ct,A9t,A9t,A5d n i (d.le (by omega))]
   generalize I:Nat.gcd (C3 n1 s1).natAbs (C3 n2 s2).natAbs=g at *
   rw[show((Nat.beq 0 0)&&((Nat.beq (List.length (Jt (g:Int))) 2)&&(Nat.beq 2 2)))=true by rfl,ct,ct,show Nat.ble 2 (List.length (Jt (g:Int)))=true by rfl,ct,Bca,fN n k t (d.le (by omega))]
   rw[show ∀ z:Int,((Nat.beq 0 0)&&((Nat.beq (List.length (Jt z)) 2)&&(Nat.beq 2 2)))=true from fun z=>rfl,ct,show((Nat.beq 0 0)&&((Nat.beq (List.length (Jt 0)) 2)&&(Nat.beq 2 2)))=true by rfl,ct,ct,fN i k u (d.le (by omega))]
   have v:C3 n2 s2/(g:Int)=(((C3 n2 s2).natAbs/g:Nat):Int):=by
    rw[show C3 n2 s2=(((C3 n2 s2).natAbs:Nat):Int) by omega];rfl
   rw[show ∀ z:Int,((Nat.beq 0 0)&&((Nat.beq (List.length (Jt z)) 2)&&(Nat.beq 2 2)))=true from fun z=>rfl,ct,ct,rb,v,decide_eq_false (by omega),cf,show ∀ z:Int,Nat.ble 2 (List.length (Jt z))=true from fun z=>rfl,ct,rl,Int.natAbs_natCast,←G]
   rw[←F];rfl
theorem Bbp {N:Nat} {z w:Int} {o o':Bool} {K:LA→O R} (b:0≤w) (c:fit (4*((Ba z.natAbs).length+(Ba w.natAbs).length)+10) N):G_ N (Jt z) o (Jt w) o' K=K (cq (mkRat z w.natAbs)):=by
 have:=Awr (R:=R) (N:=N) (n1:=decide (z<0)) (s1:=.of (Ba z.natAbs) false false) (n2:=decide (w<0)) (s2:=.of (Ba w.natAbs) false false) (o1:=o) (o2:=o') (K:=K) (Av _) (Av _) (by rw[qq];exact b) c
 rw[qq,qq] at this;exact this
theorem Af1 {N:Nat} {v:Int} {K:LA→O R} (b:-9223372036854775808≤v∧v≤9223372036854775807) (hN:4000≤N):Z8 N v K=K (cq (v:Rat)):=by
 have c:=zL (show v.natAbs<18446744073709551616 by omega)
 rw[WO];unfold TM
 rw[ky b (by omega),ky (by omega) (by omega),Bbp (by omega) ⟨show 100*(4*((Ba v.natAbs).length+(Ba (1:Int).natAbs).length)+10)+1000≤N by (rw[show(1:Int).natAbs=1 by rfl,hZ];simp;omega),show 4*((Ba v.natAbs).length+(Ba (1:Int).natAbs).length)+10≤1000000000 by (rw[show(1:Int).natAbs=1 by rfl,hZ];simp;omega)⟩]
 have:mkRat v (1:Int).natAbs=(v:Rat):=A7y v
 rw[this];exact A9u _ _
end
end Gx

namespace Gx
open Go Go.Proofs
section
variable {R:Type}
theorem A5e {N:Nat} {n1:Bool} {s1:LS} {o1:Bool} {K:Bool→Nat→LA→O R} (b:Aw s1.l) (d:fit s1.l.length N):Aaw N (U9 n1 s1) o1 K=K (decide (-C3 n1 s1<0)) (Ba (C3 n1 s1).natAbs).length (Au (Ba (C3 n1 s1).natAbs)):=by
 obtain⟨c1,e⟩:=FY (z:=-C3 n1 s1) (c:=!n1) (m:=val s1.l) (by unfold C3;cases n1<;>simp)
 rw[Aax];unfold Aob
 rw[FC,RP,A45 rfl b d,Ql,c1,U0]
theorem Bbq {A:Nat} (h:A≤9223372036854775808):cond true (decide ((A:Int)≤9223372036854775808)) false=true:=by
 rw[cond_true];exact decide_eq_true (by omega)
theorem Bbr {A:Nat} (h:A<9223372036854775808):cond true (decide ((A:Int)<9223372036854775808)) false=true:=by
 rw[cond_true];exact decide_eq_true (by omega)
theorem Bam {A:Nat} (h:A≤9223372036854775808):IntKind.wrap .i64 (IntKind.wrap .u64 ((0:Int) - (A:Int)))=-(A:Int):=by
 rw[yJ,IntKind.wrap_i64];omega
theorem Aws {N:Nat} {n1:Bool} {s1:LS} {o1:Bool} {K:Int→Bool→O R} (c:Aw s1.l) (d:fit s1.l.length N) (b:-9223372036854775808≤C3 n1 s1∧C3 n1 s1≤9223372036854775807):Z7 N (U9 n1 s1) o1 K=K (C3 n1 s1) true:=by
 have hn:=U0 n1 s1
 rw[TL];unfold PC
 rw[RP,xH rfl c d,if_pos (by omega),show(!true)=false by rfl,cf,FC]
 cases n1
 ·have e:C3 false s1=(val s1.l:Int):=rfl
  rw[e] at b ⊢
  rw[show(false==true)=false by rfl,cf]
  dsimp only
  unfold Po
  rw[cf,FC,show((!false)==true)=true by rfl,ct,Bbr (by omega),ct,i64 (by omega)]
 ·have e:C3 true s1=-(val s1.l:Int):=rfl
  rw[e] at b ⊢
  rw[show(true==true)=true by rfl,ct,Bbq (by omega)]
  dsimp only
  unfold Po
  rw[ct,Bam (by omega)]
end
end Gx

namespace Gx
open Go Go.Proofs
section
variable {R:Type}
theorem Bcm (z:Int):((Nat.beq 0 0)&&((Nat.beq (List.length (Jt z)) 2)&&(Nat.beq 2 2)))=true:=rfl
end
end Gx

namespace Gx
open Go Go.Proofs
section
variable {R:Type}
theorem kz {N:Nat} {b:List UInt8} {c:UInt8} {K:List UInt8→Bool→O R}:Fb N (c::b) [c] K=K b true:=by
 rw[Om];unfold Mv
 rw[Ep];unfold Du
 rw[Eo];unfold Dt
 have d:((decide ((((c::b).length:Nat):Int)≥((([c]:List UInt8).length:Nat):Int)))==true)=true:=by simp;omega
 have e:((decide ((0:Int)≤(0:Int)))&&((decide ((0:Int)≤((([c]:List UInt8).length:Nat):Int)))&&((decide (((([c]:List UInt8).length:Nat):Int)≤(((c::b).length:Nat):Int)))&&(decide ((((c::b).length:Nat):Int)≤(((c::b).length:Nat):Int))))))=true:=by simp;omega
 have f:((decide ((0:Int)≤((([c]:List UInt8).length:Nat):Int)))&&((decide (((([c]:List UInt8).length:Nat):Int)≤(((c::b).length:Nat):Int)))&&((decide ((((c::b).length:Nat):Int)≤(((c::b).length:Nat):Int)))&&(decide ((((c::b).length:Nat):Int)≤(((c::b).length:Nat):Int))))))=true:=by simp;omega
 rw[d,ct,e,ct,show cond true ((List.take ([c]:List UInt8).length (c::b))==[c]) false=true by simp]
 dsimp only
 rw[show(!true)=false by rfl,cf,f,ct]
 simp
theorem fO {N:Nat} {b:List UInt8} {c:UInt8} {K:List UInt8→Bool→O R} (h:b.head?≠some c):Fb N b [c] K=K b false:=by
 rw[Om];unfold Mv
 rw[Ep];unfold Du
 rw[Eo];unfold Dt
 cases b with
 | nil=>rfl
 | cons d r =>
  have e:d≠c:=by simpa using h
  have f:((decide ((((d::r).length:Nat):Int)≥((([c]:List UInt8).length:Nat):Int)))==true)=true:=by simp;omega
  have i:((decide ((0:Int)≤(0:Int)))&&((decide ((0:Int)≤((([c]:List UInt8).length:Nat):Int)))&&((decide (((([c]:List UInt8).length:Nat):Int)≤(((d::r).length:Nat):Int)))&&(decide ((((d::r).length:Nat):Int)≤(((d::r).length:Nat):Int))))))=true:=by simp;omega
  rw[f,ct,i,ct,show cond true ((List.take ([c]:List UInt8).length (d::r))==[c]) false=false by simp[e]]
  rfl
theorem Af2 {s:List UInt8} {p:Nat} (h:p<s.length) (b:s[p].toNat<128):OD s (p:Int)=(s[p].toNat,1):=by
 unfold OD
 rw[Int.toNat_natCast]
 exact decode_ascii ⟨⟨s⟩⟩ p h b
theorem A5f {s:List UInt8} {p:Nat} (h:p<s.length) (b:128≤s[p].toNat):128≤(OD s (p:Int)).1:=by
 unfold OD
 rw[Int.toNat_natCast]
 exact(decode_high ⟨⟨s⟩⟩ p h b).1
theorem Ajb {N:Nat} {s:List UInt8} {K:Bool→O R} (hs:s≠[]):∀ (m p fuel:Nat),p≤s.length→s.length - p=m→m<fuel→Ix N K s fuel (p:Int)=K ((s.drop p).all Ez):=by
 intro m
 induction m with
 | zero =>
  intro p fuel c d e
  cases fuel with
  | zero=>omega
  | succ fuel =>
   rw[Ix];unfold Th
   rw[Jf (by omega),cf,List.drop_eq_nil_of_le (by omega),show(!(s==([]:List UInt8)))=true by simp[hs]]
   rfl
 | succ m f =>
  intro p fuel c d e
  cases fuel with
  | zero=>omega
  | succ fuel =>
   have b:p<s.length:=by omega
   rw[Ix];unfold Th
   rw[Hy b,ct,List.drop_eq_getElem_cons b,List.all_cons]
   by_cases i:s[p].toNat<128
   ·rw[Af2 b i]
    simp only
    by_cases j:s[p].toNat<48
    ·rw[show(decide (((s[p].toNat:Nat):Int)<48)==false)=false by simp;omega,cf]
     have:Ez s[p]=false:=by simp[Ez];omega
     rw[this];rfl
    ·rw[show(decide (((s[p].toNat:Nat):Int)<48)==false)=true by simp;omega,ct]
     by_cases k:s[p].toNat>57
     ·rw[show cond false true (decide (((s[p].toNat:Nat):Int)>57))=true by simp;omega,ct]
      have:Ez s[p]=false:=by simp[Ez];omega
      rw[this];rfl
     ·rw[show cond false true (decide (((s[p].toNat:Nat):Int)>57))=false by simp;omega,cf]
      have:Ez s[p]=true:=by simp[Ez];omega
      rw[this,Bool.true_and,show((p:Int)+((1:Nat):Int))=((p+1:Nat):Int) by omega]
      exact f (p+1) fuel (by omega) (by omega) (by omega)
   ·have l:=A5f b (by omega)
    have:Ez s[p]=false:=by simp[Ez];omega
    rw[this,show(decide ((((OD s (p:Int)).1:Nat):Int)<48)==false)=true by simp;omega,ct,show cond false true (decide ((((OD s (p:Int)).1:Nat):Int)>57))=true by simp;omega,ct]
    rfl
theorem Ajc {N:Nat} {s:List UInt8} {K:Bool→O R} (b:s.length<N):Um N s K=K (A1a s):=by
 rw[WS];unfold EF
 cases s with
 | nil =>
  obtain⟨n,rfl⟩:∃ n,N=n+1:=⟨N - 1,by simp at b;omega⟩
  rfl
 | cons c r =>
  have:=Ajb (R:=R) (N:=N) (s:=c::r) (K:=K) (by simp) (c::r).length 0 N (by omega) (by omega) b
  refine Eq.trans this ?_
  congr 1
  simp[A1a]
theorem qr {N:Nat} {s:List UInt8} {K:Bool→O R} (f:s.length<N):HA N s K=K (Yl s):=by
 rw[dD];unfold dC
 rw[Ajc f]
 by_cases b:A1a s=true
 ·rw[b,show(true==true)=true by rfl,ct]
  unfold Yl
  rw[b,Bool.true_and]
  by_cases h0:s=[48]
  ·subst h0;rfl
  ·have i:(s==[48])=false:=by simpa using h0
   rw[i,show(false==false)=true by rfl,ct,Bool.false_or]
   cases s with
   | nil=>simp[A1a] at b
   | cons c r =>
    rw[show Ae 0 (c::r).length=true by unfold Ae;simp,ct]
    congr 1
    simp only[cond_true,cond_false,List.getD_cons_zero,List.head?_cons]
    by_cases d:c=48
    ·subst d;rfl
    ·have:(((c.toNat:Nat):Int) != 48)=true:=by
      rw[bne_iff_ne];intro e
      apply d;apply UInt8.toNat_inj.1
      have:c.toNat=48:=by omega
      rw[this];rfl
     rw[this]
     have j:((some c:Option UInt8) != some 48)=true:=by rw[bne_iff_ne];simpa using d
     rw[j]
 ·have b:A1a s=false:=by simpa using b
  rw[b,show(false==true)=false by rfl,cf]
  unfold Yl
  rw[b];rfl
def yo (s:List UInt8):Bool:=match s with
 | 45::r=>Yl r&&!(r==[48])
 | s=>Yl s
theorem lA {N:Nat} {s:List UInt8} {K:Bool→O R} (b:s.length<N):AE N s K=K (yo s):=by
 rw[WU];unfold TN
 by_cases h:s.head?=some 45
 ·obtain⟨r,rfl⟩:∃ r,s=45::r:=by
   cases s with
   | nil=>simp at h
   | cons c r=>simp at h;exact⟨r,by rw[h]⟩
  rw[kz,qr (by simp at b;omega)]
  show _=K (Yl r&&!(r==[48]))
  cases Yl r
  ·rfl
  ·rw[Bool.true_and];cases r==[48]<;>rfl
 ·rw[fO h,qr b]
  have:yo s=Yl s:=by
   unfold yo
   split
   ·simp at h
   ·rfl
  rw[this]
  cases Yl s<;>rfl
def Ajd (s:List UInt8):Nat:=s.countP Ez
theorem Aqi {N:Nat} {s:List UInt8} {K:Bool→O R} (hs:∀ c ∈ s,c.toNat<128) (n:s.length≤1000000000000):∀ (m p d fuel:Nat),p≤s.length→s.length - p=m→m<fuel→d≤p→Ky N K s fuel (d:Int) (p:Int)=K (decide (4096<d+Ajd (s.drop p))):=by
 intro m
 induction m with
 | zero =>
  intro p d fuel f i j k
  cases fuel with
  | zero=>omega
  | succ fuel =>
   rw[Ky];unfold Vn
   rw[Jf (by omega),cf,List.drop_eq_nil_of_le (by omega)]
   congr 1
   rw[decide_eq_decide];simp[Ajd];omega
 | succ m e =>
  intro p d fuel f i j k
  cases fuel with
  | zero=>omega
  | succ fuel =>
   have b:p<s.length:=by omega
   have l:s[p].toNat<128:=hs _ (List.getElem_mem b)
   rw[Ky];unfold Vn
   rw[Hy b,ct,List.drop_eq_getElem_cons b,Af2 b l]
   simp only
   rw[show((p:Int)+((1:Nat):Int))=((p+1:Nat):Int) by omega]
   have hn:Ajd (s[p]::s.drop (p+1))=Ajd (s.drop (p+1))+(if Ez s[p] then 1 else 0):=by unfold Ajd;rw[List.countP_cons]
   rw[hn]
   by_cases q:48≤s[p].toNat
   ·rw[show(decide (((s[p].toNat:Nat):Int)≥48)==true)=true by simp;omega,ct]
    by_cases t:s[p].toNat≤57
    ·rw[show cond true (decide (((s[p].toNat:Nat):Int)≤57)) false=true by simp;omega,ct,wS (by omega),e (p+1) (d+1) fuel (by omega) (by omega) (by omega) (by omega)]
     have:Ez s[p]=true:=by simp[Ez];omega
     rw[this,if_pos rfl]
     congr 1;rw[decide_eq_decide];omega
    ·rw[show cond true (decide (((s[p].toNat:Nat):Int)≤57)) false=false by simp;omega,cf,e (p+1) d fuel (by omega) (by omega) (by omega) (by omega)]
     have:Ez s[p]=false:=by simp[Ez];omega
     rw[this];rfl
   ·rw[show(decide (((s[p].toNat:Nat):Int)≥48)==true)=false by simp;omega,cf,e (p+1) d fuel (by omega) (by omega) (by omega) (by omega)]
    have:Ez s[p]=false:=by simp[Ez];omega
    rw[this];rfl
theorem Aqj {N:Nat} {s:List UInt8} {K:Bool→O R} (hs:∀ c ∈ s,c.toNat<128) (b:s.length≤1000000000000) (d:s.length<N):Xy N s K=K (decide (4096<Ajd s)):=by
 rw[dI];unfold KA
 have:=Aqi (R:=R) (N:=N) (K:=K) hs b s.length 0 0 N (by omega) (by omega) d (by omega)
 simpa using this
end
end Gx

namespace Gx
open Go Go.Proofs
section
variable {R:Type}
theorem A7z (m:Nat):(Int.tmod (m:Int) 2==1)=decide (m%2=1):=by
 rw[show Int.tmod (m:Int) 2=((m%2:Nat):Int) by rfl]
 rw[Bool.eq_iff_iff];simp;omega
theorem A70 {m:Nat} (h:m≤1000000000000):IntKind.wrap .i64 (Int.tdiv (m:Int) 2)=((m/2:Nat):Int):=by
 rw[show Int.tdiv (m:Int) 2=((m/2:Nat):Int) by rfl,i64 (by omega)]
theorem A3b (n:Bool) (s:LS) (x y:AV):C4 (U9 n s) 0 [x,y]=[x,y]:=rfl
theorem Bbs (s:LS):C3 false s=(val s.l:Int):=rfl
theorem A71 {N:Nat} {s1 s2:LS} {o1 o2:Bool} (b:Aw s1.l) (c:Aw s2.l) (d:fit (s1.l.length+s2.l.length) N):∃ S,Aw S∧val S=val s1.l*val s2.l∧∀ K:Bool→Nat→LA→O R,TF N (U9 false s1) o1 (U9 false s2) o2 K=K false (Ba (val s1.l*val s2.l)).length (Au S):=by
 obtain⟨S,a1,a2,a3⟩:=A5b (R:=R) (N:=N) (n1:=false) (n2:=false) (o1:=o1) (o2:=o2) b c d
 rw[Bbs,Bbs,←Int.natCast_mul] at a2 a3
 rw[Int.natAbs_natCast] at a2 a3
 refine⟨S,a1,a2,fun K=>?_⟩
 rw[a3,decide_eq_false (by omega)]
theorem mm {P Q m j:Nat} (hP:1≤P) (hQ:1≤Q) (b:j≤m):P ^ j≤Q*P ^ m:=by
 have c:P ^ j≤P ^ m:=Nat.pow_le_pow_right hP b
 have d:1*P ^ m≤Q*P ^ m:=Nat.mul_le_mul_right _ hQ
 omega
theorem A1f {N k:Nat} (C:fit (2*k+4) N):∀ (fuel m P Q:Nat) (c:Bool) (s:LS) (S:List Nat),m<fuel→m≤1000000000→1≤P→1≤Q→Q*P ^ m<4294967296 ^ k→Aw s.l→val s.l=P→s.l.length≤k+1→Aw S→val S=Q →
  ∃ S',Aw S'∧val S'=Q*P ^ m∧∀ K:Bool→Nat→LA→O R,J5 N K fuel (m:Int) c (U9 false s) false (Ba Q).length (Au S)=K false (Ba (Q*P ^ m)).length (Au S'):=by
 intro fuel
 induction fuel with
 | zero=>intro m P Q c s S h;omega
 | succ fuel q =>
  intro m P Q c s S I F hP hQ d hs v x hS hSv
  rcases Nat.eq_zero_or_pos m with h0 | h0
  ·subst h0
   refine⟨S,hS,by simp[hSv],fun K=>?_⟩
   rw[J5];unfold Re
   rw[show decide (((0:Nat):Int)>0)=false by decide,cf,Nat.pow_zero,Nat.mul_one]
  ·have lQ:(Ba Q).length≤k:=MW (Nat.lt_of_le_of_lt (Nat.le_mul_of_pos_right Q (Nat.pow_pos hP)) d)
   have hPm:P ^ 1≤Q*P ^ m:=mm hP hQ h0
   obtain⟨S1,a1,a2,a3⟩:=A71 (R:=R) (N:=N) (s1:=.of (Ba Q) false true) (s2:=s) (o1:=true) (o2:=c) (Av _) hs (C.le (show(Ba Q).length+s.l.length≤_ by omega))
   have vQ:val (LS.of (Ba Q) false true).l=Q:=Ax Q
   rw[vQ,v] at a2 a3
   obtain⟨S2,D,y,z⟩:=A71 (R:=R) (N:=N) (s1:=s) (s2:=s) (o1:=c) (o2:=c) hs hs (C.le (show s.l.length+s.l.length≤_ by omega))
   rw[v] at y z
   have sq:∀ n t:Nat,(P*P) ^ n=P ^ (2*n):=fun n t=>by rw[←Nat.pow_two,←Nat.pow_mul]
   have gt0:decide (((m:Nat):Int)>0)=true:=by simp;omega
   have cell:∀ (t:Nat) (u:List Nat),([.bool false,.imm (List.take ((Ba t).length*1) (Au u)) (Ba t).length 1 false false]:LA)=[.bool false,.imm (List.take ((Ba t).length*1) (Au u)) (Ba t).length 1 false false]:=fun _ _=>rfl
   by_cases b:m%2=1
   ·by_cases G:1<m
    ·have e:Q*P ^ m=(Q*P)*(P*P) ^ (m/2):=by
      rw[sq _ 0,Nat.mul_assoc,←Nat.pow_succ']
      congr 2;omega
     have l2:(Ba (P*P)).length≤k:=MW (Nat.lt_of_le_of_lt (by have:=mm (j:=2) hP hQ (show 2≤m by omega);rwa [Nat.pow_two] at this) d)
     obtain⟨S',c1,f,i⟩:=q (m/2) (P*P) (Q*P) (c||false) (.of (Ba (P*P)) false false) S1 (by omega) (by omega) (Nat.mul_pos hP hP) (Nat.mul_pos hQ hP) (by rw[←e];exact d) (Av _) (Ax _) (by show(Ba (P*P)).length≤_;omega) a1 a2
     refine⟨S',c1,by rw[f,e],fun K=>?_⟩
     rw[J5];unfold Re
     rw[gt0,ct,A7z,decide_eq_true b,ct,Awq,ct,A9t,N7 hS hSv,A84,a3,show decide (((m:Nat):Int)>1)=true by simp;omega,ct,ct,ct,z,show((Nat.beq 2 2)&&(true&&(!false)))=true by rfl,ct,A70 (by omega),A3b,N7 D y,A84,i,e]
    ·have A:m=1:=by omega
     subst A
     obtain⟨S',c1,f,i⟩:=q 0 P (Q*P) c s S1 (by omega) (by omega) hP (Nat.mul_pos hQ hP) (by simpa using d) hs v x a1 a2
     rw[Nat.pow_zero,Nat.mul_one] at f i
     refine⟨S',c1,by rw[f,Nat.pow_one],fun K=>?_⟩
     rw[J5];unfold Re
     rw[gt0,ct,A7z,decide_eq_true b,ct,Awq,ct,A9t,N7 hS hSv,A84,a3,show decide (((1:Nat):Int)>1)=false by decide,cf,A70 (by omega),i,Nat.pow_one]
   ·have G:1<m:=by omega
    have e:Q*P ^ m=Q*(P*P) ^ (m/2):=by
     rw[sq _ 0];congr 2;omega
    have l2:(Ba (P*P)).length≤k:=MW (Nat.lt_of_le_of_lt (by have:=mm (j:=2) hP hQ (show 2≤m by omega);rwa [Nat.pow_two] at this) d)
    obtain⟨S',c1,f,i⟩:=q (m/2) (P*P) Q (c||false) (.of (Ba (P*P)) false false) S (by omega) (by omega) (Nat.mul_pos hP hP) hQ (by rw[←e];exact d) (Av _) (Ax _) (by show(Ba (P*P)).length≤_;omega) hS hSv
    refine⟨S',c1,by rw[f,e],fun K=>?_⟩
    rw[J5];unfold Re
    rw[gt0,ct,A7z,decide_eq_false b,cf,show decide (((m:Nat):Int)>1)=true by simp;omega,ct,Awq,ct,ct,A9t,z,show((Nat.beq 2 2)&&(true&&(!false)))=true by rfl,ct,A70 (by omega),A3b,N7 D y,A84,i,e]
theorem A87:Ba 10=[10]:=by rw[JE (by omega)];simp[Hg]
theorem A72 (n:Nat):10 ^ n<4294967296 ^ (n+1):=by
 have b:10 ^ n≤4294967296 ^ n:=Nat.pow_le_pow_left (by omega) n
 have c:4294967296 ^ n<4294967296 ^ (n+1):=Nat.pow_lt_pow_right (by omega) (by omega)
 omega
theorem A5g {N n:Nat} (b:fit (2*n+6) N):∃ S,Aw S∧val S=10 ^ n∧∀ (K:Bool→Nat→LA→O R),(Ms N 10 fun g e i=>PE N [(.bool g),(.imm (i.take (e*1)) e 1 false true)] true (n:Int) K)=K false (Ba (10 ^ n)).length (Au S):=by
 have q:=b.1;have s:=b.2
 obtain⟨S0,a1,a2,a3⟩:=Zu (R:=R) (N:=N) (v:=1) (by omega) (by omega)
 obtain⟨S1,f,j,m⟩:=Zu (R:=R) (N:=N) (v:=10) (by omega) (by omega)
 obtain⟨S',c1,c,d⟩:=A1f (R:=R) (N:=N) (k:=n+1) (b.le (by omega)) N n 10 1 true (.of (Ba 10) false true) S0 (by omega) (by omega) (by omega) (by omega) (by rw[Nat.one_mul];exact A72 n) (Av _) (Ax _) (by rw[A87];simp[LS.l]) a1 a2
 rw[Nat.one_mul] at c d
 refine⟨S',c1,c,fun K=>?_⟩
 rw[m,oW];unfold gc
 rw[a3]
 refine Eq.trans ?_ (d K)
 rw[show(10:Int).natAbs=10 by rfl,show(1:Int).natAbs=1 by rfl] at *
 rw[N7 f j]
 rfl
theorem A1g (s:List UInt8) (n:Nat) (h:n=s.length):List.take (n*1) (Cb s)=Cb s:=by
 rw[Nat.mul_one];exact List.take_of_length_le (by simp[Cb,h])
theorem Awt (s:List UInt8):List.take s.length (Cb s)=Cb s:=List.take_of_length_le (by simp[Cb])
theorem A5h (a b:List UInt8):Cb a++Cb b=Cb (a++b):=by simp[Cb]
theorem xI:∀ (s:List UInt8),Z2 (Cb s)=some s
 | []=>rfl
 | c::r=>by
  have b:=xI r
  have e:Cb (c::r)=.int .u8 (c.toNat:Int)::Cb r:=rfl
  rw[e,Z2,b]
  simp[yy]
theorem A88 {N:Nat} {s:List UInt8} {K:List UInt8→O R} (h0:s≠[]) (d:s.length≤9223372036854775807):Vp N s.length (Cb s) K=K s:=by
 rw[PH];unfold M'
 have b:0<s.length:=List.length_pos_iff.2 h0
 have c:((Nat.beq 5 5)&&((Nat.beq 1 1)&&(true&&((!false)&&((Nat.beq 0 0)&&((decide (0<((s.length:Nat):Int)))&&((decide (((s.length:Nat):Int)≤(((Cb s).length:Nat):Int)))&&(decide (((s.length:Nat):Int)≤9223372036854775807)))))))))=true:=by
  simp[Cb];omega
 rw[show Nat.blt 0 s.length=true by simpa using b,ct,c,ct,Awt,xI];rfl
theorem A89 {N:Nat} {b:List UInt8} {K:Int→Nat→LA→O R} (c:b.length≤140737488355328):Pq N b K=K (b.length:Int) b.length (Cb b):=by
 rw[HB];unfold CE
 rw[PF];unfold M_
 have:(Nat.ble (0+b.length) 140737488355328&&Nat.ble ((0+b.length)*1) 140737488355328)=true:=by simp;omega
 rw[this,ct,Nat.zero_add]
theorem zM {N:Nat} {s b:List UInt8} {K:Int→Nat→LA→O R} (c:s.length+b.length≤140737488355328):Bk N b s.length (Cb s) K=K (b.length:Int) (s++b).length (Cb (s++b)):=by
 rw[W1];unfold Ty
 rw[CQ];unfold Xz
 have:(Nat.ble (s.length+b.length) 140737488355328&&Nat.ble ((s.length+b.length)*1) 140737488355328)=true:=by simp;omega
 rw[this,ct,A1g s _ rfl,A5h,List.length_append]
end
end Gx

namespace Gx
open Go Go.Proofs
section
variable {R:Type}
theorem Bcc:(Ba (10 ^ 9)).length≤1:=MW (by decide)
theorem RQ (v:Nat) (a b:Bool):Aw (LS.of (Ba v) a b).l:=Av v
end
end Gx

namespace Gx
open Go Go.Proofs
section
variable {R:Type}
def A9a (z:Int) (s:List UInt8):List UInt8:=if z<0 then 45::s else s
theorem NS {a b:Nat} (h:a≤b):Nat.ble a b=true:=by simpa using h
def Af3 (z:Int):List UInt8:=A9a z (Aqf z.natAbs)
end
end Gx

namespace Gx
open Go Go.Proofs Go.RowKit
noncomputable section
variable {R:Type} (N:Nat)
def NT (s t:List UInt8):List (List UInt8):=(Lib.splitB ⟨⟨t⟩⟩ 0 (Lib.countB ⟨⟨s⟩⟩ ⟨⟨t⟩⟩) ⟨⟨s⟩⟩).map fun b=>b.data.toList
def Aqk (l:List (List UInt8)):LA:=l.map .str
def Qm (_N:Nat) (s t:List UInt8) (r0:Nat→LA→O R):O R:=cond (Nat.ble s.length 4294967280&&Nat.ble 1 t.length) (r0 (NT s t).length (Aqk (NT s t))) none
def strings_Split:=(Ag (@Qm R)).1
theorem Pd:@strings_Split R=@Qm R:=(Ag _).2
def Pe (a:LA) (h:Aj) (k:KF R):O R :=
 match a,h with
 | [.str s,.str t],[]=>strings_Split N s t fun n c=>k (.own 300000 0 n) [(300000,bQ 1 c)]
 | _,_=>none
def RR:Tw:=⟨fun {R} a h k=>@Pe R N a h k,fun {R} a h k=>by
 unfold Pe
 split
 ·rw[Pd,Pd];unfold Qm;cases (Nat.ble _ 4294967280&&Nat.ble 1 _)<;>rfl
 ·rfl⟩
end
theorem tc (N:Nat):As1 Tryz.prog 180 (RR N):=by
 intro d h k h' l
 have f:Pe N d h (fun v h'=>some (v,h'))=some (k,h'):=l
 unfold Pe at f
 split at f
 ·rename_i s t
  rw[Pd,Qm] at f
  obtain⟨q,y⟩:=uc f
  simp only[Bool.and_eq_true,Nat.ble_eq] at q
  simp only[Option.some.injEq,Prod.mk.injEq] at y
  obtain⟨rfl,rfl⟩:=y
  have i:=Lib.splitB_all ⟨⟨t⟩⟩ (show 1≤t.length from q.2) 0 _ ⟨⟨s⟩⟩ rfl
  refine A8q (n:=(NT s t).length) (sz:=1) (c:=Aqk (NT s t)) (by simp[Aqk]) fun J β w vs G hr=>?_
  obtain⟨u,v,rfl,e1,z⟩:=Atb hr
  simp only[Rep] at e1 z;subst e1 z
  obtain⟨m,C⟩:=G.int (g:=0) (by decide)
  refine(Any.strings_Split Tryz.lays146 (by kernel_rfl) ⟨⟨s⟩⟩ ⟨⟨t⟩⟩ m w (show s.length<4294967281 by omega) C (show 1≤t.length from q.2)).mono ?_
  rintro e w' ⟨rfl,rfl⟩
  refine⟨_,_,?_,rfl,?_,?_⟩
  ·rw[show(NT s t).length=Lib.countB ⟨⟨s⟩⟩ ⟨⟨t⟩⟩+1 by unfold NT;rw[List.length_map,i]]
  ·simp[NT]
  ·rw[B4]
   intro j x A
   simp only[Aqk,NT,List.map_map,List.getElem?_map,Option.map_eq_some_iff] at A
   obtain⟨b,D,rfl⟩:=A
   exact⟨.string b,by simp[D],by rw[Function.comp,RepC]⟩
 ·cases f
end Gx

namespace Gx
open Go Go.Proofs
open IntKind (wrap)
set_option maxRecDepth 100000
noncomputable section
variable {R:Type} (N:Nat)
def Cy (r0:Int→O R) (c:LA) (b:Nat) (d e:Bool) (k0:Int→Int→O R) (g f:Int):O R :=
 (cond (decide (f<g)) (cond (Ae f b) (Ts (c.drop ((f.toNat)*1)) fun i=>(Rm N i (fun l=>(cond l (r0 f) (k0 g (wrap .i64 (f+1))))))) none) (r0 (-1)))
def Ay (r0:Int→O R) (c:LA) (b:Nat) (d e:Bool):Nat→Int→Int→O R
 | 0,_,_=>none
 | n+1,g,f=>(Cy N r0 c b d e (Ay r0 c b d e n) g f)
def Dp (N:Nat) (r0:Int→O R) (q0:Int→Int→O R) (c:LA) (b:Nat) (d e:Bool):O R :=
 (q0 ((b:Nat):Int) 0)
def Cn:=(Ag (fun (N:Nat) (c:LA) (b:Nat) (d e:Bool) (r0:Int→O R)=>(Dp N r0 (fun g f=>(Ay N r0 c b d e N g f)) c b d e))).1
theorem H8 (c b d e r0):(@Cn R N c b d e r0)=(Dp N r0 (fun g f=>(Ay N r0 c b d e N g f)) c b d e):=by rw[Cn,(Ag _).2]
def Jo:F2:=[(182,ZW N)]
def T8 (F:KF R):=Ju Tryz.f254 iz (Jo N) [] N F
def B8 (F:KF R):Int→O R:=(fun m=>F (iv m) [])
def T9 (c:LA) (b:Nat) (d e:Bool) (g f:Int):St:=⟨[(0,(.imm c b 1 d e)),(1,(.fn 182 [])),(7,(iv g)),(8,(iv f))],[]⟩
def Ua (F:KF R):=T8 N F [1,0,1,0] []
theorem G2 (F:KF R) (c:LA) (b:Nat) (d e:Bool):∀ (n:Nat) (g f:Int),Ak (Ua N F) n (T9 c b d e g f)=(Ay N (B8 F) c b d e n g f)
 | 0,_,_=>by kernel_rfl
 | n+1,g,f=>Eq.trans (by kernel_rfl) (Bt (Cy N (B8 F) c b d e · g f) (funext fun g=>funext fun f=>(G2 F c b d e n g f)):_)
theorem I9 (c:LA) (b:Nat) (d e:Bool) (F:KF R):Cw (Jo N) iz N 254 [(.imm c b 1 d e),(.fn 182 [])] [] F=(Cn N c b d e (B8 F)):=by
 rw[H8]
 exact Eq.trans (by kernel_rfl) (Bt (Dp N (B8 F) · c b d e) (funext fun g=>funext fun f=>(Ad ..).trans (G2 N F c b d e N g f)):_)
def H9 (a:LA) (h:Aj) (k:KF R):O R :=
 match a,h with
 | [(.imm c b 1 d e),(.fn 182 [])],[]=>(Cn N c b d e (B8 k))
 | _,_=>none
theorem Ja:An N 254 @H9:=by
 intro R Q a h k j;unfold H9;split;exact A2 (I9 ..) (I9 ..) ⟨ZX N,trivial⟩;exact A4
def Ub:=A3 (Ja N)
def Uc:=Cz (Ja N)
def Cq (r0:Nat→LA→O R) (b:Nat) (d:LA) (k0:Int→Int→LA→O R) (c e:Int) (f:LA):O R :=
 (cond (decide (e<((b:Nat):Int))) (cond (Ae e b) (Ts (f.drop (0+((e.toNat)*1))) fun i=>(Rm N i (fun l=>(cond (!l) (cond (Ae c b) (cond ((Nat.beq 1 1)&&((Nat.ble ((0+((c.toNat)*1))+1) (f.length))&&(!false))) (k0 (wrap .i64 (c+1)) (wrap .i64 (e+1)) (f.set (0+((c.toNat)*1)) (.str i))) none) none) (k0 c (wrap .i64 (e+1)) f))))) none) (cond ((decide (0≤c))&&((decide (c≤((b:Nat):Int)))&&((decide (((b:Nat):Int)≤((b:Nat):Int)))&&(decide (((b:Nat):Int)≤((b:Nat):Int)))))) (cond ((decide ((0:Int)≤(0:Int)))&&((decide (0≤c))&&((decide (c≤((b:Nat):Int)))&&(decide (((b:Nat):Int)≤((b:Nat):Int)))))) (r0 (c.toNat) (C4 f (0+((c.toNat)*1)) (List.replicate (b - (c.toNat)) (.str ([]:List UInt8))))) none) none))
def Bd (r0:Nat→LA→O R) (b:Nat) (d:LA):Nat→Int→Int→LA→O R
 | 0,_,_,_=>none
 | n+1,c,e,f=>(Cq N r0 b d (Bd r0 b d n) c e f)
def De (r0:Nat→LA→O R) (q0:Int→Int→LA→O R) (b:Nat) (d:LA):O R :=
 (Cn N (d.take (b*1)) b false true (fun g=>(cond (g==(-1)) (r0 b d) (q0 g (wrap .i64 (g+1)) d))))
def Bw:=(Ag (fun (N b:Nat) (d:LA) (r0:Nat→LA→O R)=>(De N r0 (fun c e f=>(Bd N r0 b d N c e f)) b d))).1
theorem Hi (b d r0):(@Bw R N b d r0)=(De N r0 (fun c e f=>(Bd N r0 b d N c e f)) b d):=by rw[Bw,(Ag _).2]
def Ia:Hints:={ H:=(hS hL (hS hL (hS hL (hS (hS hL (hS (hP [0,1,5,6] hL) hL)) hL)))),nils:=[(4,1)],modes:=[(2,1)] }
def Jb:F2:=[(254,Ub N),(182,ZW N)]
def Sx (F:KF R):=Ju Tryz.f181 Ia (Jb N) [100000] N F
def B0 (F:KF R):Nat→LA→O R:=(fun m o=>F (.own 100000 0 m) [(100000,(bQ 1 o))])
def Sy (b:Nat) (d:LA) (c e:Int) (f:LA):St:=⟨[(0,(.own 100000 0 b)),(1,(.fn 182 [])),(5,(iv c)),(6,(iv e))],[(100000,(bQ 1 f))]⟩
def Sz (F:KF R):=Sx N F [1,1,1,0,1,0] []
theorem Gy (F:KF R) (b:Nat) (d:LA):∀ (n:Nat) (c e:Int) (f:LA),Ak (Sz N F) n (Sy b d c e f)=(Bd N (B0 F) b d n c e f)
 | 0,_,_,_=>by kernel_rfl
 | n+1,c,e,f=>Eq.trans (by kernel_rfl) (Bt (Cq N (B0 F) b d · c e f) (funext fun c=>funext fun e=>funext fun f=>(Gy F b d n c e f)):_)
theorem Ib (b:Nat) (d:LA) (F:KF R):Cw (Jb N) Ia N 181 [(.own 100000 0 b),(.fn 182 [])] [(100000,(bQ 1 d))] F=(Bw N b d (B0 F)):=by
 rw[Hi]
 exact Eq.trans (by kernel_rfl) (Bt (De N (B0 F) · b d) (funext fun c=>funext fun e=>funext fun f=>(Ad ..).trans (Gy N F b d N c e f)):_)
def Hj (a:LA) (h:Aj) (k:KF R):O R :=
 match a,h with
 | [(.own 100000 0 b),(.fn 182 [])],[(100000,⟨false,false,true,false,1,d,false,none⟩)]=>(Bw N b d (B0 k))
 | _,_=>none
theorem Ic:An N 181 @Hj:=by
 intro R Q a h k j;unfold Hj;split;exact A2 (Ib ..) (Ib ..) ⟨Uc N,ZX N,trivial⟩;exact A4
def S4:=A3 (Ic N)
def S5:=Cz (Ic N)
def td (b:List UInt8) (r0:Nat→LA→O R):O R :=
 (strings_Cut N b ([35]:List UInt8) (fun c m n=>(strings_Split N c ([32]:List UInt8) (fun d e=>(Bw N d e (fun f g=>(r0 f g)))))))
def fP:=(Ag (@td R)).1
theorem qs:@fP R=@td R:=(Ag _).2
def A1h:F2:=[(105,G' N),(180,RR N),(181,S4 N)]
def xJ (F:KF R):Nat→LA→O R:=(fun i l=>F (.own 300000 0 i) (hq [(bQ 1 l)]))
theorem xK (b:List UInt8) (F:KF R):Cw (A1h N) A2s N 106 [(.str b)] [] F=(fP N b (xJ F)):=by
 rw[qs]
 kernel_rfl
def qt (a:LA) (h:Aj) (k:KF R):O R :=
 match a,h with
 | [(.str b)],[]=>(fP N b (xJ k))
 | _,_=>none
theorem xL:An N 106 @qt:=by
 intro R Q a h k j;unfold qt;split;exact A2 (xK ..) (xK ..) ⟨cZ N,tc N,S5 N,trivial⟩;exact A4
def Awu:=A3 (xL N)
def Awv:=Cz (xL N)
def Amg (N:Nat) (r0:LA→O R):O R :=
 (r0 [(.int .i64 1),(.str ([100,101,109,97,110,100]:List UInt8)),(.int .i64 1),(.int .i64 4),(.int .i64 7),(.int .i64 2),(.str ([116,114,105,112]:List UInt8)),(.int .i64 2),(.int .i64 5),(.int .i64 0),(.int .i64 3),(.str ([108,105,110,101]:List UInt8)),(.int .i64 3),(.int .i64 5),(.int .i64 0),(.int .i64 4),(.str ([111,102,102,101,114]:List UInt8)),(.int .i64 2),(.int .i64 6),(.int .i64 8),(.int .i64 5),(.str ([115,116,101,112]:List UInt8)),(.int .i64 0),(.int .i64 0),(.int .i64 0),(.int .i64 6),(.str ([99,114,97,115,104]:List UInt8)),(.int .i64 0),(.int .i64 0),(.int .i64 9),(.int .i64 7),(.str ([98,111,111,116]:List UInt8)),(.int .i64 0),(.int .i64 0),(.int .i64 0),(.int .i64 8),(.str ([114,101,116,114,121]:List UInt8)),(.int .i64 0),(.int .i64 4),(.int .i64 0)])
def RS:=(Ag (@Amg R)).1
theorem qu:@RS R=@Amg R:=(Ag _).2
def Aww:Hints:={ H:=hL,nils:=[(0,5)],modes:=[(2,5)] }
def xM (F:KF R):LA→O R:=(fun b=>F (.own 300000 0 8) (hq [(bQ 5 b)]))
theorem xN (F:KF R):Cw [] Aww N 183 [] [] F=(RS N (xM F)):=by
 rw[qu]
 kernel_rfl
def qv (a:LA) (h:Aj) (k:KF R):O R :=
 match a,h with
 | [],[]=>(RS N (xM k))
 | _,_=>none
theorem xO:An N 183 @qv:=by
 intro R Q a h k j;unfold qv;split;exact A2 (xN ..) (xN ..) trivial;exact A4
def xP:=A3 (xO N)
def xQ:=Cz (xO N)
def NU (N:Nat) (f:LA) (g:Bool) (b:LA) (c:Nat) (d e:Bool) (r0:Bool→O R):O R :=
 (Ts (f.drop 1) fun i=>(cond (Ae 0 c) (Ts b fun l=>(r0 (i==l))) none))
def Wk:=(Ag (@NU R)).1
theorem RT:@Wk R=@NU R:=(Ag _).2
def ZY (b:LA) (c:Nat) (d e:Bool) (F:KF R):Bool→O R:=(fun m=>F (.bool m) [(100000,(bN 0 [(.imm b c 1 d e)]))])
theorem ZZ (f:LA) (g:Bool) (b:LA) (c:Nat) (d e:Bool) (F:KF R):Cw [] Cr N 185 [(.pagg f g),(.optr 100000 0)] [(100000,(bN 0 [(.imm b c 1 d e)]))] F=(Wk N f g b c d e (ZY b c d e F)):=by
 rw[RT]
 kernel_rfl
def RU (a:LA) (h:Aj) (k:KF R):O R :=
 match a,h with
 | [(.pagg f g),(.optr 100000 0)],[(100000,⟨false,false,false,false,0,[(.imm b c 1 d e)],false,none⟩)]=>(Wk N f g b c d e (ZY b c d e k))
 | _,_=>none
theorem Z_:An N 185 @RU:=by
 intro R Q a h k j;unfold RU;split;exact A2 (ZZ ..) (ZZ ..) trivial;exact A4
def yp:=A3 (Z_ N)
def yq:=Cz (Z_ N)
def Cl (r0:Int→O R) (g:Nat) (b c:LA) (d:Nat) (e f:Bool) (k0:Int→Int→O R) (l i:Int):O R :=
 (cond (decide (i<l)) (cond (Ae i g) (cond (Nat.ble 5 ((b.drop (0+((i.toNat)*5))).length)) (Wk N ((b.drop (0+((i.toNat)*5))).take 5) false c d e f (fun m=>(cond m (r0 i) (k0 l (wrap .i64 (i+1)))))) none) none) (r0 (-1)))
def A0 (r0:Int→O R) (g:Nat) (b c:LA) (d:Nat) (e f:Bool):Nat→Int→Int→O R
 | 0,_,_=>none
 | n+1,l,i=>(Cl N r0 g b c d e f (A0 r0 g b c d e f n) l i)
def C7 (N:Nat) (r0:Int→O R) (q0:Int→Int→O R) (g:Nat) (b c:LA) (d:Nat) (e f:Bool):O R :=
 (q0 ((g:Nat):Int) 0)
def Bm:=(Ag (fun (N g:Nat) (b c:LA) (d:Nat) (e f:Bool) (r0:Int→O R)=>(C7 N r0 (fun l i=>(A0 N r0 g b c d e f N l i)) g b c d e f))).1
theorem G3 (g b c d e f r0):(@Bm R N g b c d e f r0)=(C7 N r0 (fun l i=>(A0 N r0 g b c d e f N l i)) g b c d e f):=by rw[Bm,(Ag _).2]
def If:F2:=[(185,yp N)]
def Ry (F:KF R):=Ju Tryz.f184 iz (If N) [100000,100001] N F
def Bz (b c:LA) (d:Nat) (e f:Bool) (F:KF R):Int→O R:=(fun o=>F (iv o) [(100000,(bQ 5 b)),(100001,(bN 0 [(.imm c d 1 e f)]))])
def Rz (g:Nat) (b c:LA) (d:Nat) (e f:Bool) (l i:Int):St:=⟨[(0,(.own 100000 0 g)),(1,(.fn 185 [(.optr 100001 0)])),(7,(iv l)),(8,(iv i))],[(100000,(bQ 5 b)),(100001,(bN 0 [(.imm c d 1 e f)]))]⟩
def R2 (F:KF R):=Ry N F [1,0,1,0] []
theorem Gf (F:KF R) (g:Nat) (b c:LA) (d:Nat) (e f:Bool):∀ (n:Nat) (l i:Int),Ak (R2 N F) n (Rz g b c d e f l i)=(A0 N (Bz b c d e f F) g b c d e f n l i)
 | 0,_,_=>by kernel_rfl
 | n+1,l,i=>Eq.trans (by kernel_rfl) (Bt (Cl N (Bz b c d e f F) g b c d e f · l i) (funext fun l=>funext fun i=>(Gf F g b c d e f n l i)):_)
theorem Hk (g:Nat) (b c:LA) (d:Nat) (e f:Bool) (F:KF R):Cw (If N) iz N 184 [(.own 100000 0 g),(.fn 185 [(.optr 100001 0)])] [(100000,(bQ 5 b)),(100001,(bN 0 [(.imm c d 1 e f)]))] F=(Bm N g b c d e f (Bz b c d e f F)):=by
 rw[G3]
 exact Eq.trans (by kernel_rfl) (Bt (C7 N (Bz b c d e f F) · g b c d e f) (funext fun l=>funext fun i=>(Ad ..).trans (Gf N F g b c d e f N l i)):_)
def G4 (a:LA) (h:Aj) (k:KF R):O R :=
 match a,h with
 | [(.own 100000 0 g),(.fn 185 [(.optr 100001 0)])],[(100000,⟨false,false,true,false,5,b,false,none⟩),(100001,⟨false,false,false,false,0,[(.imm c d 1 e f)],false,none⟩)]=>(Bm N g b c d e f (Bz b c d e f k))
 | _,_=>none
theorem Hl:An N 184 @G4:=by
 intro R Q a h k j;unfold G4;split;exact A2 (Hk ..) (Hk ..) ⟨yq N,trivial⟩;exact A4
def R3:=A3 (Hl N)
def R4:=Cz (Hl N)
def FD (N:Nat) (r0:Nat→Bool→LA→O R) (l:LA) (p:Nat) (b:Bool) (k0:Nat→Int→Int→LA→O R) (f:Nat) (s c:Int) (t:LA):O R :=
 (cond (decide (c<s)) (cond (Ae c p) (cond (Nat.ble 3 ((l.drop ((c.toNat)*3)).length)) (cond ((Nat.beq 0 0)&&((Nat.beq (((l.drop ((c.toNat)*3)).take 3).length) 3)&&(Nat.beq 3 3))) (Ts ((l.drop ((c.toNat)*3)).take 3) fun aa=>(cond ((Nat.ble (f+1) 140737488355328)&&(Nat.ble ((f+1)*16) 140737488355328)) (k0 (f+1) s (wrap .i64 (c+1)) ((t.take (f*1))++[(.str aa)])) none)) none) none) none) (r0 f true t))
def Qn (r0:Nat→Bool→LA→O R) (l:LA) (p:Nat) (b:Bool):Nat→Nat→Int→Int→LA→O R
 | 0,_,_,_,_=>none
 | n+1,f,s,c,t=>(FD N r0 l p b (Qn r0 l p b n) f s c t)
def FE (N:Nat) (r0:Nat→Bool→LA→O R) (m:LA) (q:Nat) (b:Bool) (k1:Nat→Int→Int→LA→O R) (g:Nat) (u d:Int) (v:LA):O R :=
 (cond (decide (d<u)) (cond (Ae d q) (cond (Nat.ble 22 ((m.drop ((d.toNat)*22)).length)) (cond ((Nat.beq 0 0)&&((Nat.beq (((m.drop ((d.toNat)*22)).take 22).length) 22)&&(Nat.beq 22 22))) (Ts ((m.drop ((d.toNat)*22)).take 22) fun ab=>(cond ((Nat.ble (g+1) 140737488355328)&&(Nat.ble ((g+1)*16) 140737488355328)) (k1 (g+1) u (wrap .i64 (d+1)) ((v.take (g*1))++[(.str ab)])) none)) none) none) none) (r0 g true v))
def Qo (r0:Nat→Bool→LA→O R) (m:LA) (q:Nat) (b:Bool):Nat→Nat→Int→Int→LA→O R
 | 0,_,_,_,_=>none
 | n+1,g,u,d,v=>(FE N r0 m q b (Qo r0 m q b n) g u d v)
def FF (N:Nat) (r0:Nat→Bool→LA→O R) (o:LA) (r:Nat) (b:Bool) (k2:Nat→Int→Int→LA→O R) (i:Nat) (w e:Int) (x:LA):O R :=
 (cond (decide (e<w)) (cond (Ae e r) (cond (Nat.ble 12 ((o.drop ((e.toNat)*12)).length)) (cond ((Nat.beq 0 0)&&((Nat.beq (((o.drop ((e.toNat)*12)).take 12).length) 12)&&(Nat.beq 12 12))) (Ts ((o.drop ((e.toNat)*12)).take 12) fun ac=>(cond ((Nat.ble (i+1) 140737488355328)&&(Nat.ble ((i+1)*16) 140737488355328)) (k2 (i+1) w (wrap .i64 (e+1)) ((x.take (i*1))++[(.str ac)])) none)) none) none) none) (r0 i true x))
def Qp (r0:Nat→Bool→LA→O R) (o:LA) (r:Nat) (b:Bool):Nat→Nat→Int→Int→LA→O R
 | 0,_,_,_,_=>none
 | n+1,i,w,e,x=>(FF N r0 o r b (Qp r0 o r b n) i w e x)
def Yo (N:Nat) (r0:Nat→Bool→LA→O R) (q0:LA→Nat→Nat→Int→Int→LA→O R) (q1:LA→Nat→Nat→Int→Int→LA→O R) (q2:LA→Nat→Nat→Int→Int→LA→O R) (y:LA) (b:Bool) (z:Int):O R :=
 (cond (z==1) (Br 3 (y.drop 2) fun l p=>(q0 l p 0 ((p:Nat):Int) 0 [])) (cond (z==2) (Br 22 (y.drop 4) fun m q=>(q1 m q 0 ((q:Nat):Int) 0 [])) (cond (z==3) (Br 12 (y.drop 3) fun o r=>(q2 o r 0 ((r:Nat):Int) 0 [])) (r0 0 false []))))
def Ki:=(Ag (fun (N:Nat) (y:LA) (b:Bool) (z:Int) (r0:Nat→Bool→LA→O R)=>(Yo N r0 (fun l p f s c t=>(Qn N r0 l p b N f s c t)) (fun m q g u d v=>(Qo N r0 m q b N g u d v)) (fun o r i w e x=>(Qp N r0 o r b N i w e x)) y b z))).1
theorem Wl (y b z r0):(@Ki R N y b z r0)=(Yo N r0 (fun l p f s c t=>(Qn N r0 l p b N f s c t)) (fun m q g u d v=>(Qo N r0 m q b N g u d v)) (fun o r i w e x=>(Qp N r0 o r b N i w e x)) y b z):=by rw[Ki,(Ag _).2]
def xR:Hints:={ H:=(hS hL (hS hL (hS (hS hL (hS (hS hL (hS (hS hL (hS (hP [6,17,18,19] hL) hL)) (hS hL (hS (hS hL (hS (hP [6,32,33,34] hL) hL)) (hS hL (hS (hS hL (hS (hP [6,47,48,49] hL) hL)) hL)))))) hL)) hL))),nils:=[(4,1),(6,1)],modes:=[(2,1),(0,0)] }
def fQ (F:KF R):=Ju Tryz.f115 xR [] [] N F
def Kj (F:KF R):Nat→Bool→LA→O R:=(fun ad ae af=>F (.tup [(.own 300000 0 ad),(.bool ae)]) (hq [(bQ 1 af)]))
def Awx (l:LA) (p:Nat) (b:Bool) (f:Nat) (s c:Int) (t:LA):St:=⟨[(6,(.own 300000 0 f)),(17,(.imm l p 3 false b)),(18,(iv s)),(19,(iv c))],(hq [(bQ 1 t)])⟩
def Awy (F:KF R):=fQ N F [1,1,0,1,0,1,0,1,0] []
def Awz (m:LA) (q:Nat) (b:Bool) (g:Nat) (u d:Int) (v:LA):St:=⟨[(6,(.own 300000 0 g)),(32,(.imm m q 22 false b)),(33,(iv u)),(34,(iv d))],(hq [(bQ 1 v)])⟩
def Aw0 (F:KF R):=fQ N F [1,1,0,1,0,1,1,1,0,1,0] []
def Aw1 (o:LA) (r:Nat) (b:Bool) (i:Nat) (w e:Int) (x:LA):St:=⟨[(6,(.own 300000 0 i)),(47,(.imm o r 12 false b)),(48,(iv w)),(49,(iv e))],(hq [(bQ 1 x)])⟩
def Aw2 (F:KF R):=fQ N F [1,1,0,1,0,1,1,1,1,1,0,1,0] []
theorem fR (F:KF R) (l:LA) (p:Nat) (b:Bool):∀ (n f:Nat) (s c:Int) (t:LA),Ak (Awy N F) n (Awx l p b f s c t)=(Qn N (Kj F) l p b n f s c t)
 | 0,_,_,_,_=>by kernel_rfl
 | n+1,f,s,c,t=>Eq.trans (by kernel_rfl) (Bt (FD N (Kj F) l p b · f s c t) (funext fun f=>funext fun s=>funext fun c=>funext fun t=>(fR F l p b n f s c t)):_)
theorem fS (F:KF R) (m:LA) (q:Nat) (b:Bool):∀ (n g:Nat) (u d:Int) (v:LA),Ak (Aw0 N F) n (Awz m q b g u d v)=(Qo N (Kj F) m q b n g u d v)
 | 0,_,_,_,_=>by kernel_rfl
 | n+1,g,u,d,v=>Eq.trans (by kernel_rfl) (Bt (FE N (Kj F) m q b · g u d v) (funext fun g=>funext fun u=>funext fun d=>funext fun v=>(fS F m q b n g u d v)):_)
theorem fT (F:KF R) (o:LA) (r:Nat) (b:Bool):∀ (n i:Nat) (w e:Int) (x:LA),Ak (Aw2 N F) n (Aw1 o r b i w e x)=(Qp N (Kj F) o r b n i w e x)
 | 0,_,_,_,_=>by kernel_rfl
 | n+1,i,w,e,x=>Eq.trans (by kernel_rfl) (Bt (FF N (Kj F) o r b · i w e x) (funext fun i=>funext fun w=>funext fun e=>funext fun x=>(fT F o r b n i w e x)):_)
theorem xS (y:LA) (b:Bool) (z:Int) (F:KF R):Cw [] xR N 115 [(.pagg y b),(iv z)] [] F=(Ki N y b z (Kj F)):=by
 rw[Wl]
 exact Eq.trans (by kernel_rfl) (Bbw (Yo N (Kj F) · · · y b z) (funext fun l=>funext fun p=>funext fun f=>funext fun s=>funext fun c=>funext fun t=>(Ad ..).trans (fR N F l p b N f s c t)) (funext fun m=>funext fun q=>funext fun g=>funext fun u=>funext fun d=>funext fun v=>(Ad ..).trans (fS N F m q b N g u d v)) (funext fun o=>funext fun r=>funext fun i=>funext fun w=>funext fun e=>funext fun x=>(Ad ..).trans (fT N F o r b N i w e x)):_)
def qw (a:LA) (h:Aj) (k:KF R):O R :=
 match a,h with
 | [(.pagg y b),(.int .i64 z)],[]=>(Ki N y b z (Kj k))
 | _,_=>none
theorem xT:An N 115 @qw:=by
 intro R Q a h k j;unfold qw;split;exact A2 (xS ..) (xS ..) trivial;exact A4
def xU:=A3 (xT N)
def xV:=Cz (xT N)
def Dv (N:Nat) (r0:Int→O R) (c:LA) (b:Nat) (e f:Bool) (d:List UInt8) (k0:Int→Int→O R) (i g:Int):O R :=
 (cond (decide (g<i)) (cond (Ae g b) (Ts (c.drop ((g.toNat)*1)) fun l=>(cond (d==l) (r0 g) (k0 i (wrap .i64 (g+1))))) none) (r0 (-1)))
def Bl (r0:Int→O R) (c:LA) (b:Nat) (e f:Bool) (d:List UInt8):Nat→Int→Int→O R
 | 0,_,_=>none
 | n+1,i,g=>(Dv N r0 c b e f d (Bl r0 c b e f d n) i g)
def En (N:Nat) (r0:Int→O R) (q0:Int→Int→O R) (c:LA) (b:Nat) (e f:Bool) (d:List UInt8):O R :=
 (q0 ((b:Nat):Int) 0)
def Cm:=(Ag (fun (N:Nat) (c:LA) (b:Nat) (e f:Bool) (d:List UInt8) (r0:Int→O R)=>(En N r0 (fun i g=>(Bl N r0 c b e f d N i g)) c b e f d))).1
theorem Lc (c b e f d r0):(@Cm R N c b e f d r0)=(En N r0 (fun i g=>(Bl N r0 c b e f d N i g)) c b e f d):=by rw[Cm,(Ag _).2]
def Yp (F:KF R):=Ju Tryz.f186 iz [] [] N F
def Cv (F:KF R):Int→O R:=(fun m=>F (iv m) [])
def Yq (c:LA) (b:Nat) (e f:Bool) (d:List UInt8) (i g:Int):St:=⟨[(0,(.imm c b 1 e f)),(1,(.str d)),(7,(iv i)),(8,(iv g))],[]⟩
def Yr (F:KF R):=Yp N F [1,0,1,0] []
theorem Jp (F:KF R) (c:LA) (b:Nat) (e f:Bool) (d:List UInt8):∀ (n:Nat) (i g:Int),Ak (Yr N F) n (Yq c b e f d i g)=(Bl N (Cv F) c b e f d n i g)
 | 0,_,_=>by kernel_rfl
 | n+1,i,g=>Eq.trans (by kernel_rfl) (Bt (Dv N (Cv F) c b e f d · i g) (funext fun i=>funext fun g=>(Jp F c b e f d n i g)):_)
theorem L5 (c:LA) (b:Nat) (e f:Bool) (d:List UInt8) (F:KF R):Cw [] iz N 186 [(.imm c b 1 e f),(.str d)] [] F=(Cm N c b e f d (Cv F)):=by
 rw[Lc]
 exact Eq.trans (by kernel_rfl) (Bt (En N (Cv F) · c b e f d) (funext fun i=>funext fun g=>(Ad ..).trans (Jp N F c b e f d N i g)):_)
def Ld (a:LA) (h:Aj) (k:KF R):O R :=
 match a,h with
 | [(.imm c b 1 e f),(.str d)],[]=>(Cm N c b e f d (Cv k))
 | _,_=>none
theorem L6:An N 186 @Ld:=by
 intro R Q a h k j;unfold Ld;split;exact A2 (L5 ..) (L5 ..) trivial;exact A4
def Ys:=A3 (L6 N)
def Yt:=Cz (L6 N)
def mo (b:List UInt8) (r0:Int→Bool→Int→O R):O R :=
 (Un N b (fun c d=>(cond ((Nat.beq 0 0)&&((Nat.beq (c.length) 2)&&(Nat.beq 2 2))) (cond (d==8) (r0 0 false 0) (cond (d != 0) (r0 0 false 2) (cond (Nat.ble 2 (c.length)) (Z7 N (c.take 2) false (fun e f=>(r0 e f 0))) none))) none)))
def RV:=(Ag (@mo R)).1
theorem lB:@RV R=@mo R:=(Ag _).2
def Aw3:F2:=[(23,Acz N),(201,Auc N)]
def qx (F:KF R):Int→Bool→Int→O R:=(fun g i l=>F (.tup [(iv g),(.bool i),(iv l)]) [])
theorem qy (b:List UInt8) (F:KF R):Cw (Aw3 N) Cr N 187 [(.str b)] [] F=(RV N b (qx F)):=by
 rw[lB]
 kernel_rfl
def lC (a:LA) (h:Aj) (k:KF R):O R :=
 match a,h with
 | [(.str b)],[]=>(RV N b (qx k))
 | _,_=>none
theorem qz:An N 187 @lC:=by
 intro R Q a h k j;unfold lC;split;exact A2 (qy ..) (qy ..) ⟨Ac0 N,Aud N,trivial⟩;exact A4
def Aql:=A3 (qz N)
def Aqm:=Cz (qz N)
def Zv (N:Nat) (r0:LA→Bool→O R) (c:Int) (d:LA) (k0:Int→O R) (b:Int):O R :=
 (cond (decide (b<8)) (cond (Ae b 8) (cond (Nat.ble 5 ((d.drop (0+((b.toNat)*5))).length)) (cond ((Nat.beq 0 0)&&((Nat.beq (((d.drop (0+((b.toNat)*5))).take 5).length) 5)&&(Nat.beq 5 5))) (Ap .i64 ((d.drop (0+((b.toNat)*5))).take 5) fun e=>(cond (e==c) (cond (Nat.ble 5 (((d.drop (0+((b.toNat)*5))).take 5).length)) (cond ((Nat.beq 0 0)&&((Nat.beq ((((d.drop (0+((b.toNat)*5))).take 5).take 5).length) 5)&&(Nat.beq 5 5))) (cond (Nat.ble 5 ((((d.drop (0+((b.toNat)*5))).take 5).take 5).length)) (r0 ((((d.drop (0+((b.toNat)*5))).take 5).take 5).take 5) true) none) none) none) (k0 (wrap .i64 (b+1))))) none) none) none) (r0 [(.int .i64 0),(.str ([]:List UInt8)),(.int .i64 0),(.int .i64 0),(.int .i64 0)] false))
def Ht (r0:LA→Bool→O R) (c:Int) (d:LA):Nat→Int→O R
 | 0,_=>none
 | n+1,b=>(Zv N r0 c d (Ht r0 c d n) b)
def VH (r0:LA→Bool→O R) (q0:LA→Int→O R) (c:Int):O R :=
 (RS N (fun d=>(q0 d 0)))
def L7:=(Ag (fun (N:Nat) (c:Int) (r0:LA→Bool→O R)=>(VH N r0 (fun d b=>(Ht N r0 c d N b)) c))).1
theorem lD (c r0):(@L7 R N c r0)=(VH N r0 (fun d b=>(Ht N r0 c d N b)) c):=by rw[L7,(Ag _).2]
def rA:Hints:={ H:=(hS hL (hS (hS hL (hS (hP [0,2,6,7,8] hL) hL)) hL)),modes:=[(3,0),(0,0)] }
def xW:F2:=[(183,xP N)]
def Aqn (F:KF R):=Ju Tryz.f112 rA (xW N) [] N F
def Wm (F:KF R):LA→Bool→O R:=(fun f g=>F (.tup [(.pagg f false),(.bool g)]) [])
def Aqo (c:Int) (d:LA) (b:Int):St:=⟨[(0,(iv c)),(2,(op 0)),(6,(.own 300001 0 8)),(7,(iv 8)),(8,(iv b))],(hq [(bN 0 [(iv 0),(.str ([]:List UInt8)),(iv 0),(iv 0),(iv 0)]),(bQ 5 d)])⟩
def Aqp (F:KF R):=Aqn N F [1,0,1,0] []
theorem Z' (F:KF R) (c:Int) (d:LA):∀ (n:Nat) (b:Int),Ak (Aqp N F) n (Aqo c d b)=(Ht N (Wm F) c d n b)
 | 0,_=>by kernel_rfl
 | n+1,b=>Eq.trans (by kernel_rfl) (Bt (Zv N (Wm F) c d · b) (funext fun b=>(Z' F c d n b)):_)
theorem rB (c:Int) (F:KF R):Cw (xW N) rA N 112 [(iv c)] [] F=(L7 N c (Wm F)):=by
 rw[lD]
 exact Eq.trans (by kernel_rfl) (Bt (VH N (Wm F) · c) (funext fun d=>funext fun b=>(Ad ..).trans (Z' N F c d N b)):_)
def lE (a:LA) (h:Aj) (k:KF R):O R :=
 match a,h with
 | [(.int .i64 c)],[]=>(L7 N c (Wm k))
 | _,_=>none
theorem rC:An N 112 @lE:=by
 intro R Q a h k j;unfold lE;split;exact A2 (rB ..) (rB ..) ⟨xQ N,trivial⟩;exact A4
def rD:=A3 (rC N)
def rE:=Cz (rC N)
def mq (N:Nat) (c:LA) (e:Bool) (b d:Int) (r0:Int→Int→O R):O R :=
 (cond (b==1) (Br 3 (c.drop 2) fun s f=>(r0 0 (wrap .i64 (((f:Nat):Int) - 1)))) (cond (b==2) (Br 22 (c.drop 4) fun t g=>(r0 0 (wrap .i64 (((g:Nat):Int) - 1)))) (cond (b==3) (Br 12 (c.drop 3) fun u i=>(r0 0 (wrap .i64 (((i:Nat):Int) - 1)))) (cond (b==4) (Ap .i64 c fun l=>(r0 0 (wrap .i64 (l - 1)))) (cond (b==5) (Ap .i64 c fun m=>(r0 1 m)) (cond (b==6) (Br 22 (c.drop 4) fun n o=>(cond (Ae d o) (Br 2 ((n.drop ((d.toNat)*22)).drop 4) fun v p=>(r0 0 (wrap .i64 (((p:Nat):Int) - 1)))) none)) (cond (b==7) (r0 0 1048576) (cond (b==8) (r0 (-1048576) 1048576) (cond (b==9) (r0 0 16777216) (r0 0 0))))))))))
def Yu:=(Ag (@mq R)).1
theorem lF:@Yu R=@mq R:=(Ag _).2
def rF (F:KF R):Int→Int→O R:=(fun q r=>F (.tup [(iv q),(iv r)]) [])
theorem rG (c:LA) (e:Bool) (b d:Int) (F:KF R):Cw [] Cr N 189 [(.pagg c e),(iv b),(iv d)] [] F=(Yu N c e b d (rF F)):=by
 rw[lF]
 kernel_rfl
def lG (a:LA) (h:Aj) (k:KF R):O R :=
 match a,h with
 | [(.pagg c e),(.int .i64 b),(.int .i64 d)],[]=>(Yu N c e b d (rF k))
 | _,_=>none
theorem rH:An N 189 @lG:=by
 intro R Q a h k j;unfold lG;split;exact A2 (rG ..) (rG ..) trivial;exact A4
def Aqq:=A3 (rH N)
def Aqr:=Cz (rH N)
def FG (r0:Bool→O R) (i l m:Int) (e:Bool) (c:LA) (f:Bool) (b g:LA) (k0:Int→O R) (d:Int):O R :=
 (cond (decide (d<3)) (cond (Ae d 3) (cond (Nat.beq ((d.toNat)*1) 0) (cond (Nat.ble 8 (c.length)) (cond (Ae d 3) (Ap .i64 (g.drop (2+((d.toNat)*1))) fun o=>(Ap .i64 (b.drop 1) fun p=>(Yu N (c.take 8) e o p (fun q r=>(cond ((decide (i<q))==false) (cond (cond false true (decide (i>r))) (r0 false) (k0 (wrap .i64 (d+1)))) (r0 false)))))) none) none) (cond (Nat.beq ((d.toNat)*1) 1) (cond (Nat.ble 8 (c.length)) (cond (Ae d 3) (Ap .i64 (g.drop (2+((d.toNat)*1))) fun s=>(Ap .i64 (b.drop 1) fun t=>(Yu N (c.take 8) e s t (fun u v=>(cond ((decide (l<u))==false) (cond (cond false true (decide (l>v))) (r0 false) (k0 (wrap .i64 (d+1)))) (r0 false)))))) none) none) (cond (Nat.beq ((d.toNat)*1) 2) (cond (Nat.ble 8 (c.length)) (cond (Ae d 3) (Ap .i64 (g.drop (2+((d.toNat)*1))) fun w=>(Ap .i64 (b.drop 1) fun x=>(Yu N (c.take 8) e w x (fun y z=>(cond ((decide (m<y))==false) (cond (cond false true (decide (m>z))) (r0 false) (k0 (wrap .i64 (d+1)))) (r0 false)))))) none) none) none))) none) (r0 true))
def Fw (r0:Bool→O R) (i l m:Int) (e:Bool) (c:LA) (f:Bool) (b g:LA):Nat→Int→O R
 | 0,_=>none
 | n+1,d=>(FG N r0 i l m e c f b g (Fw r0 i l m e c f b g n) d)
def h_ (r0:Bool→O R) (q0:Int→Int→Int→LA→Int→O R) (c:LA) (e:Bool) (b:LA) (f:Bool):O R :=
 (Ap .i64 b fun aa=>(L7 N aa (fun g ab=>(cond ((Nat.beq 0 0)&&((Nat.beq (g.length) 5)&&(Nat.beq 5 5))) (cond (!ab) (r0 false) (Ap .i64 (b.drop 1) fun i=>(Ap .i64 (b.drop 2) fun l=>(Ap .i64 (b.drop 3) fun m=>(q0 i l m g 0))))) none))))
def Qq:=(Ag (fun (N:Nat) (c:LA) (e:Bool) (b:LA) (f:Bool) (r0:Bool→O R)=>(h_ N r0 (fun i l m g d=>(Fw N r0 i l m e c f b g N d)) c e b f))).1
theorem rI (c e b f r0):(@Qq R N c e b f r0)=(h_ N r0 (fun i l m g d=>(Fw N r0 i l m e c f b g N d)) c e b f):=by rw[Qq,(Ag _).2]
def xX:Hints:={ H:=(hS hL (hS hL (hS hL (hS (hS hL (hS (hP [2,3,5,25,26] hL) hL)) hL)))) }
def Af4:F2:=[(112,rD N),(189,Aqq N)]
def Aw4 (F:KF R):=Ju Tryz.f109 xX (Af4 N) [] N F
def BU (F:KF R):Bool→O R:=(fun ac=>F (.bool ac) [])
def Aw5 (i l m:Int) (e:Bool) (c:LA) (f:Bool) (b g:LA) (d:Int):St:=⟨[(2,(op 0)),(3,(op 1)),(5,(op 2)),(25,(.agg [(iv i),(iv l),(iv m)])),(26,(iv d))],(hq [(bP e 0 c),(bP f 0 b),(bQ 0 g)])⟩
def Aw6 (F:KF R):=Aw4 N F [1,1,1,0,1,0] []
theorem fU (F:KF R) (i l m:Int) (e:Bool) (c:LA) (f:Bool) (b g:LA):∀ (n:Nat) (d:Int),Ak (Aw6 N F) n (Aw5 i l m e c f b g d)=(Fw N (BU F) i l m e c f b g n d)
 | 0,_=>by kernel_rfl
 | n+1,d=>Eq.trans (by kernel_rfl) (Bt (FG N (BU F) i l m e c f b g · d) (funext fun d=>(fU F i l m e c f b g n d)):_)
theorem xY (c:LA) (e:Bool) (b:LA) (f:Bool) (F:KF R):Cw (Af4 N) xX N 109 [(.pagg c e),(.pagg b f)] [] F=(Qq N c e b f (BU F)):=by
 rw[rI]
 exact Eq.trans (by kernel_rfl) (Bt (h_ N (BU F) · c e b f) (funext fun i=>funext fun l=>funext fun m=>funext fun g=>funext fun d=>(Ad ..).trans (fU N F i l m e c f b g N d)):_)
def rJ (a:LA) (h:Aj) (k:KF R):O R :=
 match a,h with
 | [(.pagg c e),(.pagg b f)],[]=>(Qq N c e b f (BU k))
 | _,_=>none
theorem xZ:An N 109 @rJ:=by
 intro R Q a h k j;unfold rJ;split;exact A2 (xY ..) (xY ..) ⟨rE N,Aqr N,trivial⟩;exact A4
def fV:=A3 (xZ N)
def fW:=Cz (xZ N)
end
end Gx

namespace Gx.Cf
open Go Go.Proofs
section
variable {R:Type}
def yr:LA:=[(.int .i64 1),(.str ([100,101,109,97,110,100]:List UInt8)),(.int .i64 1),(.int .i64 4),(.int .i64 7),(.int .i64 2),(.str ([116,114,105,112]:List UInt8)),(.int .i64 2),(.int .i64 5),(.int .i64 0),(.int .i64 3),(.str ([108,105,110,101]:List UInt8)),(.int .i64 3),(.int .i64 5),(.int .i64 0),(.int .i64 4),(.str ([111,102,102,101,114]:List UInt8)),(.int .i64 2),(.int .i64 6),(.int .i64 8),(.int .i64 5),(.str ([115,116,101,112]:List UInt8)),(.int .i64 0),(.int .i64 0),(.int .i64 0),(.int .i64 6),(.str ([99,114,97,115,104]:List UInt8)),(.int .i64 0),(.int .i64 0),(.int .i64 9),(.int .i64 7),(.str ([98,111,111,116]:List UInt8)),(.int .i64 0),(.int .i64 0),(.int .i64 0),(.int .i64 8),(.str ([114,101,116,114,121]:List UInt8)),(.int .i64 0),(.int .i64 4),(.int .i64 0)]
def Ig (i:Nat):LA:=(yr.drop (i*5)).take 5
def Af5 (k a b v:Int):LA:=[.int .i64 k,.int .i64 a,.int .i64 b,.int .i64 v]
theorem lH {N:Nat} {K:LA→O R}:RS N K=K yr:=by rw[qu];rfl
theorem Aw7 {N n i:Nat} {k:Int} {K:LA→Bool→O R} (h:i<8):Ht N K k yr (n+1) (i:Int)=cond (((i+1:Nat):Int)==k) (K (Ig i) true) (Ht N K k yr n ((i+1:Nat):Int)):=by
 rw[Ht];unfold Zv
 rcases i with _ | _ | _ | _ | _ | _ | _ | _ | i
 ·rfl
 ·rfl
 ·rfl
 ·rfl
 ·rfl
 ·rfl
 ·rfl
 ·rfl
 ·omega
def A9v:LA:=[.int .i64 0,.str [],.int .i64 0,.int .i64 0,.int .i64 0]
theorem Af6 {N:Nat} {k:Int} {K:LA→Bool→O R}:∀ (m i fuel:Nat),i+m=8→m<fuel→Ht N K k yr fuel (i:Int)=(if ((i+1:Nat):Int)≤k∧k≤8 then K (Ig (k - 1).toNat) true else K A9v false)
 | 0,i,fuel+1,hi,_=>by
  obtain rfl:i=8:=by omega
  rw[Ht];unfold Zv
  rw[if_neg (by omega)];rfl
 | m+1,i,fuel+1,hi,b=>by
  rw[Aw7 (by omega),Af6 m (i+1) fuel (by omega) (by omega)]
  by_cases e:((i+1:Nat):Int)=k
  ·subst e
   rw[show(((i+1:Nat):Int)==((i+1:Nat):Int))=true by simp,ct,if_pos (by omega),show(((i+1:Nat):Int) - 1).toNat=i by omega]
  ·rw[show(((i+1:Nat):Int)==k)=false by simpa using e]
   show(if _ then _ else _)=_
   by_cases h:((i+1:Nat):Int)≤k∧k≤8
   ·rw[if_pos h,if_pos (by omega)]
   ·rw[if_neg h,if_neg (by omega)]
theorem IL {N:Nat} {k:Int} {K:LA→Bool→O R} (hN:9≤N):L7 N k K=(if 1≤k∧k≤8 then K (Ig (k - 1).toNat) true else K A9v false):=by
 rw[lD];unfold VH
 rw[lH]
 exact Af6 8 0 N rfl (by omega)
def BV (lo hi v:Int):Bool:=decide (lo≤v)&&decide (v≤hi)
def Af7 (c:CaseD) (a:Int):Nat:=match c.units.l[a.toNat]? with | some u=>u.segs.l.length | none=>0
def zN (c:CaseD) (a f:Int):Int×Int :=
 if f=1 then (0,(c.buses.l.length:Int) - 1) else if f=2 then (0,(c.units.l.length:Int) - 1) else if f=3 then (0,(c.lines.l.length:Int) - 1) else if f=4 then (0,c.hours - 1) else if f=5 then (1,c.hours)
 else if f=6 then (0,(Af7 c a:Int) - 1) else if f=7 then (0,1048576) else if f=8 then (-1048576,1048576) else if f=9 then (0,16777216) else (0,0)
theorem A9b {n:Nat} (h:n<4611686018427387904):IntKind.wrap .i64 ((n:Int) - 1)=(n:Int) - 1:=i64 (by omega)
theorem Af8 {N:Nat} {c:CaseD} {o:Bool} {f a:Int} {K:Int→Int→O R} (hs:Small c N) (hH:1≤c.hours∧c.hours≤24) (v:f=6→0≤a∧a<(c.units.l.length:Int)) :
  Yu N c.av o f a K=K (zN c a f).1 (zN c a f).2:=by
 rw[lF];unfold mq zN
 by_cases d:f=1
 ·subst d;rw[show((1:Int)==1)=true by rfl,ct,Gs,A9b hs.bus.2];rfl
 rw[show(f==1)=false by simpa using d,cf,if_neg d]
 by_cases i:f=2
 ·subst i;rw[show((2:Int)==2)=true by rfl,ct,C2,A9b hs.uni.2];rfl
 rw[show(f==2)=false by simpa using i,cf,if_neg i]
 by_cases j:f=3
 ·subst j;rw[show((3:Int)==3)=true by rfl,ct,Ef,A9b hs.lin.2];rfl
 rw[show(f==3)=false by simpa using j,cf,if_neg j]
 by_cases k:f=4
 ·subst k;rw[show((4:Int)==4)=true by rfl,ct,Gr,i64 (by omega)];rfl
 rw[show(f==4)=false by simpa using k,cf,if_neg k]
 by_cases m:f=5
 ·subst m;rw[show((5:Int)==5)=true by rfl,ct,Gr];rfl
 rw[show(f==5)=false by simpa using m,cf,if_neg m]
 by_cases b:f=6
 ·obtain⟨a1,a2⟩:=v b
  subst b
  obtain⟨n,rfl⟩:∃ n:Nat,a=n:=⟨a.toNat,by omega⟩
  have hn:n<c.units.l.length:=by omega
  have q:=hs.seg _ (List.getElem_mem hn)
  rw[show((6:Int)==6)=true by rfl,ct,C2,Ab hn,Gx.ct,Int.toNat_natCast,At Cg _ _ hn]
  have e:∀ F:LA→Nat→O R,Br 2 (List.drop 4 (UnitD.av c.units.l[n]++(c.units.l.drop (n+1)).flatMap UnitD.av)) F=F (c.units.l[n].segs.l.flatMap SegD.av) c.units.l[n].segs.l.length:=fun F=>by
   unfold UnitD.av;exact Ed
  rw[e,A9b q.2,if_pos rfl]
  unfold Af7
  rw[Int.toNat_natCast,List.getElem?_eq_getElem hn]
 rw[show(f==6)=false by simpa using b,cf,if_neg b]
 by_cases s:f=7
 ·subst s;rfl
 rw[show(f==7)=false by simpa using s,cf,if_neg s]
 by_cases t:f=8
 ·subst t;rfl
 rw[show(f==8)=false by simpa using t,cf,if_neg t]
 by_cases u:f=9
 ·subst u;rfl
 rw[show(f==9)=false by simpa using u,cf,if_neg u]
theorem A73 {lo hi v:Int} {A B:O R}:cond ((decide (v<lo))==false) (cond (cond false true (decide (v>hi))) B A) B=cond (BV lo hi v) A B:=by
 unfold BV
 by_cases b:v<lo
 ·rw[decide_eq_true b,decide_eq_false (show ¬ lo≤v by omega)];rfl
 ·rw[decide_eq_false b,decide_eq_true (show lo≤v by omega)]
  by_cases c:v>hi
  ·rw[decide_eq_true c,decide_eq_false (show ¬ v≤hi by omega)];rfl
  ·rw[decide_eq_false c,decide_eq_true (show v≤hi by omega)];rfl
def Bcv (j:Nat) (a b v:Int):Int:=match j with | 0=>a | 1=>b | _=>v
theorem mt {N n j:Nat} {c:CaseD} {o o':Bool} {k a b v f:Int} {row:LA} {K:Bool→O R} (q:j<3) (d:∀ F:Int→O R,Ap .i64 (row.drop (2+j*1)) F=F f) (hs:Small c N) (hH:1≤c.hours∧c.hours≤24) (e:f=6→0≤a∧a<(c.units.l.length:Int)) :
  Fw N K a b v o c.av o' (Af5 k a b v) row (n+1) (j:Int)=cond (BV (zN c a f).1 (zN c a f).2 (Bcv j a b v)) (Fw N K a b v o c.av o' (Af5 k a b v) row n ((j+1:Nat):Int)) (K false):=by
 have i:=fun K=>Af8 (R:=R) (N:=N) (c:=c) (o:=o) (f:=f) (a:=a) (K:=K) hs hH e
 have m:∀ F:Int→O R,Ap .i64 (List.drop 1 (Af5 k a b v)) F=F a:=fun F=>rfl
 rw[Fw];unfold FG
 simp only[Int.toNat_natCast,d,m,B6,i]
 rcases j with _ | _ | _ | j
 ·exact A73
 ·exact A73
 ·exact A73
 ·omega
end
end Gx.Cf

namespace Gx
open Go Go.Proofs
open IntKind (wrap)
set_option maxRecDepth 100000
noncomputable section
variable {R:Type} (N:Nat)
def FH (r0:LA→Int→O R) (l:Int) (g i f:Bool) (d p:LA) (k0:Bool→Bool→LA→Nat→LA→Int→LA→O R) (q r:Bool) (m:LA) (b:Nat) (o:LA) (c:Int) (e:LA):O R :=
 (cond (decide (c<3)) (cond (Ae c 3) (Ap .i64 (o.drop ((c.toNat)*1)) fun v=>(cond (v==0) (k0 q r m b o (wrap .i64 (c+1)) e) (cond (((b:Nat):Int)==0) (r0 [(.int .i64 0),(.int .i64 0),(.int .i64 0),(.int .i64 0)] 2) (cond (Nat.ble 8 (d.length)) (Ki N (d.take 8) f v (fun w ad ae=>(cond ad (cond (Ae 0 b) (Ts m fun af=>(Cm N (ae.take (w*1)) w false true af (fun u=>(cond (Ae c 3) (cond ((Nat.beq 1 1)&&((Nat.ble ((0+((c.toNat)*1))+1) (e.length))&&(!false))) (cond (q==true) (cond (Ae c 3) (Ap .i64 ((e.set (0+((c.toNat)*1)) (.int .i64 u)).drop (0+((c.toNat)*1))) fun ag=>(cond ((decide ((0:Int)≤(1:Int)))&&((decide (1≤((b:Nat):Int)))&&((decide (((b:Nat):Int)≤((b:Nat):Int)))&&(decide (((b:Nat):Int)≤((b:Nat):Int)))))) (k0 (cond true (decide (ag≥0)) false) r ((m.drop 1).take ((b - 1)*1)) (b - 1) o (wrap .i64 (c+1)) (e.set (0+((c.toNat)*1)) (.int .i64 u))) none)) none) (cond ((decide ((0:Int)≤(1:Int)))&&((decide (1≤((b:Nat):Int)))&&((decide (((b:Nat):Int)≤((b:Nat):Int)))&&(decide (((b:Nat):Int)≤((b:Nat):Int)))))) (k0 false r ((m.drop 1).take ((b - 1)*1)) (b - 1) o (wrap .i64 (c+1)) (e.set (0+((c.toNat)*1)) (.int .i64 u))) none)) none) none)))) none) (cond (Ae 0 b) (Ts m fun ah=>(RV N ah (fun x ai y=>(cond (y != 0) (r0 [(.int .i64 0),(.int .i64 0),(.int .i64 0),(.int .i64 0)] y) (cond (Ae c 3) (cond ((Nat.beq 1 1)&&((Nat.ble ((0+((c.toNat)*1))+1) (e.length))&&(!false))) (cond (r==true) (cond ((decide ((0:Int)≤(1:Int)))&&((decide (1≤((b:Nat):Int)))&&((decide (((b:Nat):Int)≤((b:Nat):Int)))&&(decide (((b:Nat):Int)≤((b:Nat):Int)))))) (k0 q (cond true ai false) ((m.drop 1).take ((b - 1)*1)) (b - 1) o (wrap .i64 (c+1)) (e.set (0+((c.toNat)*1)) (.int .i64 x))) none) (cond ((decide ((0:Int)≤(1:Int)))&&((decide (1≤((b:Nat):Int)))&&((decide (((b:Nat):Int)≤((b:Nat):Int)))&&(decide (((b:Nat):Int)≤((b:Nat):Int)))))) (k0 q false ((m.drop 1).take ((b - 1)*1)) (b - 1) o (wrap .i64 (c+1)) (e.set (0+((c.toNat)*1)) (.int .i64 x))) none)) none) none))))) none)))) none)))) none) (cond (Ae l 8) (Ap .i64 (p.drop (0+((l.toNat)*5))) fun z=>(Ap .i64 e fun aa=>(Ap .i64 (e.drop 1) fun ab=>(Ap .i64 (e.drop 2) fun ac=>(cond (decide (((b:Nat):Int)>0)) (r0 [(.int .i64 0),(.int .i64 0),(.int .i64 0),(.int .i64 0)] 2) (cond (!q) (r0 [(.int .i64 0),(.int .i64 0),(.int .i64 0),(.int .i64 0)] 12) (cond ((!r)==false) (cond (Nat.ble 8 (d.length)) (Qq N (d.take 8) f [(.int .i64 z),(.int .i64 aa),(.int .i64 ab),(.int .i64 ac)] false (fun aj=>(cond (cond false true (!aj)) (r0 [(.int .i64 0),(.int .i64 0),(.int .i64 0),(.int .i64 0)] 3) (r0 [(.int .i64 z),(.int .i64 aa),(.int .i64 ab),(.int .i64 ac)] 0)))) none) (r0 [(.int .i64 0),(.int .i64 0),(.int .i64 0),(.int .i64 0)] 3)))))))) none))
def Kk (r0:LA→Int→O R) (l:Int) (g i f:Bool) (d p:LA):Nat→Bool→Bool→LA→Nat→LA→Int→LA→O R
 | 0,_,_,_,_,_,_,_=>none
 | n+1,q,r,m,b,o,c,e=>(FH N r0 l g i f d p (Kk r0 l g i f d p n) q r m b o c e)
def iA (r0:LA→Int→O R) (q0:Int→LA→Bool→Bool→LA→Nat→LA→Int→LA→O R) (d:LA) (f:Bool) (t:LA) (s:Nat) (g i:Bool):O R :=
 (RS N (fun p=>(Bm N 8 p t s g i (fun l=>(cond (decide (l<0)) (r0 [(.int .i64 0),(.int .i64 0),(.int .i64 0),(.int .i64 0)] 2) (cond ((decide ((0:Int)≤(1:Int)))&&((decide (1≤((s:Nat):Int)))&&((decide (((s:Nat):Int)≤((s:Nat):Int)))&&(decide (((s:Nat):Int)≤((s:Nat):Int)))))) (cond (Ae l 8) (cond (Nat.ble 3 ((p.drop ((0+((l.toNat)*5))+2)).length)) (q0 l p true true ((t.drop 1).take ((s - 1)*1)) (s - 1) ((p.drop ((0+((l.toNat)*5))+2)).take 3) 0 [(.int .i64 0),(.int .i64 0),(.int .i64 0)]) none) none) none))))))
def RW:=(Ag (fun (N:Nat) (d:LA) (f:Bool) (t:LA) (s:Nat) (g i:Bool) (r0:LA→Int→O R)=>(iA N r0 (fun l p q r m b o c e=>(Kk N r0 l g i f d p N q r m b o c e)) d f t s g i))).1
theorem rK (d f t s g i r0):(@RW R N d f t s g i r0)=(iA N r0 (fun l p q r m b o c e=>(Kk N r0 l g i f d p N q r m b o c e)) d f t s g i):=by rw[RW,(Ag _).2]
def x8:Hints:={ H:=(hS hL (hS hL (hS hL (hS hL (hS hL (hS hL (hS hL (hS (hS hL (hS (hP [2,4,6,7,8,9,10,11,33,34] hL) hL)) hL)))))))),modes:=[(3,0),(0,0)] }
def Af9:F2:=[(183,xP N),(184,R3 N),(115,xU N),(186,Ys N),(187,Aql N),(109,fV N)]
def Aw8 (F:KF R):=Ju Tryz.f107 x8 (Af9 N) [] N F
def BW (F:KF R):LA→Int→O R:=(fun ak al=>F (.tup [(.pagg ak false),(iv al)]) [])
def Aw9 (l:Int) (g i f:Bool) (d p:LA) (q r:Bool) (m:LA) (b:Nat) (o:LA) (c:Int) (e:LA):St:=⟨[(2,(op 0)),(4,(op 1)),(6,(.own 300002 0 8)),(7,(iv l)),(8,(op 3)),(9,(.bool q)),(10,(.bool r)),(11,(.imm m b 1 g i)),(33,(.pagg o false)),(34,(iv c))],(hq [(bP f 0 d),(bQ 0 [(iv 0),(iv 0),(iv 0),(iv 0)]),(bQ 5 p),(bQ 0 e)])⟩
def Axa (F:KF R):=Aw8 N F [1,1,1,1,1,1,1,0,1,0] []
theorem fX (F:KF R) (l:Int) (g i f:Bool) (d p:LA):∀ (n:Nat) (q r:Bool) (m:LA) (b:Nat) (o:LA) (c:Int) (e:LA),Ak (Axa N F) n (Aw9 l g i f d p q r m b o c e)=(Kk N (BW F) l g i f d p n q r m b o c e)
 | 0,_,_,_,_,_,_,_=>by kernel_rfl
 | n+1,q,r,m,b,o,c,e=>Eq.trans (by kernel_rfl) (Bt (FH N (BW F) l g i f d p · q r m b o c e) (funext fun q=>funext fun r=>funext fun m=>funext fun b=>funext fun o=>funext fun c=>funext fun e=>(fX F l g i f d p n q r m b o c e)):_)
theorem x9 (d:LA) (f:Bool) (t:LA) (s:Nat) (g i:Bool) (F:KF R):Cw (Af9 N) x8 N 107 [(.pagg d f),(.imm t s 1 g i)] [] F=(RW N d f t s g i (BW F)):=by
 rw[rK]
 exact Eq.trans (by kernel_rfl) (Bt (iA N (BW F) · d f t s g i) (funext fun l=>funext fun p=>funext fun q=>funext fun r=>funext fun m=>funext fun b=>funext fun o=>funext fun c=>funext fun e=>(Ad ..).trans (fX N F l g i f d p N q r m b o c e)):_)
def rL (a:LA) (h:Aj) (k:KF R):O R :=
 match a,h with
 | [(.pagg d f),(.imm t s 1 g i)],[]=>(RW N d f t s g i (BW k))
 | _,_=>none
theorem x_:An N 107 @rL:=by
 intro R Q a h k j;unfold rL;split;exact A2 (x9 ..) (x9 ..) ⟨xQ N,R4 N,xV N,Yt N,Aqm N,fW N,trivial⟩;exact A4
def Axb:=A3 (x_ N)
def Axc:=Cz (x_ N)
def U1 (N:Nat) (k0:List UInt8→Nat→Int→Bool→LA→O R) (r0:Nat→Int→Int→LA→O R) (l:List UInt8) (d:Int) (m c:Bool) (b:LA) (o:Nat) (q:Int) (s p:LA):O R :=
 (cond (q != 0) (r0 0 d q []) (cond (Nat.ble 4 (p.length)) (cond ((Nat.beq ((p.take 4).length) 4)&&(Nat.ble 4 4)) (cond ((Nat.ble (o+1) 140737488355328)&&(Nat.ble ((o+1)*32) 140737488355328)) (k0 l (o+1) (wrap .i64 (d+1)) m ((s.take (o*4))++((setCells [(.int .i64 0),(.int .i64 0),(.int .i64 0),(.int .i64 0)] 0 (p.take 4)).take 4))) none) none) none))
def FI (r0:Nat→Int→Int→LA→O R) (c:Bool) (b:LA) (k0:List UInt8→Nat→Int→Bool→LA→O R) (q1:List UInt8→Bool→Nat→Int→LA→LA→O R) (g:List UInt8) (e:Nat) (d:Int) (i:Bool) (f:LA):O R :=
 (cond i (strings_Cut N g ([10]:List UInt8) (fun x l m=>(fP N x (fun u y=>(cond (((u:Nat):Int)==0) (k0 l e (wrap .i64 (d+1)) m f) (cond (Nat.ble 8 (b.length)) (RW N (b.take 8) c (y.take (u*1)) u false true (fun t v=>(cond ((Nat.beq (t.length) 4)&&((Nat.ble 4 4)&&(!false))) (cond ((v==0)==true) (cond (cond true (((e:Nat):Int)==256) false) (q1 l m e 8 f (setCells [(.int .i64 0),(.int .i64 0),(.int .i64 0),(.int .i64 0)] 0 t)) (q1 l m e v f (setCells [(.int .i64 0),(.int .i64 0),(.int .i64 0),(.int .i64 0)] 0 t))) (q1 l m e v f (setCells [(.int .i64 0),(.int .i64 0),(.int .i64 0),(.int .i64 0)] 0 t))) none))) none)))))) (r0 e 0 0 f))
def Mm (r0:Nat→Int→Int→LA→O R) (c:Bool) (b:LA):Nat→List UInt8→Nat→Int→Bool→LA→O R
 | 0,_,_,_,_,_=>none
 | n+1,g,e,d,i,f=>(FI N r0 c b (Mm r0 c b n) (fun l m o q s p=>(U1 N (Mm r0 c b n) r0 l d m c b o q s p)) g e d i f)
def iB (r0:Nat→Int→Int→LA→O R) (q0:List UInt8→Nat→Int→Bool→LA→O R) (b:LA) (c:Bool) (r:List UInt8):O R :=
 (cond (Nat.ble 8 (b.length)) (BR N (b.take 8) c (fun z w=>(cond ((Nat.beq (z.length) 3)&&((Nat.ble 3 3)&&(!false))) (cond (w != 0) (r0 0 0 w []) (cond (decide ((((r.length):Nat):Int)>1048576)) (r0 0 0 8 []) (q0 r 0 1 true []))) none))) none)
def Qr:=(Ag (fun (N:Nat) (b:LA) (c:Bool) (r:List UInt8) (r0:Nat→Int→Int→LA→O R)=>(iB N r0 (fun g e d i f=>(Mm N r0 c b N g e d i f)) b c r))).1
theorem rM (b c r r0):(@Qr R N b c r r0)=(iB N r0 (fun g e d i f=>(Mm N r0 c b N g e d i f)) b c r):=by rw[Qr,(Ag _).2]
def xa:Hints:={ H:=(hS hL (hS hL (hS hL (hS hL (hS (hS hL (hS (hP [1,2,9,10,11] (hS hL (hS (hS (hS hL (hS hL (hS hL (hS hL (hS hL (hJ [1,2,9,10,11,14,15] hL hL)))))) hL) hL))) hL)) hL))))),nils:=[(4,4),(9,4)],modes:=[(2,4),(0,0),(0,0)] }
def Aga:F2:=[(104,fI N),(105,G' N),(106,Awu N),(107,Axb N)]
def xb (F:KF R):=Ju Tryz.f44 xa (Aga N) [] N F
def Qs (F:KF R):Nat→Int→Int→LA→O R:=(fun aa ab ac ad=>F (.tup [(.own 300000 0 aa),(iv ab),(iv ac)]) (hq [(bQ 4 ad)]))
def Axd (l:List UInt8) (d:Int) (m c:Bool) (b:LA) (o:Nat) (q:Int) (s p:LA):St:=⟨[(1,(.str l)),(2,(op 0)),(9,(.own 300001 0 o)),(10,(iv d)),(11,(.bool m)),(14,(op 2)),(15,(iv q))],(hq [(bP c 0 b),(bQ 4 s),(bQ 0 p)])⟩
def Axe (F:KF R) (Q0:St→O R):=xb N F [1,1,1,1,0,1,0,0,1,0,0,1,1,1,1,1,1] [Q0]
def xc (c:Bool) (b:LA) (g:List UInt8) (e:Nat) (d:Int) (i:Bool) (f:LA):St:=⟨[(1,(.str g)),(2,(op 0)),(9,(.own 300001 0 e)),(10,(iv d)),(11,(.bool i))],(hq [(bP c 0 b),(bQ 4 f)])⟩
def xd (F:KF R):=xb N F [1,1,1,1,0,1,0] []
theorem Agb (Q0:St→O R) (F:KF R) (l:List UInt8) (d:Int) (m c:Bool) (b:LA):∀ (o:Nat) (q:Int) (s p:LA),B5 (Axe N F Q0) (Axd l d m c b o q s p)=(U1 N (fun g e d i f=>Q0 (xc c b g e d i f)) (Qs F) l d m c b o q s p):=by
 intro o q s p
 kernel_rfl
theorem fY (F:KF R) (c:Bool) (b:LA):∀ (n:Nat) (g:List UInt8) (e:Nat) (d:Int) (i:Bool) (f:LA),Ak (xd N F) n (xc c b g e d i f)=(Mm N (Qs F) c b n g e d i f)
 | 0,_,_,_,_,_=>by kernel_rfl
 | n+1,g,e,d,i,f=>have e0:=(funext fun g=>funext fun e=>funext fun d=>funext fun i=>funext fun f=>(fY F c b n g e d i f))
  Eq.trans (by kernel_rfl) (OQ (FI N (Qs F) c b · · g e d i f) e0 (funext fun l=>funext fun m=>funext fun o=>funext fun q=>funext fun s=>funext fun p=>(A1 ..).trans ((Agb N (Ak (xd N F) n) F l d m c b o q s p).trans (Bt (U1 N · (Qs F) l d m c b o q s p) e0))):_)
theorem xe (b:LA) (c:Bool) (r:List UInt8) (F:KF R):Cw (Aga N) xa N 44 [(.pagg b c),(.str r)] [] F=(Qr N b c r (Qs F)):=by
 rw[rM]
 exact Eq.trans (by kernel_rfl) (Bt (iB N (Qs F) · b c r) (funext fun g=>funext fun e=>funext fun d=>funext fun i=>funext fun f=>(Ad ..).trans (fY N F c b N g e d i f)):_)
def rN (a:LA) (h:Aj) (k:KF R):O R :=
 match a,h with
 | [(.pagg b c),(.str r)],[]=>(Qr N b c r (Qs k))
 | _,_=>none
theorem xg:An N 44 @rN:=by
 intro R Q a h k j;unfold rN;split;exact A2 (xe ..) (xe ..) ⟨fJ N,cZ N,Awv N,Axc N,trivial⟩;exact A4
def Axf:=A3 (xg N)
def Axg:=Cz (xg N)
def Zw (r0:Nat→LA→O R) (b:Int) (k0:Nat→Int→LA→O R) (d:Nat) (c:Int) (e:LA):O R :=
 (cond (decide (c<b)) (Z5 N (fun f=>(cond (Ae c d) (cond ((Nat.beq (f.length) 3)&&((Nat.ble ((0+((c.toNat)*3))+3) (e.length))&&(!false))) (k0 d (wrap .i64 (c+1)) (setCells e (0+((c.toNat)*3)) f)) none) none))) (r0 d e))
def Kl (r0:Nat→LA→O R) (b:Int):Nat→Nat→Int→LA→O R
 | 0,_,_,_=>none
 | n+1,d,c,e=>(Zw N r0 b (Kl r0 b n) d c e)
def VI (N:Nat) (r0:Nat→LA→O R) (q0:Nat→Int→LA→O R) (b:Int):O R :=
 (cond ((decide (0≤b))&&((decide (b≤b))&&((decide (b≤140737488355328))&&(decide ((b*((56:Nat):Int))≤140737488355328))))) (q0 (b.toNat) 0 (List.flatten (List.replicate (b.toNat) ([(.bool false),.nsl,.nsl]:LA)))) none)
def Fr:=(Ag (fun (N:Nat) (b:Int) (r0:Nat→LA→O R)=>(VI N r0 (fun d c e=>(Kl N r0 b N d c e)) b))).1
theorem lI (b r0):(@Fr R N b r0)=(VI N r0 (fun d c e=>(Kl N r0 b N d c e)) b):=by rw[Fr,(Ag _).2]
def rO:Hints:={ H:=(hS hL (hS hL (hS (hS hL (hS (hP [0,3,4] hL) hL)) hL))),nils:=[(2,3)],modes:=[(2,3)] }
def xh:F2:=[(151,cK N)]
def Aqs (F:KF R):=Ju Tryz.f255 rO (xh N) [] N F
def Wn (F:KF R):Nat→LA→O R:=(fun g i=>F (.own 300000 0 g) (hq [(bQ 3 i)]))
def Aqt (b:Int) (d:Nat) (c:Int) (e:LA):St:=⟨[(0,(iv b)),(3,(.own 300000 0 d)),(4,(iv c))],(hq [(bQ 3 e)])⟩
def Aqu (F:KF R):=Aqs N F [1,1,0,1,0] []
theorem aA (F:KF R) (b:Int):∀ (n d:Nat) (c:Int) (e:LA),Ak (Aqu N F) n (Aqt b d c e)=(Kl N (Wn F) b n d c e)
 | 0,_,_,_=>by kernel_rfl
 | n+1,d,c,e=>Eq.trans (by kernel_rfl) (Bt (Zw N (Wn F) b · d c e) (funext fun d=>funext fun c=>funext fun e=>(aA F b n d c e)):_)
theorem rP (b:Int) (F:KF R):Cw (xh N) rO N 255 [(iv b)] [] F=(Fr N b (Wn F)):=by
 rw[lI]
 exact Eq.trans (by kernel_rfl) (Bt (VI N (Wn F) · b) (funext fun d=>funext fun c=>funext fun e=>(Ad ..).trans (aA N F b N d c e)):_)
def lJ (a:LA) (h:Aj) (k:KF R):O R :=
 match a,h with
 | [(.int .i64 b)],[]=>(Fr N b (Wn k))
 | _,_=>none
theorem rQ:An N 255 @lJ:=by
 intro R Q a h k j;unfold lJ;split;exact A2 (rP ..) (rP ..) ⟨cL N,trivial⟩;exact A4
def Aqv:=A3 (rQ N)
def Aqw:=Cz (rQ N)
def NV (r0:Nat→Nat→Nat→Nat→Nat→Nat→Nat→LA→LA→LA→LA→LA→LA→LA→LA→O R) (c:Bool) (b:LA) (d f g i p r:Nat) (e l m o q s:LA) (k4:Int→Nat→LA→O R) (v:Int) (t:Nat) (w:LA):O R :=
 (Br 12 (b.drop 3) fun bv aj=>(cond (decide (v<((aj:Nat):Int))) (Ap .i64 b fun ak=>(Fr N ak (fun ab al=>(cond ((Nat.ble (t+1) 140737488355328)&&(Nat.ble ((t+1)*24) 140737488355328)) (k4 (wrap .i64 (v+1)) (t+1) ((w.take (t*1))++[(.imm (al.take (ab*3)) ab 3 false false)])) none)))) (r0 d f g i p r t e l m o q s w [])))
def Wo (r0:Nat→Nat→Nat→Nat→Nat→Nat→Nat→LA→LA→LA→LA→LA→LA→LA→LA→O R) (c:Bool) (b:LA) (d f g i p r:Nat) (e l m o q s:LA):Nat→Int→Nat→LA→O R
 | 0,_,_,_=>none
 | n+1,v,t,w=>(NV N r0 c b d f g i p r e l m o q s (Wo r0 c b d f g i p r e l m o q s n) v t w)
def Zx (r0:Nat→Nat→Nat→Nat→Nat→Nat→Nat→LA→LA→LA→LA→LA→LA→LA→LA→O R) (c:Bool) (b:LA) (d f g i p:Nat) (e l m o q:LA) (k3:Int→Nat→LA→O R) (q4:Int→Nat→LA→O R) (x:Int) (r:Nat) (s:LA):O R :=
 (Br 3 (b.drop 2) fun bw am=>(cond (decide (x<((am:Nat):Int))) (Ap .i64 b fun an=>(Fr N an (fun ac ao=>(cond ((Nat.ble (r+1) 140737488355328)&&(Nat.ble ((r+1)*24) 140737488355328)) (k3 (wrap .i64 (x+1)) (r+1) ((s.take (r*1))++[(.imm (ao.take (ac*3)) ac 3 false false)])) none)))) (q4 0 0 [])))
def Np (r0:Nat→Nat→Nat→Nat→Nat→Nat→Nat→LA→LA→LA→LA→LA→LA→LA→LA→O R) (c:Bool) (b:LA) (d f g i p:Nat) (e l m o q:LA):Nat→Int→Nat→LA→O R
 | 0,_,_,_=>none
 | n+1,x,r,s=>(Zx N r0 c b d f g i p e l m o q (Np r0 c b d f g i p e l m o q n) (fun v t w=>(Wo N r0 c b d f g i p r e l m o q s N v t w)) x r s)
def NW (r0:Nat→Nat→Nat→Nat→Nat→Nat→Nat→LA→LA→LA→LA→LA→LA→LA→LA→O R) (c:Bool) (b:LA) (d f g i:Nat) (e l m o:LA) (k2:Int→Nat→LA→O R) (q3:Int→Nat→LA→O R) (y:Int) (p:Nat) (q:LA):O R :=
 (Br 5 (b.drop 6) fun bx ap=>(cond (decide (y<((ap:Nat):Int))) (Ap .i64 b fun aq=>(Fr N aq (fun ad ar=>(cond ((Nat.ble (p+1) 140737488355328)&&(Nat.ble ((p+1)*24) 140737488355328)) (k2 (wrap .i64 (y+1)) (p+1) ((q.take (p*1))++[(.imm (ar.take (ad*3)) ad 3 false false)])) none)))) (q3 0 0 [])))
def Wp (r0:Nat→Nat→Nat→Nat→Nat→Nat→Nat→LA→LA→LA→LA→LA→LA→LA→LA→O R) (c:Bool) (b:LA) (d f g i:Nat) (e l m o:LA):Nat→Int→Nat→LA→O R
 | 0,_,_,_=>none
 | n+1,y,p,q=>(NW N r0 c b d f g i e l m o (Wp r0 c b d f g i e l m o n) (fun x r s=>(Np N r0 c b d f g i p e l m o q N x r s)) y p q)
def NX (r0:Nat→Nat→Nat→Nat→Nat→Nat→Nat→LA→LA→LA→LA→LA→LA→LA→LA→O R) (c:Bool) (b:LA) (d:Nat) (e:LA) (k1:Int→Nat→Nat→Nat→LA→LA→LA→O R) (q2:Int→Nat→LA→O R) (z:Int) (f g i:Nat) (l m o:LA):O R :=
 (Br 9 (b.drop 5) fun bz au=>(cond (decide (z<((au:Nat):Int))) (Ap .i64 b fun av=>(Fr N av (fun ae aw=>(cond ((Nat.ble (f+1) 140737488355328)&&(Nat.ble ((f+1)*24) 140737488355328)) (Ap .i64 b fun ax=>(Fr N ax (fun af ay=>(cond ((Nat.ble (g+1) 140737488355328)&&(Nat.ble ((g+1)*24) 140737488355328)) (Ap .i64 b fun az=>(Fr N az (fun ag ba=>(cond ((Nat.ble (i+1) 140737488355328)&&(Nat.ble ((i+1)*24) 140737488355328)) (k1 (wrap .i64 (z+1)) (f+1) (g+1) (i+1) ((l.take (f*1))++[(.imm (aw.take (ae*3)) ae 3 false false)]) ((m.take (g*1))++[(.imm (ay.take (af*3)) af 3 false false)]) ((o.take (i*1))++[(.imm (ba.take (ag*3)) ag 3 false false)])) none)))) none)))) none)))) (q2 0 0 [])))
def Wq (r0:Nat→Nat→Nat→Nat→Nat→Nat→Nat→LA→LA→LA→LA→LA→LA→LA→LA→O R) (c:Bool) (b:LA) (d:Nat) (e:LA):Nat→Int→Nat→Nat→Nat→LA→LA→LA→O R
 | 0,_,_,_,_,_,_,_=>none
 | n+1,z,f,g,i,l,m,o=>(NX N r0 c b d e (Wq r0 c b d e n) (fun y p q=>(Wp N r0 c b d f g i e l m o N y p q)) z f g i l m o)
def Zy (r0:Nat→Nat→Nat→Nat→Nat→Nat→Nat→LA→LA→LA→LA→LA→LA→LA→LA→O R) (c:Bool) (b:LA) (k0:Int→Nat→LA→O R) (q1:Int→Nat→Nat→Nat→LA→LA→LA→O R) (u:Int) (d:Nat) (e:LA):O R :=
 (Br 22 (b.drop 4) fun ca bb=>(cond (decide (u<((bb:Nat):Int))) (Ap .i64 b fun aa=>(cond ((decide (0≤aa))&&((decide (aa≤aa))&&((decide (aa≤140737488355328))&&(decide ((aa*((8:Nat):Int))≤140737488355328))))) (Ap .i64 b fun bc=>(Fr N bc (fun ah bd=>(Ap .i64 b fun be=>(Fr N be (fun ai bf=>(cond ((Nat.ble (d+1) 140737488355328)&&(Nat.ble ((d+1)*72) 140737488355328)) (k0 (wrap .i64 (u+1)) (d+1) ((e.take (d*3))++[(.imm (List.take ((aa.toNat)*1) (List.replicate (aa.toNat) (.int .i64 0))) (aa.toNat) 1 false false),(.imm (bd.take (ah*3)) ah 3 false false),(.imm (bf.take (ai*3)) ai 3 false false)])) none))))))) none)) (q1 0 0 0 0 [] [] [])))
def Km (r0:Nat→Nat→Nat→Nat→Nat→Nat→Nat→LA→LA→LA→LA→LA→LA→LA→LA→O R) (c:Bool) (b:LA):Nat→Int→Nat→LA→O R
 | 0,_,_,_=>none
 | n+1,u,d,e=>(Zy N r0 c b (Km r0 c b n) (fun z f g i l m o=>(Wq N r0 c b d e N z f g i l m o)) u d e)
def VJ (N:Nat) (r0:Nat→Nat→Nat→Nat→Nat→Nat→Nat→LA→LA→LA→LA→LA→LA→LA→LA→O R) (q0:Int→Nat→LA→O R) (b:LA) (c:Bool):O R :=
 (q0 0 0 [])
def FZ:=(Ag (fun (N:Nat) (b:LA) (c:Bool) (r0:Nat→Nat→Nat→Nat→Nat→Nat→Nat→LA→LA→LA→LA→LA→LA→LA→LA→O R)=>(VJ N r0 (fun u d e=>(Km N r0 c b N u d e)) b c))).1
theorem lK (b c r0):(@FZ R N b c r0)=(VJ N r0 (fun u d e=>(Km N r0 c b N u d e)) b c):=by rw[FZ,(Ag _).2]
def rR:Hints:={ H:=(hS hL (hS hL (hS (hS hL (hS (hP [1,2,3,4] hL) hL)) (hS (hS hL (hS (hP [1,2,3,5] hL) hL)) (hS (hS hL (hS (hP [1,2,3,6] hL) hL)) (hS (hS hL (hS (hP [1,2,3,7] hL) hL)) (hS (hS hL (hS (hP [1,2,3,8] hL) hL)) hL))))))),cob:=[27,1000002,1000003] }
def xi:F2:=[(255,Aqv N)]
def Wr (F:KF R):=Ju Tryz.f188 rR (xi N) [] N F
def D5 (F:KF R):Nat→Nat→Nat→Nat→Nat→Nat→Nat→LA→LA→LA→LA→LA→LA→LA→LA→O R:=(fun bg bh bi bj bk bl bm bn bo bp bq br bs bt bu=>F (.agg [(.own 300000 0 bg),(.own 300001 0 bh),(.own 300002 0 bi),(.own 300003 0 bj),(.own 300004 0 bk),(.own 300005 0 bl),(.own 300006 0 bm),(.own 300007 0 0)]) (hq [(bQ 3 bn),(bQ 1 bo),(bQ 1 bp),(bQ 1 bq),(bQ 1 br),(bQ 1 bs),(bQ 1 bt),(bQ 4 bu)]))
def Aqx (c:Bool) (b:LA) (d f g i p r:Nat) (e l m o q s:LA) (v:Int) (t:Nat) (w:LA):St:=⟨[(1,(op 0)),(2,(op 1)),(3,(op 2)),(8,(iv v))],(hq [(bP c 0 b),(bN 0 [(.own 300003 0 0),(.own 300004 0 0),(.own 300005 0 0),(.own 300006 0 0),(.own 300007 0 0),(.own 300008 0 0),(.own 300009 0 0),(.own 300010 0 0)]),(bN 0 [(.own 300011 0 d),(.own 300012 0 f),(.own 300013 0 g),(.own 300014 0 i),(.own 300015 0 p),(.own 300016 0 r),(.own 300017 0 t),(.own 300018 0 0)]),(bQ 3 []),(bQ 1 []),(bQ 1 []),(bQ 1 []),(bQ 1 []),(bQ 1 []),(bQ 1 []),(bQ 4 []),(bQ 3 e),(bQ 1 l),(bQ 1 m),(bQ 1 o),(bQ 1 q),(bQ 1 s),(bQ 1 w),(bQ 4 [])])⟩
def Aqy (F:KF R):=Wr N F [1,1,1,1,1,1,0,1,0] []
def Aqz (c:Bool) (b:LA) (d f g i p:Nat) (e l m o q:LA) (x:Int) (r:Nat) (s:LA):St:=⟨[(1,(op 0)),(2,(op 1)),(3,(op 2)),(7,(iv x))],(hq [(bP c 0 b),(bN 0 [(.own 300003 0 0),(.own 300004 0 0),(.own 300005 0 0),(.own 300006 0 0),(.own 300007 0 0),(.own 300008 0 0),(.own 300009 0 0),(.own 300010 0 0)]),(bN 0 [(.own 300011 0 d),(.own 300012 0 f),(.own 300013 0 g),(.own 300014 0 i),(.own 300015 0 p),(.own 300016 0 r),(.own 300017 0 0),(.own 300018 0 0)]),(bQ 3 []),(bQ 1 []),(bQ 1 []),(bQ 1 []),(bQ 1 []),(bQ 1 []),(bQ 1 []),(bQ 4 []),(bQ 3 e),(bQ 1 l),(bQ 1 m),(bQ 1 o),(bQ 1 q),(bQ 1 s),(bQ 1 []),(bQ 4 [])])⟩
def Aq0 (F:KF R):=Wr N F [1,1,1,1,1,0,1,0] []
def Aq1 (c:Bool) (b:LA) (d f g i:Nat) (e l m o:LA) (y:Int) (p:Nat) (q:LA):St:=⟨[(1,(op 0)),(2,(op 1)),(3,(op 2)),(6,(iv y))],(hq [(bP c 0 b),(bN 0 [(.own 300003 0 0),(.own 300004 0 0),(.own 300005 0 0),(.own 300006 0 0),(.own 300007 0 0),(.own 300008 0 0),(.own 300009 0 0),(.own 300010 0 0)]),(bN 0 [(.own 300011 0 d),(.own 300012 0 f),(.own 300013 0 g),(.own 300014 0 i),(.own 300015 0 p),(.own 300016 0 0),(.own 300017 0 0),(.own 300018 0 0)]),(bQ 3 []),(bQ 1 []),(bQ 1 []),(bQ 1 []),(bQ 1 []),(bQ 1 []),(bQ 1 []),(bQ 4 []),(bQ 3 e),(bQ 1 l),(bQ 1 m),(bQ 1 o),(bQ 1 q),(bQ 1 []),(bQ 1 []),(bQ 4 [])])⟩
def Aq2 (F:KF R):=Wr N F [1,1,1,1,0,1,0] []
def Aq3 (c:Bool) (b:LA) (d:Nat) (e:LA) (z:Int) (f g i:Nat) (l m o:LA):St:=⟨[(1,(op 0)),(2,(op 1)),(3,(op 2)),(5,(iv z))],(hq [(bP c 0 b),(bN 0 [(.own 300003 0 0),(.own 300004 0 0),(.own 300005 0 0),(.own 300006 0 0),(.own 300007 0 0),(.own 300008 0 0),(.own 300009 0 0),(.own 300010 0 0)]),(bN 0 [(.own 300011 0 d),(.own 300012 0 f),(.own 300013 0 g),(.own 300014 0 i),(.own 300015 0 0),(.own 300016 0 0),(.own 300017 0 0),(.own 300018 0 0)]),(bQ 3 []),(bQ 1 []),(bQ 1 []),(bQ 1 []),(bQ 1 []),(bQ 1 []),(bQ 1 []),(bQ 4 []),(bQ 3 e),(bQ 1 l),(bQ 1 m),(bQ 1 o),(bQ 1 []),(bQ 1 []),(bQ 1 []),(bQ 4 [])])⟩
def Aq4 (F:KF R):=Wr N F [1,1,1,0,1,0] []
def Aq5 (c:Bool) (b:LA) (u:Int) (d:Nat) (e:LA):St:=⟨[(1,(op 0)),(2,(op 1)),(3,(op 2)),(4,(iv u))],(hq [(bP c 0 b),(bN 0 [(.own 300003 0 0),(.own 300004 0 0),(.own 300005 0 0),(.own 300006 0 0),(.own 300007 0 0),(.own 300008 0 0),(.own 300009 0 0),(.own 300010 0 0)]),(bN 0 [(.own 300011 0 d),(.own 300012 0 0),(.own 300013 0 0),(.own 300014 0 0),(.own 300015 0 0),(.own 300016 0 0),(.own 300017 0 0),(.own 300018 0 0)]),(bQ 3 []),(bQ 1 []),(bQ 1 []),(bQ 1 []),(bQ 1 []),(bQ 1 []),(bQ 1 []),(bQ 4 []),(bQ 3 e),(bQ 1 []),(bQ 1 []),(bQ 1 []),(bQ 1 []),(bQ 1 []),(bQ 1 []),(bQ 4 [])])⟩
def Aq6 (F:KF R):=Wr N F [1,1,0,1,0] []
theorem aB (F:KF R) (c:Bool) (b:LA) (d f g i p r:Nat) (e l m o q s:LA):∀ (n:Nat) (v:Int) (t:Nat) (w:LA),Ak (Aqy N F) n (Aqx c b d f g i p r e l m o q s v t w)=(Wo N (D5 F) c b d f g i p r e l m o q s n v t w)
 | 0,_,_,_=>by kernel_rfl
 | n+1,v,t,w=>Eq.trans (by kernel_rfl) (Bt (NV N (D5 F) c b d f g i p r e l m o q s · v t w) (funext fun v=>funext fun t=>funext fun w=>(aB F c b d f g i p r e l m o q s n v t w)):_)
theorem aC (F:KF R) (c:Bool) (b:LA) (d f g i p:Nat) (e l m o q:LA):∀ (n:Nat) (x:Int) (r:Nat) (s:LA),Ak (Aq0 N F) n (Aqz c b d f g i p e l m o q x r s)=(Np N (D5 F) c b d f g i p e l m o q n x r s)
 | 0,_,_,_=>by kernel_rfl
 | n+1,x,r,s=>Eq.trans (by kernel_rfl) (OQ (Zx N (D5 F) c b d f g i p e l m o q · · x r s) (funext fun x=>funext fun r=>funext fun s=>(aC F c b d f g i p e l m o q n x r s)) (funext fun v=>funext fun t=>funext fun w=>(Ad ..).trans (aB N F c b d f g i p r e l m o q s N v t w)):_)
theorem aD (F:KF R) (c:Bool) (b:LA) (d f g i:Nat) (e l m o:LA):∀ (n:Nat) (y:Int) (p:Nat) (q:LA),Ak (Aq2 N F) n (Aq1 c b d f g i e l m o y p q)=(Wp N (D5 F) c b d f g i e l m o n y p q)
 | 0,_,_,_=>by kernel_rfl
 | n+1,y,p,q=>Eq.trans (by kernel_rfl) (OQ (NW N (D5 F) c b d f g i e l m o · · y p q) (funext fun y=>funext fun p=>funext fun q=>(aD F c b d f g i e l m o n y p q)) (funext fun x=>funext fun r=>funext fun s=>(Ad ..).trans (aC N F c b d f g i p e l m o q N x r s)):_)
theorem aE (F:KF R) (c:Bool) (b:LA) (d:Nat) (e:LA):∀ (n:Nat) (z:Int) (f g i:Nat) (l m o:LA),Ak (Aq4 N F) n (Aq3 c b d e z f g i l m o)=(Wq N (D5 F) c b d e n z f g i l m o)
 | 0,_,_,_,_,_,_,_=>by kernel_rfl
 | n+1,z,f,g,i,l,m,o=>Eq.trans (by kernel_rfl) (OQ (NX N (D5 F) c b d e · · z f g i l m o) (funext fun z=>funext fun f=>funext fun g=>funext fun i=>funext fun l=>funext fun m=>funext fun o=>(aE F c b d e n z f g i l m o)) (funext fun y=>funext fun p=>funext fun q=>(Ad ..).trans (aD N F c b d f g i e l m o N y p q)):_)
theorem aF (F:KF R) (c:Bool) (b:LA):∀ (n:Nat) (u:Int) (d:Nat) (e:LA),Ak (Aq6 N F) n (Aq5 c b u d e)=(Km N (D5 F) c b n u d e)
 | 0,_,_,_=>by kernel_rfl
 | n+1,u,d,e=>Eq.trans (by kernel_rfl) (OQ (Zy N (D5 F) c b · · u d e) (funext fun u=>funext fun d=>funext fun e=>(aF F c b n u d e)) (funext fun z=>funext fun f=>funext fun g=>funext fun i=>funext fun l=>funext fun m=>funext fun o=>(Ad ..).trans (aE N F c b d e N z f g i l m o)):_)
theorem rS (b:LA) (c:Bool) (F:KF R):Cw (xi N) rR N 188 [(.pagg b c)] [] F=(FZ N b c (D5 F)):=by
 rw[lK]
 exact Eq.trans (by kernel_rfl) (Bt (VJ N (D5 F) · b c) (funext fun u=>funext fun d=>funext fun e=>(Ad ..).trans (aF N F c b N u d e)):_)
def lL (a:LA) (h:Aj) (k:KF R):O R :=
 match a,h with
 | [(.pagg b c)],[]=>(FZ N b c (D5 k))
 | _,_=>none
theorem rT:An N 188 @lL:=by
 intro R Q a h k j;unfold lL;split;exact A2 (rS ..) (rS ..) ⟨Aqw N,trivial⟩;exact A4
def Aq7:=A3 (rT N)
def Aq8:=Cz (rT N)
def fZ (r0:LA→LA→O R):O R :=
 (FZ N [(.int .i64 1),(.imm [(.int .i64 0)] 1 1 false true),(.imm [(.str ([97]:List UInt8)),(.imm [(.int .i64 15)] 1 1 false false),(.int .i64 0)] 1 3 false true),.nsl,(.imm [(.str ([103]:List UInt8)),(.int .i64 0),(.int .i64 10),(.int .i64 20),(.imm [(.int .i64 10),(.int .i64 2)] 1 2 false false),(.int .i64 7),(.int .i64 20),(.int .i64 20),(.int .i64 20),(.int .i64 20),(.int .i64 1),(.int .i64 1),(.int .i64 0),(.int .i64 0),(.int .i64 0),(.int .i64 1),(.int .i64 0),(.int .i64 0),.nsl,(.int .i64 2),(.int .i64 1),(.int .i64 15)] 1 22 false true),.nsl,.nsl,.nsl] true (fun b c d e f g i l o p q r s t w=>(Z8 N 15 (fun m=>(cond ((Nat.beq (m.length) 3)&&(Nat.ble 3 3)) (Z5 N (fun n=>(cond ((Nat.beq (n.length) 3)&&(Nat.ble 3 3)) (cond (Ae 0 b) (cond ((Nat.beq 3 3)&&((Nat.ble 3 (l.length))&&(!false))) (r0 [(.int .i64 1),(.imm [(.int .i64 0)] 1 1 false false),(.imm [(.str ([97]:List UInt8)),(.imm [(.int .i64 15)] 1 1 false false),(.int .i64 0)] 1 3 false false),.nsl,(.imm [(.str ([103]:List UInt8)),(.int .i64 0),(.int .i64 10),(.int .i64 20),(.imm [(.int .i64 10),(.int .i64 2)] 1 2 false false),(.int .i64 7),(.int .i64 20),(.int .i64 20),(.int .i64 20),(.int .i64 20),(.int .i64 1),(.int .i64 1),(.int .i64 0),(.int .i64 0),(.int .i64 0),(.int .i64 1),(.int .i64 0),(.int .i64 0),.nsl,(.int .i64 2),(.int .i64 1),(.int .i64 15)] 1 22 false false),.nsl,.nsl,.nsl] [(.imm ((C4 l 0 [(.imm [(.int .i64 2)] 1 1 false false),(.imm ((setCells [(.bool false),.nsl,.nsl] 0 m).take 3) 1 3 false false),(.imm ((setCells [(.bool false),.nsl,.nsl] 0 n).take 3) 1 3 false false)]).take (b*3)) b 3 false false),(.imm (o.take (c*1)) c 1 false false),(.imm (p.take (d*1)) d 1 false false),(.imm (q.take (e*1)) e 1 false false),(.imm (r.take (f*1)) f 1 false false),(.imm (s.take (g*1)) g 1 false false),(.imm (t.take (i*1)) i 1 false false),(.imm [] 0 4 false false)]) none) none) none))) none)))))
def IM:=(Ag (@fZ R)).1
theorem f3:@IM R=@fZ R:=(Ag _).2
def Aje:Hints:={ H:=hL,modes:=[(3,0),(3,0)] }
def Aq9:F2:=[(188,Aq7 N),(94,Acn N),(151,cK N)]
def lM (F:KF R):LA→LA→O R:=(fun u v=>F (.tup [(.pagg u false),(.pagg v false)]) [])
theorem lN (F:KF R):Cw (Aq9 N) Aje N 108 [] [] F=(IM N (lM F)):=by
 rw[f3]
 kernel_rfl
def f4 (a:LA) (h:Aj) (k:KF R):O R :=
 match a,h with
 | [],[]=>(IM N (lM k))
 | _,_=>none
theorem lO:An N 108 @f4:=by
 intro R Q a h k j;unfold f4;split;exact A2 (lN ..) (lN ..) ⟨Aq8 N,Aco N,cL N,trivial⟩;exact A4
def Ajf:=A3 (lO N)
def Ajg:=Cz (lO N)
def FJ (N:Nat) (r0:Bool→O R) (c:LA) (e:Nat) (l g:Bool) (d:LA) (f:Nat) (m i:Bool) (k0:Int→O R) (b:Int):O R :=
 (cond (decide (b<((e:Nat):Int))) (cond (Ae b e) (cond (Nat.ble 4 ((c.drop ((b.toNat)*4)).length)) (cond ((!g)||(Az ((c.drop ((b.toNat)*4)).take 4))) (cond (Ae b f) (cond (Nat.ble 4 ((d.drop ((b.toNat)*4)).length)) (cond ((!i)||(Az ((d.drop ((b.toNat)*4)).take 4))) (cond ((Nat.ble 1 4)&&((Nat.beq (((c.drop ((b.toNat)*4)).take 4).length) 4)&&((Nat.beq (((d.drop ((b.toNat)*4)).take 4).length) 4)&&(true&&(!false))))) (Ap .i64 ((c.drop ((b.toNat)*4)).take 4) fun o=>(Ap .i64 ((d.drop ((b.toNat)*4)).take 4) fun p=>(Ap .i64 (((c.drop ((b.toNat)*4)).take 4).drop 1) fun q=>(Ap .i64 (((d.drop ((b.toNat)*4)).take 4).drop 1) fun r=>(Ap .i64 (((c.drop ((b.toNat)*4)).take 4).drop 2) fun s=>(Ap .i64 (((d.drop ((b.toNat)*4)).take 4).drop 2) fun t=>(Ap .i64 (((c.drop ((b.toNat)*4)).take 4).drop 3) fun u=>(Ap .i64 (((d.drop ((b.toNat)*4)).take 4).drop 3) fun v=>(cond (!((o==p)&&((q==r)&&((s==t)&&((u==v)&&true))))) (r0 false) (k0 (wrap .i64 (b+1)))))))))))) none) none) none) none) none) none) none) (r0 true))
def Qt (r0:Bool→O R) (c:LA) (e:Nat) (l g:Bool) (d:LA) (f:Nat) (m i:Bool):Nat→Int→O R
 | 0,_=>none
 | n+1,b=>(FJ N r0 c e l g d f m i (Qt r0 c e l g d f m i n) b)
def iC (N:Nat) (r0:Bool→O R) (q0:Int→O R) (c:LA) (e:Nat) (l g:Bool) (d:LA) (f:Nat) (m i:Bool):O R :=
 (cond (((e:Nat):Int) != ((f:Nat):Int)) (r0 false) (q0 0))
def IN:=(Ag (fun (N:Nat) (c:LA) (e:Nat) (l g:Bool) (d:LA) (f:Nat) (m i:Bool) (r0:Bool→O R)=>(iC N r0 (fun b=>(Qt N r0 c e l g d f m i N b)) c e l g d f m i))).1
theorem rU (c e l g d f m i r0):(@IN R N c e l g d f m i r0)=(iC N r0 (fun b=>(Qt N r0 c e l g d f m i N b)) c e l g d f m i):=by rw[IN,(Ag _).2]
def xj:Hints:={ H:=(hS hL (hS hL (hS (hS hL (hS (hP [0,1,5] hL) hL)) hL))) }
def Axh (F:KF R):=Ju Tryz.f53 xj [] [] N F
def BX (F:KF R):Bool→O R:=(fun w=>F (.bool w) [])
def Axi (c:LA) (e:Nat) (l g:Bool) (d:LA) (f:Nat) (m i:Bool) (b:Int):St:=⟨[(0,(.imm c e 4 l g)),(1,(.imm d f 4 m i)),(5,(iv b))],[]⟩
def Axj (F:KF R):=Axh N F [1,1,0,1,0] []
theorem f5 (F:KF R) (c:LA) (e:Nat) (l g:Bool) (d:LA) (f:Nat) (m i:Bool):∀ (n:Nat) (b:Int),Ak (Axj N F) n (Axi c e l g d f m i b)=(Qt N (BX F) c e l g d f m i n b)
 | 0,_=>by kernel_rfl
 | n+1,b=>Eq.trans (by kernel_rfl) (Bt (FJ N (BX F) c e l g d f m i · b) (funext fun b=>(f5 F c e l g d f m i n b)):_)
theorem xk (c:LA) (e:Nat) (l g:Bool) (d:LA) (f:Nat) (m i:Bool) (F:KF R):Cw [] xj N 53 [(.imm c e 4 l g),(.imm d f 4 m i)] [] F=(IN N c e l g d f m i (BX F)):=by
 rw[rU]
 exact Eq.trans (by kernel_rfl) (Bt (iC N (BX F) · c e l g d f m i) (funext fun b=>(Ad ..).trans (f5 N F c e l g d f m i N b)):_)
def rV (a:LA) (h:Aj) (k:KF R):O R :=
 match a,h with
 | [(.imm c e 4 l g),(.imm d f 4 m i)],[]=>(IN N c e l g d f m i (BX k))
 | _,_=>none
theorem xl:An N 53 @rV:=by
 intro R Q a h k j;unfold rV;split;exact A2 (xk ..) (xk ..) trivial;exact A4
def Axk:=A3 (xl N)
def Axl:=Cz (xl N)
end
end Gx

namespace Gx
open Go Go.Proofs
open IntKind (wrap)
set_option maxRecDepth 100000
noncomputable section
variable {R:Type} (N:Nat)
def VK (r0:Bool→O R):O R :=
 (IM N (fun b d=>(cond ((Nat.beq 0 0)&&((Nat.beq (b.length) 8)&&(Nat.beq 8 8))) (cond ((Nat.beq 0 0)&&((Nat.beq (d.length) 8)&&(Nat.beq 8 8))) (cond (Nat.ble 8 (b.length)) (Qr N (b.take 8) false ([116,114,105,112,32,103,32,49,32,35,32,98,111,105,108,101,114,10,10,115,116,101,112]:List UInt8) (fun c e f g=>(cond (Nat.ble 8 (b.length)) (Qr N (b.take 8) false ([115,116,101,112,32,110,111,119]:List UInt8) (fun q i l r=>(cond (Nat.ble 8 (b.length)) (Qr N (b.take 8) false ([100,101,109,97,110,100,32,97,32,57,57,32,53]:List UInt8) (fun s m n t=>(cond ((e==0)==true) (cond ((cond true (f==0) false)==true) (IN N (g.take (c*4)) c false true [(.int .i64 2),(.int .i64 0),(.int .i64 1),(.int .i64 0),(.int .i64 5),(.int .i64 0),(.int .i64 0),(.int .i64 0)] 2 false true (fun o=>(cond ((cond true o false)==true) (cond ((cond true (i==1) false)==true) (cond ((cond true (l==2) false)==true) (cond ((cond true (m==1) false)==true) (r0 (cond true (n==3) false)) (r0 false)) (r0 false)) (r0 false)) (r0 false)))) (r0 false)) (r0 false)))) none))) none))) none) none) none)))
def Fx:=(Ag (@VK R)).1
theorem aG:@Fx R=@VK R:=(Ag _).2
def Ajh:F2:=[(108,Ajf N),(44,Axf N),(53,Axk N)]
def f6 (F:KF R):Bool→O R:=(fun p=>F (.bool p) [])
theorem f7 (F:KF R):Cw (Ajh N) Cr N 45 [] [] F=(Fx N (f6 F)):=by
 rw[aG]
 kernel_rfl
def aH (a:LA) (h:Aj) (k:KF R):O R :=
 match a,h with
 | [],[]=>(Fx N (f6 k))
 | _,_=>none
theorem f8:An N 45 @aH:=by
 intro R Q a h k j;unfold aH;split;exact A2 (f7 ..) (f7 ..) ⟨Ajg N,Axg N,Axl N,trivial⟩;exact A4
def f9:=A3 (f8 N)
def f_:=Cz (f8 N)
def MJ (N:Nat) (r0:Bool→O R) (c:Bool) (b:LA) (k1:Int→O R) (d:Int):O R :=
 (Br 22 (b.drop 4) fun x e=>(cond (decide (d<((e:Nat):Int))) (Br 22 (b.drop 4) fun f g=>(cond (Ae d g) (Br 1 ((f.drop ((d.toNat)*22)).drop 18) fun y i=>(cond ((decide (((i:Nat):Int)>30))==false) (Br 22 (b.drop 4) fun l m=>(cond (Ae d m) (Br 2 ((l.drop ((d.toNat)*22)).drop 4) fun z o=>(cond (cond false true (decide (((o:Nat):Int)>20))) (r0 false) (k1 (wrap .i64 (d+1))))) none)) (r0 false))) none)) (r0 true)))
def Qu (r0:Bool→O R) (c:Bool) (b:LA):Nat→Int→O R
 | 0,_=>none
 | n+1,d=>(MJ N r0 c b (Qu r0 c b n) d)
def fa (N:Nat) (r0:Bool→O R) (c:Bool) (b:LA) (q1:Int→O R):O R :=
 (q1 0)
def VL (r0:Bool→O R) (c:Bool) (b:LA):O R:=(fa N r0 c b (fun d=>(Qu N r0 c b N d)))
def rW (N:Nat) (r0:Bool→O R) (q0:O R) (b:LA) (c:Bool):O R :=
 (Br 3 (b.drop 2) fun aa p=>(cond ((decide (((p:Nat):Int)>5))==false) (Br 12 (b.drop 3) fun ab q=>(cond ((cond false true (decide (((q:Nat):Int)>6)))==false) (Br 22 (b.drop 4) fun ac r=>(cond ((cond false true (decide (((r:Nat):Int)>4)))==false) (Br 9 (b.drop 5) fun ad s=>(cond ((cond false true (decide (((s:Nat):Int)>4)))==false) (Br 5 (b.drop 6) fun ae t=>(cond ((cond false true (decide (((t:Nat):Int)>4)))==false) (Br 4 (b.drop 7) fun af u=>(cond ((cond false true (decide (((u:Nat):Int)>4)))==false) (Ap .i64 b fun v=>(cond (cond false true (decide (v>3))) (r0 false) q0)) (r0 false))) (r0 false))) (r0 false))) (r0 false))) (r0 false))) (r0 false)))
def MK:=(Ag (fun (N:Nat) (b:LA) (c:Bool) (r0:Bool→O R)=>(rW N r0 (VL N r0 c b) b c))).1
theorem xm (b c r0):(@MK R N b c r0)=(rW N r0 (VL N r0 c b) b c):=by rw[MK,(Ag _).2]
def Agc:Hints:={ H:=(hS hL (hJ [1] hL (hS (hS hL (hS (hP [1,3] hL) hL)) hL))) }
def Agd (F:KF R):=Ju Tryz.f46 Agc [] [] N F
def Ud (F:KF R):Bool→O R:=(fun w=>F (.bool w) [])
def A1i (c:Bool) (b:LA) (d:Int):St:=⟨[(1,(op 0)),(3,(iv d))],(hq [(bP c 0 b)])⟩
def A1j (F:KF R):=Agd N F [1,1,0,1,0] []
def A1k (c:Bool) (b:LA):St:=⟨[(1,(op 0))],(hq [(bP c 0 b)])⟩
def A1l (F:KF R):=Agd N F [1,1] []
theorem lP (F:KF R) (c:Bool) (b:LA):∀ (n:Nat) (d:Int),Ak (A1j N F) n (A1i c b d)=(Qu N (Ud F) c b n d)
 | 0,_=>by kernel_rfl
 | n+1,d=>Eq.trans (by kernel_rfl) (Bt (MJ N (Ud F) c b · d) (funext fun d=>(lP F c b n d)):_)
theorem Aji (F:KF R) (c:Bool) (b:LA):B5 (A1l N F) (A1k c b)=(VL N (Ud F) c b):=by
 exact Eq.trans (by kernel_rfl) (Bt (fa N (Ud F) c b ·) (funext fun d=>(Ad ..).trans (lP N F c b N d)):_)
theorem Age (b:LA) (c:Bool) (F:KF R):Cw [] Agc N 46 [(.pagg b c)] [] F=(MK N b c (Ud F)):=by
 rw[xm]
 exact Eq.trans (by kernel_rfl) (Bt (rW N (Ud F) · b c) ((A1 ..).trans (Aji N F c b)):_)
def xn (a:LA) (h:Aj) (k:KF R):O R :=
 match a,h with
 | [(.pagg b c)],[]=>(MK N b c (Ud k))
 | _,_=>none
theorem Agf:An N 46 @xn:=by
 intro R Q a h k j;unfold xn;split;exact A2 (Age ..) (Age ..) trivial;exact A4
def Agg:=A3 (Agf N)
def Agh:=Cz (Agf N)
def te (b:LA) (d:Bool) (c:LA) (e:Bool) (r0:Bool→O R):O R :=
 (cond (Nat.ble 8 (b.length)) (BR N (b.take 8) d (fun f g=>(cond ((Nat.beq (f.length) 3)&&((Nat.ble 3 3)&&(!false))) (cond (g != 0) (r0 false) (cond (Nat.ble 8 (b.length)) (cond (Nat.ble 4 (c.length)) (cond ((!e)||(Az (c.take 4))) (Qq N (b.take 8) d (c.take 4) false (fun i=>(r0 i))) none) none) none)) none))) none)
def S6:=(Ag (@te R)).1
theorem rX:@S6 R=@te R:=(Ag _).2
def A1m:F2:=[(104,fI N),(109,fV N)]
def xo (F:KF R):Bool→O R:=(fun l=>F (.bool l) [])
theorem xp (b:LA) (d:Bool) (c:LA) (e:Bool) (F:KF R):Cw (A1m N) Cr N 47 [(.pagg b d),(.pagg c e)] [] F=(S6 N b d c e (xo F)):=by
 rw[rX]
 kernel_rfl
def rY (a:LA) (h:Aj) (k:KF R):O R :=
 match a,h with
 | [(.pagg b d),(.pagg c e)],[]=>(S6 N b d c e (xo k))
 | _,_=>none
theorem xq:An N 47 @rY:=by
 intro R Q a h k j;unfold rY;split;exact A2 (xp ..) (xp ..) ⟨fJ N,fW N,trivial⟩;exact A4
def Axm:=A3 (xq N)
def Axn:=Cz (xq N)
def Ara (N:Nat) (b c d:Int) (r0:Bool→O R):O R :=
 (cond ((decide (b≥c))==true) (r0 (cond true (decide (b≤d)) false)) (r0 false))
def R5:=(Ag (@Ara R)).1
theorem Agi:@R5 R=@Ara R:=(Ag _).2
def Amh (F:KF R):Bool→O R:=(fun e=>F (.bool e) [])
theorem Ami (b c d:Int) (F:KF R):Cw [] Cr N 190 [(iv b),(iv c),(iv d)] [] F=(R5 N b c d (Amh F)):=by
 rw[Agi]
 kernel_rfl
def Agj (a:LA) (h:Aj) (k:KF R):O R :=
 match a,h with
 | [(.int .i64 b),(.int .i64 c),(.int .i64 d)],[]=>(R5 N b c d (Amh k))
 | _,_=>none
theorem Amj:An N 190 @Agj:=by
 intro R Q a h k j;unfold Agj;split;exact A2 (Ami ..) (Ami ..) trivial;exact A4
def A5i:=A3 (Amj N)
def A5j:=Cz (Amj N)
def RX (r0:Bool→O R) (d:Int) (e:Bool) (c:LA) (f:Bool) (b:LA) (g:Bool):O R :=
 (cond g (Ap .i64 (b.drop 1) fun l=>(cond ((l==0)==true) (Ap .i64 (b.drop 2) fun m=>(cond ((cond true (m==0) false)==true) (Ap .i64 (b.drop 3) fun n=>(r0 (cond true (n==0) false))) (r0 false))) (r0 false))) (cond (d==6) (Ap .i64 (b.drop 1) fun o=>(cond ((o==0)==true) (Ap .i64 (b.drop 2) fun p=>(cond ((cond true (p==0) false)==true) (Ap .i64 (b.drop 3) fun q=>(R5 N q 0 16777216 (fun r=>(r0 (cond true r false))))) (r0 false))) (r0 false))) (cond (d==8) (Ap .i64 (b.drop 1) fun s=>(cond ((s==0)==true) (Ap .i64 (b.drop 2) fun t=>(Ap .i64 c fun u=>(R5 N t 0 (wrap .i64 (u - 1)) (fun v=>(cond ((cond true v false)==true) (Ap .i64 (b.drop 3) fun w=>(r0 (cond true (w==0) false))) (r0 false)))))) (r0 false))) (r0 false))))
def zO (r0:Bool→O R) (q0:Int→Bool→O R) (c:LA) (e:Bool) (b:LA) (f:Bool):O R :=
 (Ap .i64 b fun d=>(cond (d==1) (Ap .i64 (b.drop 1) fun x=>(Br 3 (c.drop 2) fun bg y=>(R5 N x 0 (wrap .i64 (((y:Nat):Int) - 1)) (fun z=>(cond (z==true) (Ap .i64 (b.drop 2) fun aa=>(Ap .i64 c fun ab=>(R5 N aa 0 (wrap .i64 (ab - 1)) (fun ac=>(cond ((cond true ac false)==true) (Ap .i64 (b.drop 3) fun ad=>(R5 N ad 0 1048576 (fun ae=>(r0 (cond true ae false))))) (r0 false)))))) (r0 false)))))) (cond (d==2) (Ap .i64 (b.drop 1) fun af=>(Br 22 (c.drop 4) fun bh ag=>(R5 N af 0 (wrap .i64 (((ag:Nat):Int) - 1)) (fun ah=>(cond (ah==true) (Ap .i64 (b.drop 2) fun ai=>(Ap .i64 c fun aj=>(R5 N ai 1 aj (fun ak=>(cond ((cond true ak false)==true) (Ap .i64 (b.drop 3) fun al=>(r0 (cond true (al==0) false))) (r0 false)))))) (r0 false)))))) (cond (d==3) (Ap .i64 (b.drop 1) fun am=>(Br 12 (c.drop 3) fun bi an=>(R5 N am 0 (wrap .i64 (((an:Nat):Int) - 1)) (fun ao=>(cond (ao==true) (Ap .i64 (b.drop 2) fun ap=>(Ap .i64 c fun aq=>(R5 N ap 1 aq (fun ar=>(cond ((cond true ar false)==true) (Ap .i64 (b.drop 3) fun au=>(r0 (cond true (au==0) false))) (r0 false)))))) (r0 false)))))) (cond (d==4) (Ap .i64 (b.drop 1) fun av=>(Br 22 (c.drop 4) fun bj aw=>(R5 N av 0 (wrap .i64 (((aw:Nat):Int) - 1)) (fun ax=>(cond (ax==true) (Ap .i64 (b.drop 2) fun ay=>(Br 22 (c.drop 4) fun az ba=>(Ap .i64 (b.drop 1) fun i=>(cond (Ae i ba) (Br 2 ((az.drop ((i.toNat)*22)).drop 4) fun bk bb=>(R5 N ay 0 (wrap .i64 (((bb:Nat):Int) - 1)) (fun bc=>(cond ((cond true bc false)==true) (Ap .i64 (b.drop 3) fun bd=>(R5 N bd (-1048576) 1048576 (fun be=>(r0 (cond true be false))))) (r0 false))))) none)))) (r0 false)))))) (cond (d==5) (q0 d (d==5)) (q0 d (d==7))))))))
def mu:=(Ag (fun (N:Nat) (c:LA) (e:Bool) (b:LA) (f:Bool) (r0:Bool→O R)=>(zO N r0 (fun d g=>(RX N r0 d e c f b g)) c e b f))).1
theorem Agk (c e b f r0):(@mu R N c e b f r0)=(zO N r0 (fun d g=>(RX N r0 d e c f b g)) c e b f):=by rw[mu,(Ag _).2]
def Amk:Hints:={ H:=(hS hL (hS (hS hL (hS (hS hL (hS hL (hS hL (hS hL (hS hL (hS hL (hS hL (hS hL (hJ [2,3,6,99] hL hL))))))))) hL)) hL)) }
def Axo:F2:=[(190,A5i N)]
def A5k (F:KF R):=Ju Tryz.f110 Amk (Axo N) [] N F
def iD (F:KF R):Bool→O R:=(fun bf=>F (.bool bf) [])
def A5l (d:Int) (e:Bool) (c:LA) (f:Bool) (b:LA) (g:Bool):St:=⟨[(2,(op 0)),(3,(op 1)),(6,(iv d)),(99,(.bool g))],(hq [(bP e 0 c),(bP f 0 b)])⟩
def A5m (F:KF R):=A5k N F [1,0,1,0,1,1,1,1,1,1,1,1,1] []
theorem Arb (F:KF R) (d:Int) (e:Bool) (c:LA) (f:Bool) (b:LA):∀ (g:Bool),B5 (A5m N F) (A5l d e c f b g)=(RX N (iD F) d e c f b g):=by
 intro g
 kernel_rfl
theorem Aml (c:LA) (e:Bool) (b:LA) (f:Bool) (F:KF R):Cw (Axo N) Amk N 110 [(.pagg c e),(.pagg b f)] [] F=(mu N c e b f (iD F)):=by
 rw[Agk]
 exact Eq.trans (by kernel_rfl) (Bt (zO N (iD F) · c e b f) (funext fun d=>funext fun g=>(A1 ..).trans (Arb N F d e c f b g)):_)
def Agl (a:LA) (h:Aj) (k:KF R):O R :=
 match a,h with
 | [(.pagg c e),(.pagg b f)],[]=>(mu N c e b f (iD k))
 | _,_=>none
theorem Amm:An N 110 @Agl:=by
 intro R Q a h k j;unfold Agl;split;exact A2 (Aml ..) (Aml ..) ⟨A5j N,trivial⟩;exact A4
def Amn:=A3 (Amm N)
def Amo:=Cz (Amm N)
def mv (b:LA) (d:Bool) (c:LA) (e:Bool) (r0:Bool→O R):O R :=
 (cond (Nat.ble 8 (b.length)) (Ut N (b.take 8) d (fun f g=>(cond ((Nat.beq (f.length) 3)&&((Nat.ble 3 3)&&(!false))) (cond ((g==0)==true) (cond (Nat.ble 8 (b.length)) (cond (Nat.ble 4 (c.length)) (cond ((!e)||(Az (c.take 4))) (mu N (b.take 8) d (c.take 4) false (fun i=>(r0 (cond true i false)))) none) none) none) (r0 false)) none))) none)
def Oj:=(Ag (@mv R)).1
theorem lR:@Oj R=@mv R:=(Ag _).2
def Axp:F2:=[(103,UI N),(110,Amn N)]
def rZ (F:KF R):Bool→O R:=(fun l=>F (.bool l) [])
theorem r5 (b:LA) (d:Bool) (c:LA) (e:Bool) (F:KF R):Cw (Axp N) Cr N 48 [(.pagg b d),(.pagg c e)] [] F=(Oj N b d c e (rZ F)):=by
 rw[lR]
 kernel_rfl
def lS (a:LA) (h:Aj) (k:KF R):O R :=
 match a,h with
 | [(.pagg b d),(.pagg c e)],[]=>(Oj N b d c e (rZ k))
 | _,_=>none
theorem r6:An N 48 @lS:=by
 intro R Q a h k j;unfold lS;split;exact A2 (r5 ..) (r5 ..) ⟨UJ N,Amo N,trivial⟩;exact A4
def Arc:=A3 (r6 N)
def Ard:=Cz (r6 N)
def Kn (r0:Bool→O R) (c:LA) (ag b:Int) (au av:Int):O R :=
 (cond ((ag != 6)==true) (cond ((cond true (ag != 1) false)==true) (cond (cond true (ag != 4) false) (TP N b 3 (fun aw=>(Fx N (fun az=>(cond (az==true) (cond (Nat.ble 8 (c.length)) (S6 N (c.take 8) false [(.int .i64 ag),(.int .i64 au),(.int .i64 av),(.int .i64 (wrap .i64 (Int.tdiv aw 2)))] false (fun ba=>(cond (Nat.ble 8 (c.length)) (Oj N (c.take 8) false [(.int .i64 ag),(.int .i64 au),(.int .i64 av),(.int .i64 (wrap .i64 (Int.tdiv aw 2)))] false (fun bb=>(r0 (cond true (ba==bb) false)))) none))) none) (r0 false)))))) (Fx N (fun bc=>(cond (bc==true) (cond (Nat.ble 8 (c.length)) (S6 N (c.take 8) false [(.int .i64 ag),(.int .i64 au),(.int .i64 av),(.int .i64 b)] false (fun bd=>(cond (Nat.ble 8 (c.length)) (Oj N (c.take 8) false [(.int .i64 ag),(.int .i64 au),(.int .i64 av),(.int .i64 b)] false (fun be=>(r0 (cond true (bd==be) false)))) none))) none) (r0 false))))) (Fx N (fun bf=>(cond (bf==true) (cond (Nat.ble 8 (c.length)) (S6 N (c.take 8) false [(.int .i64 ag),(.int .i64 au),(.int .i64 av),(.int .i64 b)] false (fun bg=>(cond (Nat.ble 8 (c.length)) (Oj N (c.take 8) false [(.int .i64 ag),(.int .i64 au),(.int .i64 av),(.int .i64 b)] false (fun bh=>(r0 (cond true (bg==bh) false)))) none))) none) (r0 false))))) (Fx N (fun bi=>(cond (bi==true) (cond (Nat.ble 8 (c.length)) (S6 N (c.take 8) false [(.int .i64 ag),(.int .i64 au),(.int .i64 av),(.int .i64 b)] false (fun bj=>(cond (Nat.ble 8 (c.length)) (Oj N (c.take 8) false [(.int .i64 ag),(.int .i64 au),(.int .i64 av),(.int .i64 b)] false (fun bk=>(r0 (cond true (bj==bk) false)))) none))) none) (r0 false)))))
def Ou (r0:Bool→O R) (ah:LA) (af:Nat) (ak ai aj:Bool) (n:Int) (o:LA) (p:Nat) (al d:Bool) (q:LA) (r:Nat) (am e:Bool) (s:LA) (t:Nat) (an f:Bool) (u:LA) (v:Nat) (ao g:Bool) (w:LA) (x:Nat) (ap i:Bool) (y:LA) (z:Nat) (aq l:Bool) (aa:LA) (ab:Nat) (ar m:Bool) (ac ad ae b:Int) (q1:LA→Int→Int→Int→O R):O R :=
 (cond aj (UO N ah af false ai (fun c=>(cond ((Nat.beq 0 0)&&((Nat.beq (c.length) 8)&&(Nat.beq 8 8))) (TP N ac 10 (fun ag=>(TP N ad 5 (fun ax=>(TP N ae 5 (fun ay=>(cond (decide (ag≥5)) (q1 c ag (wrap .i64 (Int.tdiv ax 4)) (wrap .i64 (ay - 1))) (q1 c ag ax (wrap .i64 (ay - 1)))))))))) none))) (Fx N (fun bl=>(cond (bl==true) (S6 N [(.int .i64 n),(.imm o p 1 false d),(.imm q r 3 false e),(.imm s t 12 false f),(.imm u v 22 false g),(.imm w x 9 false i),(.imm y z 5 false l),(.imm aa ab 4 false m)] (d||(e||(f||(g||(i||(l||(m||false))))))) [(.int .i64 ac),(.int .i64 ad),(.int .i64 ae),(.int .i64 b)] false (fun bm=>(Oj N [(.int .i64 n),(.imm o p 1 false d),(.imm q r 3 false e),(.imm s t 12 false f),(.imm u v 22 false g),(.imm w x 9 false i),(.imm y z 5 false l),(.imm aa ab 4 false m)] (d||(e||(f||(g||(i||(l||(m||false))))))) [(.int .i64 ac),(.int .i64 ad),(.int .i64 ae),(.int .i64 b)] false (fun bn=>(r0 (cond true (bm==bn) false)))))) (r0 false)))))
def Ko (r0:Bool→O R) (ah:LA) (af:Nat) (ak ai aj:Bool) (n:Int) (o:LA) (p:Nat) (al d:Bool) (q:LA) (r:Nat) (am e:Bool) (s:LA) (t:Nat) (an f:Bool) (u:LA) (v:Nat) (ao g:Bool) (w:LA) (x:Nat) (ap i:Bool) (y:LA) (z:Nat) (aq l:Bool) (aa:LA) (ab:Nat) (ar m:Bool) (ac ad ae b:Int):O R:=(Ou N r0 ah af ak ai aj n o p al d q r am e s t an f u v ao g w x ap i y z aq l aa ab ar m ac ad ae b (fun c ag au av=>(Kn N r0 c ag b au av)))
def Nq (r0:Bool→O R) (q0:O R) (n:Int) (o:LA) (p:Nat) (al d:Bool) (q:LA) (r:Nat) (am e:Bool) (s:LA) (t:Nat) (an f:Bool) (u:LA) (v:Nat) (ao g:Bool) (w:LA) (x:Nat) (ap i:Bool) (y:LA) (z:Nat) (aq l:Bool) (aa:LA) (ab:Nat) (ar m:Bool) (ah:LA) (af:Nat) (ak ai:Bool) (ac ad ae b:Int) (aj:Bool):O R :=
 (MK N [(.int .i64 n),(.imm o p 1 false d),(.imm q r 3 false e),(.imm s t 12 false f),(.imm u v 22 false g),(.imm w x 9 false i),(.imm y z 5 false l),(.imm aa ab 4 false m)] (d||(e||(f||(g||(i||(l||(m||false))))))) (fun bo=>(cond ((!bo)==false) (cond (cond false true (decide (((af:Nat):Int)>200))) (r0 true) q0) (r0 true))))
def Kp:=(Ag (fun (N:Nat) (n:Int) (o:LA) (p:Nat) (al d:Bool) (q:LA) (r:Nat) (am e:Bool) (s:LA) (t:Nat) (an f:Bool) (u:LA) (v:Nat) (ao g:Bool) (w:LA) (x:Nat) (ap i:Bool) (y:LA) (z:Nat) (aq l:Bool) (aa:LA) (ab:Nat) (ar m:Bool) (ah:LA) (af:Nat) (ak ai:Bool) (ac ad ae b:Int) (aj:Bool) (r0:Bool→O R)=>(Nq N r0 (Ko N r0 ah af ak ai aj n o p al d q r am e s t an f u v ao g w x ap i y z aq l aa ab ar m ac ad ae b) n o p al d q r am e s t an f u v ao g w x ap i y z aq l aa ab ar m ah af ak ai ac ad ae b aj))).1
theorem Xg (n o p al d q r am e s t an f u v ao g w x ap i y z aq l aa ab ar m ah af ak ai ac ad ae b aj r0):(@Kp R N n o p al d q r am e s t an f u v ao g w x ap i y z aq l aa ab ar m ah af ak ai ac ad ae b aj r0)=(Nq N r0 (Ko N r0 ah af ak ai aj n o p al d q r am e s t an f u v ao g w x ap i y z aq l aa ab ar m ac ad ae b) n o p al d q r am e s t an f u v ao g w x ap i y z aq l aa ab ar m ah af ak ai ac ad ae b aj):=by rw[Kp,(Ag _).2]
def BY:Hints:={ H:=(hS hL (hJ [1,3,4,6] hL (hS (hS hL (hS (hS hL (hS hL (hJ [4,6] hL hL))) hL)) hL))) }
def DR:F2:=[(46,Agg N),(42,Aeb N),(43,Alk N),(45,f9 N),(47,Axm N),(48,Arc N)]
def BZ (F:KF R):=Ju Tryz.f10 BY (DR N) [] N F
def E1 (F:KF R):Bool→O R:=(fun bp=>F (.bool bp) [])
def fb (c:LA) (ag b au av:Int):St:=⟨[(4,(op 0)),(6,(op 1))],(hq [(bQ 0 c),(bQ 0 [(iv ag),(iv au),(iv av),(iv b)])])⟩
def fc (F:KF R):=BZ N F [1,1,0,1,0,1,1,1] []
def fe (ah:LA) (af:Nat) (ak ai aj:Bool) (n:Int) (o:LA) (p:Nat) (al d:Bool) (q:LA) (r:Nat) (am e:Bool) (s:LA) (t:Nat) (an f:Bool) (u:LA) (v:Nat) (ao g:Bool) (w:LA) (x:Nat) (ap i:Bool) (y:LA) (z:Nat) (aq l:Bool) (aa:LA) (ab:Nat) (ar m:Bool) (ac ad ae b:Int):St:=⟨[(1,(.imm ah af 1 ak ai)),(3,(.bool aj)),(4,(op 0)),(6,(op 1))],(hq [(bN 0 [(iv n),(.imm o p 1 al d),(.imm q r 3 am e),(.imm s t 12 an f),(.imm u v 22 ao g),(.imm w x 9 ap i),(.imm y z 5 aq l),(.imm aa ab 4 ar m)]),(bQ 0 [(iv ac),(iv ad),(iv ae),(iv b)])])⟩
def ff (F:KF R):=BZ N F [1,1] []
theorem RY (F:KF R) (c:LA) (ag b:Int):∀ (au av:Int),B5 (fc N F) (fb c ag b au av)=(Kn N (E1 F) c ag b au av):=by
 intro au av
 kernel_rfl
theorem RZ (F:KF R) (ah:LA) (af:Nat) (ak ai aj:Bool) (n:Int) (o:LA) (p:Nat) (al d:Bool) (q:LA) (r:Nat) (am e:Bool) (s:LA) (t:Nat) (an f:Bool) (u:LA) (v:Nat) (ao g:Bool) (w:LA) (x:Nat) (ap i:Bool) (y:LA) (z:Nat) (aq l:Bool) (aa:LA) (ab:Nat) (ar m:Bool) (ac ad ae b:Int):B5 (ff N F) (fe ah af ak ai aj n o p al d q r am e s t an f u v ao g w x ap i y z aq l aa ab ar m ac ad ae b)=(Ko N (E1 F) ah af ak ai aj n o p al d q r am e s t an f u v ao g w x ap i y z aq l aa ab ar m ac ad ae b):=by
 exact Eq.trans (by kernel_rfl) (Bt (Ou N (E1 F) ah af ak ai aj n o p al d q r am e s t an f u v ao g w x ap i y z aq l aa ab ar m ac ad ae b ·) (funext fun c=>funext fun ag=>funext fun au=>funext fun av=>(A1 ..).trans (RY N F c ag b au av)):_)
theorem B_ (n:Int) (o:LA) (p:Nat) (al d:Bool) (q:LA) (r:Nat) (am e:Bool) (s:LA) (t:Nat) (an f:Bool) (u:LA) (v:Nat) (ao g:Bool) (w:LA) (x:Nat) (ap i:Bool) (y:LA) (z:Nat) (aq l:Bool) (aa:LA) (ab:Nat) (ar m:Bool) (ah:LA) (af:Nat) (ak ai:Bool) (ac ad ae b:Int) (aj:Bool) (F:KF R):Cw (DR N) BY N 10 [(.agg [(iv n),(.imm o p 1 al d),(.imm q r 3 am e),(.imm s t 12 an f),(.imm u v 22 ao g),(.imm w x 9 ap i),(.imm y z 5 aq l),(.imm aa ab 4 ar m)]),(.imm ah af 1 ak ai),(.agg [(iv ac),(iv ad),(iv ae),(iv b)]),(.bool aj)] [] F=(Kp N n o p al d q r am e s t an f u v ao g w x ap i y z aq l aa ab ar m ah af ak ai ac ad ae b aj (E1 F)):=by
 rw[Xg]
 exact Eq.trans (by kernel_rfl) (Bt (Nq N (E1 F) · n o p al d q r am e s t an f u v ao g w x ap i y z aq l aa ab ar m ah af ak ai ac ad ae b aj) ((A1 ..).trans (RZ N F ah af ak ai aj n o p al d q r am e s t an f u v ao g w x ap i y z aq l aa ab ar m ac ad ae b)):_)
def Xh (a:LA) (h:Aj) (k:KF R):O R :=
 match a,h with
 | [(.agg [(.int .i64 n),(.imm o p 1 al d),(.imm q r 3 am e),(.imm s t 12 an f),(.imm u v 22 ao g),(.imm w x 9 ap i),(.imm y z 5 aq l),(.imm aa ab 4 ar m)]),(.imm ah af 1 ak ai),(.agg [(.int .i64 ac),(.int .i64 ad),(.int .i64 ae),(.int .i64 b)]),(.bool aj)],[]=>(Kp N n o p al d q r am e s t an f u v ao g w x ap i y z aq l aa ab ar m ah af ak ai ac ad ae b aj (E1 k))
 | _,_=>none
theorem B':An N 10 @Xh:=by
 intro R Q a h k j;unfold Xh;split;exact A2 (B_ ..) (B_ ..) ⟨Agh N,Aec N,All N,f_ N,Axn N,Ard N,trivial⟩;exact A4
def fg:=A3 (B' N)
def fh:=Cz (B' N)
def th (N:Nat) (d:LA) (b:Nat) (e f:Bool) (g:LA) (c:Nat) (i l:Bool) (r0:Bool→O R):O R :=
 (cond ((decide (((b:Nat):Int)≤200))==true) (r0 (cond true (decide (((c:Nat):Int)≤200)) false)) (r0 false))
def fi:=(Ag (@th R)).1
theorem r7:@fi R=@th R:=(Ag _).2
def xr (F:KF R):Bool→O R:=(fun m=>F (.bool m) [])
theorem xt (d:LA) (b:Nat) (e f:Bool) (g:LA) (c:Nat) (i l:Bool) (F:KF R):Cw [] Cr N 49 [(.imm d b 1 e f),(.imm g c 1 i l)] [] F=(fi N d b e f g c i l (xr F)):=by
 rw[r7]
 kernel_rfl
def r8 (a:LA) (h:Aj) (k:KF R):O R :=
 match a,h with
 | [(.imm d b 1 e f),(.imm g c 1 i l)],[]=>(fi N d b e f g c i l (xr k))
 | _,_=>none
theorem xu:An N 49 @r8:=by
 intro R Q a h k j;unfold r8;split;exact A2 (xt ..) (xt ..) trivial;exact A4
def Axq:=A3 (xu N)
def Axr:=Cz (xu N)
def S7 (N:Nat) (d:LA) (b:Nat) (e f:Bool) (c:Int) (r0:Bool→O R):O R :=
 (r0 (decide (c<((b:Nat):Int))))
def FK:=(Ag (@S7 R)).1
theorem Rn:@FK R=@S7 R:=(Ag _).2
def aI (d:LA) (b:Nat) (e f:Bool) (c:Int) (F:KF R):Bool→O R:=(fun g=>F (.bool g) [(100000,(bN 0 [(.imm d b 1 e f),(iv c)]))])
theorem aJ (d:LA) (b:Nat) (e f:Bool) (c:Int) (F:KF R):Cw [] Cr N 111 [(.optr 100000 0)] [(100000,(bN 0 [(.imm d b 1 e f),(iv c)]))] F=(FK N d b e f c (aI d b e f c F)):=by
 rw[Rn]
 kernel_rfl
def R_ (a:LA) (h:Aj) (k:KF R):O R :=
 match a,h with
 | [(.optr 100000 0)],[(100000,⟨false,false,false,false,0,[(.imm d b 1 e f),(.int .i64 c)],false,none⟩)]=>(FK N d b e f c (aI d b e f c k))
 | _,_=>none
theorem aK:An N 111 @R_:=by
 intro R Q a h k j;unfold R_;split;exact A2 (aJ ..) (aJ ..) trivial;exact A4
def yt:=A3 (aK N)
def yu:=Cz (aK N)
end
end Gx

namespace Gx.Cf
open Go Go.Proofs
section
variable {R:Type}
def S8 (c:CaseD) (k a b v:Int):Bool :=
 if k=1 then BV 0 ((c.buses.l.length:Int) - 1) a&&(BV 0 (c.hours - 1) b&&BV 0 1048576 v)
 else if k=2 then BV 0 ((c.units.l.length:Int) - 1) a&&(BV 1 c.hours b&&BV 0 0 v)
 else if k=3 then BV 0 ((c.lines.l.length:Int) - 1) a&&(BV 1 c.hours b&&BV 0 0 v)
 else if k=4 then BV 0 ((c.units.l.length:Int) - 1) a&&(BV 0 ((Af7 c a:Int) - 1) b&&BV (-1048576) 1048576 v)
 else if k=5 then BV 0 0 a&&(BV 0 0 b&&BV 0 0 v)
 else if k=6 then BV 0 0 a&&(BV 0 0 b&&BV 0 16777216 v)
 else if k=7 then BV 0 0 a&&(BV 0 0 b&&BV 0 0 v)
 else if k=8 then BV 0 0 a&&(BV 0 (c.hours - 1) b&&BV 0 0 v)
 else false
theorem A5n {N n:Nat} {c:LA} {o o':Bool} {a b v:Int} {ev row:LA} {K:Bool→O R}:Fw N K a b v o c o' ev row (n+1) 3=K true:=by rw[Fw];unfold FG;rfl
theorem Zz {N:Nat} {c:CaseD} {o o':Bool} {k a b v:Int} {K:Bool→O R} (hs:Small c N) (hH:1≤c.hours∧c.hours≤24):Qq N c.av o (Af5 k a b v) o' K=K (S8 c k a b v):=by
 have s:=hs.n64
 obtain⟨n,rfl⟩:∃ n,N=n+4:=⟨N - 4,by omega⟩
 rw[rI];unfold h_
 show L7 (n+4) k _=_
 rw[IL (by omega)]
 by_cases m:1≤k∧k≤8
 ·rw[if_pos m]
  have three:∀ (row:LA) (d i l:Int),(∀ F:Int→O R,Ap .i64 (row.drop 2) F=F d)→(∀ F:Int→O R,Ap .i64 (row.drop 3) F=F i)→(∀ F:Int→O R,Ap .i64 (row.drop 4) F=F l)→d≠6→l≠6→(i=6→d=2) →
    Fw (n+4) K a b v o c.av o' (Af5 k a b v) row (n+4) 0=K (BV (zN c a d).1 (zN c a d).2 a&&(BV (zN c a i).1 (zN c a i).2 b&&BV (zN c a l).1 (zN c a l).2 v)):=by
   intro row d i l t u x n0 n2 q
   have y:=mt (R:=R) (N:=n+4) (n:=n+3) (j:=0) (c:=c) (o:=o) (o':=o') (k:=k) (a:=a) (b:=b) (v:=v) (f:=d) (row:=row) (K:=K) (by omega) t hs hH (fun e=>absurd e n0)
   have s2:=mt (R:=R) (N:=n+4) (n:=n+1) (j:=2) (c:=c) (o:=o) (o':=o') (k:=k) (a:=a) (b:=b) (v:=v) (f:=l) (row:=row) (K:=K) (by omega) x hs hH (fun e=>absurd e n2)
   refine y.trans ?_
   show cond (BV (zN c a d).1 (zN c a d).2 a) _ _=_
   cases h0:BV (zN c a d).1 (zN c a d).2 a with
   | false=>rfl
   | true =>
    have s1:=mt (R:=R) (N:=n+4) (n:=n+2) (j:=1) (c:=c) (o:=o) (o':=o') (k:=k) (a:=a) (b:=b) (v:=v) (f:=i) (row:=row) (K:=K) (by omega) u hs hH (fun e=>by
     have z:=q e
     subst z
     unfold zN BV at h0
     simp at h0
     omega)
    show Fw (n+4) K a b v o c.av o' (Af5 k a b v) row (n+3) ((0+1:Nat):Int)=_
    refine s1.trans ?_
    show cond (BV (zN c a i).1 (zN c a i).2 b) _ _=_
    cases q:BV (zN c a i).1 (zN c a i).2 b with
    | false=>rfl
    | true =>
     show Fw (n+4) K a b v o c.av o' (Af5 k a b v) row (n+2) ((1+1:Nat):Int)=_
     refine s2.trans ?_
     show cond (BV (zN c a l).1 (zN c a l).2 v) _ _=_
     cases C:BV (zN c a l).1 (zN c a l).2 v with
     | false=>rfl
     | true=>exact A5n
  have A:k=1∨k=2∨k=3∨k=4∨k=5∨k=6∨k=7∨k=8:=by omega
  rcases A with rfl | rfl | rfl | rfl | rfl | rfl | rfl | rfl
  ·exact(three (Ig 0) 1 4 7 (fun _=>rfl) (fun _=>rfl) (fun _=>rfl) (by decide) (by decide) (by decide)).trans rfl
  ·exact(three (Ig 1) 2 5 0 (fun _=>rfl) (fun _=>rfl) (fun _=>rfl) (by decide) (by decide) (by decide)).trans rfl
  ·exact(three (Ig 2) 3 5 0 (fun _=>rfl) (fun _=>rfl) (fun _=>rfl) (by decide) (by decide) (by decide)).trans rfl
  ·exact(three (Ig 3) 2 6 8 (fun _=>rfl) (fun _=>rfl) (fun _=>rfl) (by decide) (by decide) (by decide)).trans rfl
  ·exact(three (Ig 4) 0 0 0 (fun _=>rfl) (fun _=>rfl) (fun _=>rfl) (by decide) (by decide) (by decide)).trans rfl
  ·exact(three (Ig 5) 0 0 9 (fun _=>rfl) (fun _=>rfl) (fun _=>rfl) (by decide) (by decide) (by decide)).trans rfl
  ·exact(three (Ig 6) 0 0 0 (fun _=>rfl) (fun _=>rfl) (fun _=>rfl) (by decide) (by decide) (by decide)).trans rfl
  ·exact(three (Ig 7) 0 4 0 (fun _=>rfl) (fun _=>rfl) (fun _=>rfl) (by decide) (by decide) (by decide)).trans rfl
 ·rw[if_neg m]
  have:S8 c k a b v=false:=by
   unfold S8
   rw[if_neg (by omega),if_neg (by omega),if_neg (by omega),if_neg (by omega),if_neg (by omega),if_neg (by omega),if_neg (by omega),if_neg (by omega)]
  rw[this];rfl
theorem Gz {N:Nat} {b c d:Int} {K:Bool→O R}:R5 N b c d K=K (BV c d b):=by
 rw[Agi];unfold Ara BV
 by_cases h:b≥c
 ·rw[decide_eq_true h];rfl
 ·rw[decide_eq_false h];rfl
theorem A8l (b:Bool):cond true b false=b:=rfl
theorem SA (b:Bool):(b==true)=b:=by cases b<;>rfl
theorem Baw (a:Int):(a==0)=BV 0 0 a:=by
 unfold BV
 by_cases h:a=0
 ·subst h;rfl
 ·rw[show(a==0)=false by simpa using h]
  by_cases b:0≤a
  ·rw[decide_eq_true b,decide_eq_false (by omega)];rfl
  ·rw[decide_eq_false b];rfl
theorem xv {a:Bool} {K:Bool→O R} {x:Bool}:cond a (K x) (K false)=K (a&&x):=by cases a<;>rfl
theorem xw {N:Nat} {c:CaseD} {o o':Bool} {k a b v:Int} {K:Bool→O R} (hs:Small c N) (hH:1≤c.hours∧c.hours≤24):mu N c.av o (Af5 k a b v) o' K=K (S8 c k a b v):=by
 have D:∀ F:Int→O R,Ap .i64 (Af5 k a b v) F=F k:=fun F=>rfl
 have d:∀ F:Int→O R,Ap .i64 (List.drop 1 (Af5 k a b v)) F=F a:=fun F=>rfl
 have f:∀ F:Int→O R,Ap .i64 (List.drop 2 (Af5 k a b v)) F=F b:=fun F=>rfl
 have i:∀ F:Int→O R,Ap .i64 (List.drop 3 (Af5 k a b v)) F=F v:=fun F=>rfl
 have j:IntKind.wrap .i64 (c.hours - 1)=c.hours - 1:=i64 (by omega)
 rw[Agk];unfold zO
 rw[D]
 unfold S8
 by_cases m:k=1
 ·subst m
  rw[show((1:Int)==1)=true by rfl,ct,if_pos rfl,d,Gs,A9b hs.bus.2,Gz,SA]
  simp only[f,i,Gr,j,Gz,A8l,SA,xv]
 rw[show(k==1)=false by simpa using m,cf,if_neg m]
 by_cases q:k=2
 ·subst q
  rw[show((2:Int)==2)=true by rfl,ct,if_pos rfl,d,C2,A9b hs.uni.2,Gz,SA]
  simp only[f,i,Gr,j,Gz,A8l,SA,Baw,xv]
 rw[show(k==2)=false by simpa using q,cf,if_neg q]
 by_cases s:k=3
 ·subst s
  rw[show((3:Int)==3)=true by rfl,ct,if_pos rfl,d,Ef,A9b hs.lin.2,Gz,SA]
  simp only[f,i,Gr,j,Gz,A8l,SA,Baw,xv]
 rw[show(k==3)=false by simpa using s,cf,if_neg s]
 by_cases t:k=4
 ·subst t
  rw[show((4:Int)==4)=true by rfl,ct,if_pos rfl,d,C2,A9b hs.uni.2,Gz,SA]
  cases C:BV 0 ((c.units.l.length:Int) - 1) a with
  | false=>rfl
  | true =>
   have G:0≤a∧a<(c.units.l.length:Int):=by unfold BV at C;simp at C;omega
   obtain⟨n,rfl⟩:∃ n:Nat,a=n:=⟨a.toNat,by omega⟩
   have hn:n<c.units.l.length:=by omega
   have u:=hs.seg _ (List.getElem_mem hn)
   have e:∀ F:LA→Nat→O R,Br 2 (List.drop 4 (UnitD.av c.units.l[n]++(c.units.l.drop (n+1)).flatMap UnitD.av)) F=F (c.units.l[n].segs.l.flatMap SegD.av) c.units.l[n].segs.l.length:=fun F=>by
    unfold UnitD.av;exact Ed
   have en:Af7 c (n:Int)=c.units.l[n].segs.l.length:=by unfold Af7;rw[Int.toNat_natCast,List.getElem?_eq_getElem hn]
   rw[ct,f,C2,d,Ab hn,ct,Int.toNat_natCast,At Cg _ _ hn,e,A9b u.2,Gz,A8l,SA,en]
   simp only[i,Gz,A8l,xv,Bool.true_and]
 rw[show(k==4)=false by simpa using t,cf,if_neg t]
 by_cases x:k=5
 ·subst x
  rw[show((5:Int)==5)=true by rfl,ct,if_pos rfl]
  unfold RX
  dsimp only
  rw[ct,d]
  simp only[f,i,A8l,SA,Baw,xv]
 rw[show(k==5)=false by simpa using x,cf,if_neg x]
 unfold RX
 dsimp only
 by_cases y:k=7
 ·subst y
  rw[show((7:Int)==7)=true by rfl,ct,if_neg (by decide),if_pos rfl,d]
  simp only[f,i,A8l,SA,Baw,xv]
 rw[show(k==7)=false by simpa using y,cf]
 by_cases z:k=6
 ·subst z
  rw[show((6:Int)==6)=true by rfl,ct,if_pos rfl,d]
  simp only[f,i,Gz,A8l,SA,Baw,xv]
 rw[show(k==6)=false by simpa using z,cf,if_neg z,if_neg y]
 by_cases A:k=8
 ·subst A
  rw[show((8:Int)==8)=true by rfl,ct,if_pos rfl,d]
  simp only[f,i,Gr,j,Gz,A8l,SA,Baw,xv]
 rw[show(k==8)=false by simpa using A,cf,if_neg A]
end
end Gx.Cf

namespace Gx
open Go Go.Proofs
section
variable {R:Type}
theorem Axs:∀ (s:List UInt8) (acc k:Nat),acc<10 ^ k→s.length+k≤18→s.all Ez=true→Lib.parseUint10 acc s=.ok (acc*10 ^ s.length+Jg s)
 | [],acc,_,_,_,_=>by simp[Lib.parseUint10,Jg]
 | c::r,acc,k,l,j,d=>by
  simp only[List.all_cons,Bool.and_eq_true] at d
  have i:=d.1
  simp[Ez] at i
  simp only[List.length_cons] at j
  have b:10 ^ (k+1)≤10 ^ 18:=Nat.pow_le_pow_right (by omega) (by omega)
  rw[Nat.pow_succ] at b
  have e:acc*10+(c.toNat - 48)<10 ^ k*10:=by omega
  have f:(10:Nat) ^ 18=1000000000000000000:=by decide
  rw[f] at b
  rw[Lib.parseUint10,if_pos i,if_neg (by omega),if_neg (by omega),Axs r (acc*10+(c.toNat - 48)) (k+1) (by rw[Nat.pow_succ];exact e) (by omega) d.2,t7,List.length_cons,Nat.pow_succ,Nat.add_mul]
  congr 1
  rw[show acc*10*10 ^ r.length=acc*(10 ^ r.length*10) by rw[Nat.mul_assoc,Nat.mul_comm 10]]
  omega
theorem A5o {N:Nat} {s:List UInt8} {K:Int→O R} (hs:s.all Ez=true) (h0:s≠[]) (b:s.length≤18):EE N s K=K (Jg s:Int):=by
 have d:=qp hs
 have e:10 ^ s.length≤10 ^ 18:=Nat.pow_le_pow_right (by omega) b
 have f:(10:Nat) ^ 18=1000000000000000000:=by decide
 have key:Lib.atoiAll s=.ok (Jg s:Int):=by
  cases s with
  | nil=>exact absurd rfl h0
  | cons c r =>
   have i:Ez c=true:=by simp only[List.all_cons,Bool.and_eq_true] at hs;exact hs.1
   simp[Ez] at i
   rw[Lib.atoiAll_plain c r (by omega) (by omega),Lib.parseMag,if_neg h0,Axs (c::r) 0 0 (by decide) (by omega) hs,Nat.zero_mul,Nat.zero_add,Lib.signless,if_neg (by omega)]
 rw[Rc];unfold Sb
 rw[NS (by omega),ct,key]
theorem A9c (k:Nat):10 ^ k<4294967296 ^ (k+1):=A72 k
theorem A74 {v k:Nat} (h:v<10 ^ k):(Ba v).length≤k+1:=MW (Nat.lt_trans h (A9c k))
theorem xx {N:Nat} {c:Bool} {q:Nat} {S9:List Nat} {K:LA→O R} (X:Aw S9) (Y:val S9=10 ^ q) (hq:q=9):∀ (fuel j v:Nat) (g:List UInt8) (S:List Nat),g.length<fuel→g.all Ez=true→v<10 ^ j→(v=0∨g.length%9=0)→fit (j+g.length+20) N→Aw S→val S=v →
  J6 N K c false (Ba (10 ^ q)).length (Au S9) fuel g false (Ba v).length (Au S)=K (Jt (if c then -((v*10 ^ g.length+Jg g:Nat):Int) else ((v*10 ^ g.length+Jg g:Nat):Int))):=by
 intro fuel
 induction fuel with
 | zero=>intro j v g S h;omega
 | succ fuel ih =>
  intro j v g S hl u z i f hS hSv
  have f1:=f.1;have f2:=f.2
  have A:(Ba (10 ^ q)).length≤1:=by rw[hq];exact Bcc
  have hdv:=A74 z
  rw[J6];unfold MZ
  cases k:g with
  | nil =>
   rw[show(!(([]:List UInt8)==[]))=false by rfl,cf]
   rw[show v*10 ^ ([]:List UInt8).length+Jg []=v by simp[Jg]]
   cases c
   ·rw[cf,N7 hS hSv,if_neg (by simp)]
    congr 1
   ·rw[ct,N7 hS hSv,A84,A5e (RQ _ _ _) (f.le (by show(Ba v).length≤_;omega)),Bbs,show val (LS.of (Ba v) false true).l=v from Ax v,Int.natAbs_natCast,Bal,if_pos rfl]
    congr 1
    unfold Jt
    rw[Int.natAbs_neg,Int.natAbs_natCast];rfl
  | cons d r =>
   rw[←k]
   have m:g≠[]:=by rw[k];simp
   have G:=List.length_pos_iff.2 m
   rw[show(!(g==[]))=true by simp[m],ct]
   have step:∀ o:Nat,1≤o→o≤9→o≤g.length→(g.length - o)%9=0→(v=0∨o=q)→Vo N (J6 N K c false (Ba (10 ^ q)).length (Au S9) fuel) K c false (Ba (10 ^ q)).length (Au S9) g (o:Int) false (Ba v).length (Au S)=K (Jt (if c then -((v*10 ^ g.length+Jg g:Nat):Int) else ((v*10 ^ g.length+Jg g:Nat):Int))):=by
    intro o o1 o9 ol om oz
    have I:(g.take o).all Ez=true:=by
     rw[List.all_eq_true] at u ⊢;exact fun x C=>u x (List.mem_of_mem_take C)
    have b:(g.take o).length=o:=by rw[List.length_take];omega
    have n:(g.drop o).length=g.length - o:=List.length_drop ..
    have s:=qp I
    rw[b] at s
    have y:10 ^ o≤10 ^ q:=Nat.pow_le_pow_right (by omega) (by omega)
    have e9:10 ^ q=1000000000:=by rw[hq]
    obtain⟨S1,a1,a2,a3⟩:=A71 (R:=R) (N:=N) (s1:=.of (Ba v) false true) (s2:=.of (Ba (10 ^ q)) false true) (o1:=true) (o2:=true) (RQ _ _ _) (RQ _ _ _) (f.le (by have:=A;show(Ba v).length+(Ba (10 ^ q)).length≤_;omega))
    rw[show val (LS.of (Ba v) false true).l=v from Ax v,show val (LS.of (Ba (10 ^ q)) false true).l=10 ^ q from Ax _] at a2 a3
    obtain⟨S2,b1,L,M⟩:=Zu (R:=R) (N:=N) (v:=(Jg (g.take o):Int)) (by omega) (by omega)
    rw[Int.natAbs_natCast] at L M
    have hm:v*10 ^ q<10 ^ (j+q):=by rw[Nat.pow_add];exact Nat.mul_lt_mul_of_pos_right z (Nat.pow_pos (by omega))
    have hdm:=A74 hm
    have hdx:(Ba (Jg (g.take o))).length≤1:=MW (by omega)
    obtain⟨S3,c1,T,U⟩:=A5c (R:=R) (N:=N) (n1:=false) (n2:=false) (s1:=.of (Ba (v*10 ^ q)) false true) (s2:=.of (Ba (Jg (g.take o))) false true) (o1:=true) (o2:=true) (RQ _ _ _) (RQ _ _ _) (f.le (by show(Ba (v*10 ^ q)).length+(Ba (Jg (g.take o))).length+1≤_;omega))
    rw[Bbs,Bbs,show val (LS.of (Ba (v*10 ^ q)) false true).l=v*10 ^ q from Ax _,show val (LS.of (Ba (Jg (g.take o))) false true).l=Jg (g.take o) from Ax _,An3,Int.natAbs_natCast] at T U
    unfold Vo
    rw[show((decide ((0:Int)≤(0:Int)))&&((decide (0≤(o:Int)))&&((decide ((o:Int)≤(((g.length):Nat):Int)))&&(decide ((((g.length):Nat):Int)≤(((g.length):Nat):Int))))))=true by simp;omega,ct,Int.toNat_natCast]
    rw[A5o I (by intro e;rw[e] at b;simp at b;omega) (by omega)]
    rw[N7 hS hSv,N7 X Y,A84,A84,a3,M,N7 a1 a2,N7 b1 L,A84,show decide (((Jg (g.take o):Nat):Int)<0)=false by simp,A84,U]
    rw[show decide (((v*10 ^ q+Jg (g.take o):Nat):Int)<0)=false by rw[decide_eq_false_iff_not];omega]
    rw[show((decide (0≤(o:Int)))&&((decide ((o:Int)≤(((g.length):Nat):Int)))&&((decide ((((g.length):Nat):Int)≤(((g.length):Nat):Int)))&&(decide ((((g.length):Nat):Int)≤(((g.length):Nat):Int))))))=true by simp;omega,ct]
    rw[List.take_of_length_le (l:=g.drop o) (by omega)]
    have D:v*10 ^ q+Jg (g.take o)<10 ^ (j+q):=by
     rcases oz with oz | oz
     ·subst oz;rw[Nat.zero_mul,Nat.zero_add]
      have:10 ^ q≤10 ^ (j+q):=Nat.pow_le_pow_right (by omega) (by omega)
      omega
     ·have:(v+1)*10 ^ q≤10 ^ j*10 ^ q:=Nat.mul_le_mul_right _ z
      rw[Nat.add_mul,Nat.one_mul] at this
      rw[Nat.pow_add];omega
    have F:v*10 ^ q+Jg (g.take o)<10 ^ (j+o):=by
     rcases oz with oz | oz
     ·subst oz;rw[Nat.zero_mul,Nat.zero_add]
      have:10 ^ o≤10 ^ (j+o):=Nat.pow_le_pow_right (by omega) (by omega)
      omega
     ·rw[show j+o=j+q by rw[oz]];exact D
    rw[ih (j+o) (v*10 ^ q+Jg (g.take o)) (g.drop o) S3 (by omega) (by rw[List.all_eq_true] at u ⊢;exact fun x C=>u x (List.mem_of_mem_drop C)) F (.inr (by rw[n];exact om)) (f.le (by omega)) c1 T]
    have e:(v*10 ^ q+Jg (g.take o))*10 ^ (g.drop o).length+Jg (g.drop o)=v*10 ^ g.length+Jg g:=by
     have V:=fL (g.take o) (g.drop o)
     rw[List.take_append_drop] at V
     rw[V,Nat.add_mul,Nat.add_assoc]
     congr 1
     rcases oz with oz | oz
     ·subst oz;simp
     ·rw[Nat.mul_assoc,←Nat.pow_add,n];congr 2;omega
    rw[e]
   have t:Int.tmod ((g.length:Nat):Int) 9=((g.length%9:Nat):Int):=rfl
   rw[t]
   by_cases y:g.length%9=0
   ·rw[y,show((((0:Nat):Int))==0)=true by rfl,ct]
    exact step 9 (by omega) (by omega) (by omega) (by omega) (.inr hq.symm)
   ·rw[A9s y,cf]
    exact step (g.length%9) (by omega) (by omega) (Nat.mod_le _ _) (by omega) (.inl (by rcases i with i | i;exact i;exact absurd i y))
def NY (s:List UInt8):Int:=match s with
 | 45::r=>-((Jg r:Nat):Int)
 | s=>((Jg s:Nat):Int)
def NZ (s:List UInt8):Bool:=match s with
 | 45::r=>r.all Ez
 | s=>s.all Ez
theorem Axt {N:Nat} {s:List UInt8} {K:LA→O R} (hs:NZ s=true) (b:fit (s.length+30) N):FT N s K=K (Jt (NY s)):=by
 have i:=b.1;have k:=b.2
 obtain⟨S0,a1,a2,a3⟩:=Zu (R:=R) (N:=N) (v:=0) (by omega) (by omega)
 obtain⟨S,d,e,f⟩:=A5g (R:=R) (N:=N) (n:=9) (b.le (by omega))
 rw[ja];unfold TO
 by_cases h:s.head?=some 45
 ·obtain⟨r,rfl⟩:∃ r,s=45::r:=by
   cases s with
   | nil=>simp at h
   | cons c r=>simp at h;exact⟨r,by rw[h]⟩
  rw[kz,a3]
  refine Eq.trans (f _) ?_
  have:=xx (R:=R) (N:=N) (c:=true) (K:=K) d e rfl N 0 0 r S0 (by rw[List.length_cons] at i;omega) hs (by decide) (.inl rfl) (b.le (by rw[List.length_cons];omega)) a1 a2
  rw[Nat.zero_mul,Nat.zero_add] at this
  exact this
 ·have e1:NY s=((Jg s:Nat):Int):=by
   unfold NY
   split
   ·simp at h
   ·rfl
  have j:s.all Ez=true:=by
   rw[←hs];unfold NZ
   split
   ·simp at h
   ·rfl
  rw[fO h,a3]
  refine Eq.trans (f _) ?_
  have:=xx (R:=R) (N:=N) (c:=false) (K:=K) d e rfl N 0 0 s S0 (by omega) j (by decide) (.inl rfl) (b.le (by omega)) a1 a2
  rw[Nat.zero_mul,Nat.zero_add] at this
  rw[e1]
  exact this
theorem Amp {s:List UInt8} (h:Yl s=true):s.all Ez=true:=by
 simp only[Yl,A1a,Bool.and_eq_true] at h;exact h.1.1
theorem Are {s:List UInt8} (h:yo s=true):NZ s=true:=by
 by_cases h0:s.head?=some 45
 ·obtain⟨r,rfl⟩:∃ r,s=45::r:=by
   cases s with
   | nil=>simp at h0
   | cons c r=>simp at h0;exact⟨r,by rw[h0]⟩
  have h:(Yl r&&!(r==[48]))=true:=h
  simp only[Bool.and_eq_true] at h;exact Amp h.1
 ·have e1:yo s=Yl s:=by
   unfold yo;split
   ·simp at h0
   ·rfl
  have b:NZ s=s.all Ez:=by
   unfold NZ;split
   ·simp at h0
   ·rfl
  rw[b];rw[e1] at h;exact Amp h
theorem Amq {s:List UInt8} (h:s.all Ez=true):∀ c ∈ s,c.toNat<128:=by
 intro c b
 have:=List.all_eq_true.1 h c b
 simp[Ez] at this;omega
theorem A75 {s:List UInt8} (h:NZ s=true):∀ c ∈ s,c.toNat<128:=by
 unfold NZ at h
 split at h
 ·intro c b
  rcases List.mem_cons.1 b with rfl | b
  ·decide
  ·exact Amq h c b
 ·exact Amq h
theorem Ajj {N:Nat} {s:List UInt8} {K:LA→Int→O R} (hs:yo s=true) (b:fit (s.length+30) N):Un N s K=if 4096<Ajd s then K [(.bool false),.nsl] 8 else K (Jt (NY s)) 0:=by
 have c:=b.1;have d:=b.2
 rw[CF];unfold EH
 rw[lA (by omega),hs,show(!true)=false by rfl,cf,Aqj (A75 (Are hs)) (by omega) (by omega)]
 by_cases h:4096<Ajd s
 ·rw[decide_eq_true h,ct,if_pos h]
 ·rw[decide_eq_false h,cf,Axt (Are hs) b,Bcm,ct,Bbo,ct,Bca,if_neg h]
theorem Arf {N:Nat} {s:List UInt8} {K:LA→Int→O R} (hs:yo s=false) (b:fit (s.length+30) N):Un N s K=K [(.bool false),.nsl] 2:=by
 have c:=b.1
 rw[CF];unfold EH
 rw[lA (by omega),hs];rfl
end
end Gx

namespace Gx.Cf
open Go Go.Proofs
section
variable {R:Type}
theorem lT {N:Nat} {c:CaseD} {o:Bool} {K:Nat→Bool→LA→O R} (d:c.buses.l.length≤1000000):∀ (m j fuel:Nat),j+m=c.buses.l.length→m<fuel →
  Qn N K (c.buses.l.flatMap BusD.av) c.buses.l.length o fuel j (c.buses.l.length:Int) (j:Int) (Bg ((c.buses.l.take j).map (·.name)))=K c.buses.l.length true (Bg (c.buses.l.map (·.name)))
 | 0,j,fuel+1,e,_=>by
  rw[Qn];unfold FD
  have b:j=c.buses.l.length:=by omega
  rw[Jf (by omega),cf,List.take_of_length_le (by omega),b]
 | m+1,j,fuel+1,e,v=>by
  rw[Qn];unfold FD
  have h:j<c.buses.l.length:=by omega
  have i:(Nat.ble (j+1) 140737488355328&&Nat.ble ((j+1)*16) 140737488355328)=true:=by rw[Bs,Bs];simp;omega
  have k:List.take (j*1) (Bg ((c.buses.l.take j).map (·.name)))++[.str c.buses.l[j].name]=Bg ((c.buses.l.take (j+1)).map (·.name)):=by
   rw[List.take_of_length_le (by simp[Gt];omega),List.take_succ_eq_append_getElem h,List.map_append];simp[Bg]
  have n:List.drop (j*3) (List.flatMap BusD.av c.buses.l)=BusD.av c.buses.l[j]++(c.buses.l.drop (j+1)).flatMap BusD.av:=At Kb _ _ h
  have q:List.take 3 (BusD.av c.buses.l[j]++(c.buses.l.drop (j+1)).flatMap BusD.av)=BusD.av c.buses.l[j]:=rfl
  have s:∀ f:List UInt8→O R,Ts (BusD.av c.buses.l[j]) f=f c.buses.l[j].name:=fun f=>rfl
  have t:Nat.ble 3 (List.length (BusD.av c.buses.l[j]++(c.buses.l.drop (j+1)).flatMap BusD.av))=true:=by rw[Bs,List.length_append,Kb];simp
  have u:((Nat.beq 0 0)&&((Nat.beq (List.length (BusD.av c.buses.l[j])) 3)&&(Nat.beq 3 3)))=true:=rfl
  rw[Hy h,ct,Ab h,ct,Int.toNat_natCast,n,q,s,t,ct,u,ct,i,ct,k,wS (by omega),lT d m (j+1) fuel (by omega) (by omega)]
theorem A1n {N:Nat} {c:CaseD} {o:Bool} {K:Nat→Bool→LA→O R} (hs:Small c N):Ki N c.av o 1 K=K c.buses.l.length true (Bg (c.buses.l.map (·.name))):=by
 rw[Wl];unfold Yo
 have:=lT (R:=R) (N:=N) (c:=c) (o:=o) (K:=K) (by have:=hs.top;omega) c.buses.l.length 0 N (by omega) hs.bus.1
 rw[show((1:Int)==1)=true by rfl,ct,Gs]
 exact this
theorem lU {N:Nat} {c:CaseD} {o:Bool} {K:Nat→Bool→LA→O R} (d:c.units.l.length≤1000000):∀ (m j fuel:Nat),j+m=c.units.l.length→m<fuel →
  Qo N K (c.units.l.flatMap UnitD.av) c.units.l.length o fuel j (c.units.l.length:Int) (j:Int) (Bg ((c.units.l.take j).map (·.name)))=K c.units.l.length true (Bg (c.units.l.map (·.name)))
 | 0,j,fuel+1,e,_=>by
  rw[Qo];unfold FE
  have b:j=c.units.l.length:=by omega
  rw[Jf (by omega),cf,List.take_of_length_le (by omega),b]
 | m+1,j,fuel+1,e,v=>by
  rw[Qo];unfold FE
  have h:j<c.units.l.length:=by omega
  have i:(Nat.ble (j+1) 140737488355328&&Nat.ble ((j+1)*16) 140737488355328)=true:=by rw[Bs,Bs];simp;omega
  have k:List.take (j*1) (Bg ((c.units.l.take j).map (·.name)))++[.str c.units.l[j].name]=Bg ((c.units.l.take (j+1)).map (·.name)):=by
   rw[List.take_of_length_le (by simp[Gt];omega),List.take_succ_eq_append_getElem h,List.map_append];simp[Bg]
  have n:List.drop (j*22) (List.flatMap UnitD.av c.units.l)=UnitD.av c.units.l[j]++(c.units.l.drop (j+1)).flatMap UnitD.av:=At Cg _ _ h
  have q:List.take 22 (UnitD.av c.units.l[j]++(c.units.l.drop (j+1)).flatMap UnitD.av)=UnitD.av c.units.l[j]:=rfl
  have s:∀ f:List UInt8→O R,Ts (UnitD.av c.units.l[j]) f=f c.units.l[j].name:=fun f=>rfl
  have t:Nat.ble 22 (List.length (UnitD.av c.units.l[j]++(c.units.l.drop (j+1)).flatMap UnitD.av))=true:=by rw[Bs,List.length_append,Cg];simp
  have u:((Nat.beq 0 0)&&((Nat.beq (List.length (UnitD.av c.units.l[j])) 22)&&(Nat.beq 22 22)))=true:=rfl
  rw[Hy h,ct,Ab h,ct,Int.toNat_natCast,n,q,s,t,ct,u,ct,i,ct,k,wS (by omega),lU d m (j+1) fuel (by omega) (by omega)]
theorem A1o {N:Nat} {c:CaseD} {o:Bool} {K:Nat→Bool→LA→O R} (hs:Small c N):Ki N c.av o 2 K=K c.units.l.length true (Bg (c.units.l.map (·.name))):=by
 rw[Wl];unfold Yo
 have:=lU (R:=R) (N:=N) (c:=c) (o:=o) (K:=K) (by have:=hs.top;omega) c.units.l.length 0 N (by omega) hs.uni.1
 rw[show((2:Int)==1)=false by rfl,cf,show((2:Int)==2)=true by rfl,ct,C2]
 exact this
theorem lV {N:Nat} {c:CaseD} {o:Bool} {K:Nat→Bool→LA→O R} (d:c.lines.l.length≤1000000):∀ (m j fuel:Nat),j+m=c.lines.l.length→m<fuel →
  Qp N K (c.lines.l.flatMap LineD.av) c.lines.l.length o fuel j (c.lines.l.length:Int) (j:Int) (Bg ((c.lines.l.take j).map (·.name)))=K c.lines.l.length true (Bg (c.lines.l.map (·.name)))
 | 0,j,fuel+1,e,_=>by
  rw[Qp];unfold FF
  have b:j=c.lines.l.length:=by omega
  rw[Jf (by omega),cf,List.take_of_length_le (by omega),b]
 | m+1,j,fuel+1,e,v=>by
  rw[Qp];unfold FF
  have h:j<c.lines.l.length:=by omega
  have i:(Nat.ble (j+1) 140737488355328&&Nat.ble ((j+1)*16) 140737488355328)=true:=by rw[Bs,Bs];simp;omega
  have k:List.take (j*1) (Bg ((c.lines.l.take j).map (·.name)))++[.str c.lines.l[j].name]=Bg ((c.lines.l.take (j+1)).map (·.name)):=by
   rw[List.take_of_length_le (by simp[Gt];omega),List.take_succ_eq_append_getElem h,List.map_append];simp[Bg]
  have n:List.drop (j*12) (List.flatMap LineD.av c.lines.l)=LineD.av c.lines.l[j]++(c.lines.l.drop (j+1)).flatMap LineD.av:=At Ce _ _ h
  have q:List.take 12 (LineD.av c.lines.l[j]++(c.lines.l.drop (j+1)).flatMap LineD.av)=LineD.av c.lines.l[j]:=rfl
  have s:∀ f:List UInt8→O R,Ts (LineD.av c.lines.l[j]) f=f c.lines.l[j].name:=fun f=>rfl
  have t:Nat.ble 12 (List.length (LineD.av c.lines.l[j]++(c.lines.l.drop (j+1)).flatMap LineD.av))=true:=by rw[Bs,List.length_append,Ce];simp
  have u:((Nat.beq 0 0)&&((Nat.beq (List.length (LineD.av c.lines.l[j])) 12)&&(Nat.beq 12 12)))=true:=rfl
  rw[Hy h,ct,Ab h,ct,Int.toNat_natCast,n,q,s,t,ct,u,ct,i,ct,k,wS (by omega),lV d m (j+1) fuel (by omega) (by omega)]
theorem A1p {N:Nat} {c:CaseD} {o:Bool} {K:Nat→Bool→LA→O R} (hs:Small c N):Ki N c.av o 3 K=K c.lines.l.length true (Bg (c.lines.l.map (·.name))):=by
 rw[Wl];unfold Yo
 have:=lV (R:=R) (N:=N) (c:=c) (o:=o) (K:=K) (by have:=hs.top;omega) c.lines.l.length 0 N (by omega) hs.lin.1
 rw[show((3:Int)==1)=false by rfl,cf,show((3:Int)==2)=false by rfl,cf,show((3:Int)==3)=true by rfl,ct,Ef]
 exact this
theorem A1q {N:Nat} {c:CaseD} {o:Bool} {f:Int} {K:Nat→Bool→LA→O R} (b:f≠1) (d:f≠2) (e:f≠3):Ki N c.av o f K=K 0 false []:=by
 rw[Wl];unfold Yo
 rw[show(f==1)=false by simpa using b,cf,show(f==2)=false by simpa using d,cf,show(f==3)=false by simpa using e,cf]
theorem A9w {N:Nat} {z:Int} {K:List UInt8→O R} (h:-9223372036854775808≤z∧z≤9223372036854775807):strconv_Itoa N z K=K (Af3 z):=by
 rw[Ra];unfold Sa
 rw[show(decide (-9223372036854775808≤z)&&decide (z≤9223372036854775807))=true by simp;omega,ct]
 congr 1
 unfold Lib.itoa Af3 A9a
 by_cases b:z<0
 ·rw[if_pos b,if_pos b]
 ·rw[if_neg b,if_neg b];unfold Aqf
  first | rfl | (rw[show z.toNat=z.natAbs by omega])
theorem A5p {N:Nat} {z:Int} {o:Bool} {K:Int→Bool→O R} (d:fit (Ba z.natAbs).length N) (i:¬ (-9223372036854775808≤z∧z≤9223372036854775807)):Z7 N (Jt z) o K=K 0 false:=by
 have e:Jt z=U9 (decide (z<0)) (.of (Ba z.natAbs) false false):=rfl
 have f:=Av z.natAbs
 rw[e,TL];unfold PC
 rw[RP]
 show FR N (Au (Ba z.natAbs)) (Ba z.natAbs).length false o _=_
 rw[xH rfl f d,Ax]
 by_cases b:z.natAbs<18446744073709551616
 ·rw[if_pos b,show(!true)=false by rfl,cf,FC]
  by_cases c:z<0
  ·rw[decide_eq_true c,show(true==true)=true by rfl,ct,show cond true (decide (((z.natAbs:Nat):Int)≤9223372036854775808)) false=false by rw[cond_true];exact decide_eq_false (by omega)]
   dsimp only
   unfold Po
   rw[cf,FC];rfl
  ·rw[decide_eq_false c,show(false==true)=false by rfl,cf]
   dsimp only
   unfold Po
   rw[cf,FC,show((!false)==true)=true by rfl,ct,show cond true (decide (((z.natAbs:Nat):Int)<9223372036854775808)) false=false by rw[cond_true];exact decide_eq_false (by omega),cf]
 ·rw[if_neg b];rfl
end
end Gx.Cf

namespace Gx
open Go Go.Proofs
section
variable {R:Type}
theorem mw (c b:UInt8) (l:List UInt8):Lib.index (b::l) [c]=if c=b then 0 else if Lib.index l [c]=-1 then -1 else Lib.index l [c]+1:=by
 rw[Lib.index]
 have f:([c].isPrefixOf (b::l)=true)↔c=b:=by simp[List.isPrefixOf]
 by_cases h:c=b
 ·rw[if_pos (f.2 h),if_pos h]
 ·rw[if_neg (fun e=>h (f.1 e)),if_neg h]
  by_cases d:Lib.index l [c]=-1
  ·rw[d];rfl
  ·rw[if_neg (by simpa using d),if_neg d]
theorem r9 (c:UInt8):∀ s:List UInt8,c ∉ s→Lib.index s [c]=-1
 | [],_=>rfl
 | b::l,h=>by
  rw[mw,if_neg (fun e=>h (by simp[e])),r9 c l (fun e=>h (by simp[e])),if_pos rfl]
theorem Agm (c:UInt8) (b:List UInt8):∀ a:List UInt8,c ∉ a→Lib.index (a++c::b) [c]=(a.length:Int)
 | [],_=>by rw[List.nil_append,mw,if_pos rfl];rfl
 | d::l,h=>by
  have:=Agm c b l (fun e=>h (by simp[e]))
  rw[List.cons_append,mw,if_neg (fun e=>h (by simp[e])),this,if_neg (by omega),List.length_cons];omega
theorem Ban {c:UInt8} {s:List UInt8} (h:c ∉ s):Lib.cut s [c]=(s,[],false):=by
 unfold Lib.cut;rw[r9 c s h,if_neg (by omega)]
theorem Bao {c:UInt8} {a b:List UInt8} (h:c ∉ a):Lib.cut (a++c::b) [c]=(a,b,true):=by
 unfold Lib.cut;rw[Agm c b a h,if_pos (by omega),Int.toNat_natCast]
 rw[List.take_left,List.length_singleton,←List.drop_drop,List.drop_left];rfl
theorem Bbt {N:Nat} {s t:List UInt8} {K:List UInt8→List UInt8→Bool→O R} (h:s.length≤4294967280):strings_Cut N s t K=K (Lib.cut s t).1 (Lib.cut s t).2.1 (Lib.cut s t).2.2:=by
 rw[Tf];unfold Vl;rw[NS h,ct]
end
end Gx

namespace Gx.Cf
open Go Go.Proofs
section
variable {R:Type}
def lW (c:UInt8):List UInt8→List (List UInt8)
 | []=>[[]]
 | b::r=>if b=c then []::lW c r else match lW c r with | []=>[[b]] | w::ws=>(b::w)::ws
theorem Bap (c:UInt8):∀ s,lW c s≠[]
 | []=>by simp[lW]
 | b::r=>by
  rw[lW]
  split
  ·simp
  ·split<;>simp
theorem A1r {c:UInt8}:∀ {s:List UInt8},c ∉ s→lW c s=[s]
 | [],_=>rfl
 | b::r,h=>by
  rw[lW,if_neg (fun e=>h (by simp[e])),A1r (fun hr=>h (List.mem_cons_of_mem _ hr))]
theorem A1s {c:UInt8} {b:List UInt8}:∀ {a:List UInt8},c ∉ a→lW c (a++c::b)=a::lW c b
 | [],_=>by rw[List.nil_append,lW,if_pos rfl]
 | x::r,h=>by
  rw[List.cons_append,lW,if_neg (fun e=>h (by simp[e])),A1s (fun hr=>h (List.mem_cons_of_mem _ hr))]
theorem ti {c:UInt8}:∀ {s:List UInt8},c ∈ s→∃ a b,s=a++c::b∧c ∉ a
 | x::r,h=>by
  by_cases e:c=x
  ·exact⟨[],r,by rw[e];rfl,by simp⟩
  ·obtain⟨a,b,d,f⟩:=ti (s:=r) (by rcases List.mem_cons.1 h with h | h;exact absurd h e;exact h)
   exact⟨x::a,b,by rw[d];rfl,by simp[e,f]⟩
theorem A5q (c:UInt8):∀ (n:Nat) (s:List UInt8),s.length≤n→Lib.splitK [c] 0 (Lib.count s [c]) s=lW c s:=by
 intro n
 induction n with
 | zero =>
  intro s hs
  have:s=[]:=List.eq_nil_of_length_eq_zero (by omega)
  subst this
  rw[Lib.count_miss (r9 c [] (by simp))];rfl
 | succ n j =>
  intro s hs
  by_cases h:c ∈ s
  ·obtain⟨a,b,rfl,d⟩:=ti h
   have hi:=Agm c b a d
   have e:List.drop (a.length+[c].length) (a++c::b)=b:=by
    rw[←List.drop_drop,List.drop_left];rfl
   rw[List.length_append,List.length_cons] at hs
   have f:=Lib.count_hit (s:=a++c::b) (sub:=[c]) (i:=a.length) (by simp) hi
   rw[e] at f
   rw[f,Nat.add_comm 1,Lib.splitK,hi,if_neg (by simp),Int.toNat_natCast,e,j b (by omega),Nat.add_zero,List.take_left,A1s d]
  ·rw[Lib.count_miss (r9 c s h),A1r h];rfl
theorem A5r (c:UInt8) (s:List UInt8):NT s [c]=lW c s:=by
 unfold NT
 have:=Lib.splitB_data ⟨⟨[c]⟩⟩ 0 (Lib.countB ⟨⟨s⟩⟩ ⟨⟨[c]⟩⟩) ⟨⟨s⟩⟩
 rw[this]
 exact A5q c s.length s (Nat.le_refl _)
theorem zP {c:UInt8}:∀ s:List UInt8,(lW c s).length≤s.length+1
 | []=>by simp[lW]
 | b::r=>by
  have:=zP (c:=c) r
  rw[lW]
  split
  ·simp;omega
  ·split
   ·simp
   ·rename_i e;rw[e] at this;simp at this ⊢;omega
def L8 (w:List UInt8):Bool:=!(w==[])
def IP (line:List UInt8):List (List UInt8):=(lW 32 (Lib.cut line [35]).1).filter L8
theorem Arg (s t:List UInt8):(Lib.cut s t).1.length≤s.length:=by
 unfold Lib.cut
 split
 ·rw[List.length_take];omega
 ·exact Nat.le_refl _
theorem lX {N:Nat} {w:List UInt8} {K:Bool→O R}:Rm N w K=K (w==[]):=by rw[RK];rfl
theorem Arh {l:List (List UInt8)} {j:Nat} (h:j<l.length) {f:List UInt8→O R}:Ts (List.drop j (Bg l)) f=f l[j]:=by
 have:List.drop j (Bg l)=.str l[j]::Bg (l.drop (j+1)):=by
  unfold Bg
  rw[←List.map_drop,List.drop_eq_getElem_cons h];rfl
 rw[this];rfl
theorem A3c {N:Nat} {l:List (List UInt8)} {o o':Bool} (k:l.length≤1000000000):∀ (m j fuel:Nat),j+m=l.length→m<fuel→(∀ i (h:i<l.length),i<j→l[i]≠[]) →
  (∃ g,∃ h:g<l.length,l[g]=[]∧(∀ i (h:i<l.length),i<g→l[i]≠[])∧∀ K:Int→O R,Ay N K (Bg l) l.length o o' fuel (l.length:Int) (j:Int)=K (g:Int)) ∨
  ((∀ i (h:i<l.length),l[i]≠[])∧∀ K:Int→O R,Ay N K (Bg l) l.length o o' fuel (l.length:Int) (j:Int)=K (-1))
 | 0,j,fuel+1,n,_,b=>by
  refine .inr ⟨fun i h=>b i h (by omega),fun K=>?_⟩
  rw[Ay];unfold Cy
  rw[Jf (by omega),cf]
 | m+1,j,fuel+1,n,u,b=>by
  have h:j<l.length:=by omega
  have step:∀ K:Int→O R,Ay N K (Bg l) l.length o o' (fuel+1) (l.length:Int) (j:Int)=cond (l[j]==[]) (K (j:Int)) (Ay N K (Bg l) l.length o o' fuel (l.length:Int) ((j+1:Nat):Int)):=fun K=>by
   rw[Ay];unfold Cy
   rw[Hy h,ct,Ab h,ct,Int.toNat_natCast,Nat.mul_one,Arh h,lX,wS (by omega)]
  by_cases e:l[j]=[]
  ·exact .inl ⟨j,h,e,b,fun K=>by rw[step,e];rfl⟩
  ·have f:(l[j]==[])=false:=by simpa using e
   rcases A3c k m (j+1) fuel (by omega) (by omega) (fun i hi q=>by
    by_cases e3:i=j
    ·subst e3;exact e
    ·exact b i hi (by omega)) with⟨g,c,d,s,t⟩ | ⟨c,d⟩
   ·exact .inl ⟨g,c,d,s,fun K=>by rw[step,f];exact t K⟩
   ·exact .inr ⟨c,fun K=>by rw[step,f];exact d K⟩
end
end Gx.Cf

namespace Gx.Cf
open Go Go.Proofs
section
variable {R:Type}
def mz (n:Nat):LA:=List.replicate n (.str [])
theorem F_ (l:List (List UInt8)) (j:Nat):List.take j (Bg l)=Bg (l.take j):=by unfold Bg;rw[List.map_take]
theorem F' (l:List (List UInt8)) (j:Nat):List.drop j (Bg l)=Bg (l.drop j):=by unfold Bg;rw[List.map_drop]
theorem A76 (l m:List (List UInt8)):Bg (l++m)=Bg l++Bg m:=by unfold Bg;rw[List.map_append]
theorem Agn {l:List (List UInt8)} (h:∀ i (h:i<l.length),l[i]≠[]):l.filter L8=l:=by
 rw[List.filter_eq_self]
 intro w b
 obtain⟨i,hi,rfl⟩:=List.getElem_of_mem b
 have:=h i hi
 unfold L8;simpa using this
theorem A5s (A:List (List UInt8)) (x:List UInt8) (D:LA):List.take (A.length+1) (Bg A++.str x::D)=Bg A++Bg [x]:=by
 have e:Bg A++.str x::D=(Bg A++Bg [x])++D:=by simp[Bg]
 rw[e,List.take_left' (by simp[Bg])]
theorem Ago {N:Nat} {l:List (List UInt8)} {d0:LA} (q:l.length≤1000000000):∀ (m e fuel:Nat) (f:LA),e+m=l.length→m<fuel→f.length=l.length→f.take ((l.take e).filter L8).length=Bg ((l.take e).filter L8)→f.drop e=Bg (l.drop e) →
  ∀ K:Nat→LA→O R,Bd N K l.length d0 fuel (((l.take e).filter L8).length:Int) (e:Int) f=K (l.filter L8).length (Bg (l.filter L8)++mz (l.length - (l.filter L8).length))
 | 0,e,fuel+1,f,u,_,i,c,j,K=>by
  have v:e=l.length:=by omega
  have x:l.take e=l:=List.take_of_length_le (by omega)
  rw[x] at c ⊢
  have k:=List.length_filter_le L8 l
  rw[Bd];unfold Cq
  rw[Jf (by omega),cf]
  rw[show((decide (0≤((l.filter L8).length:Int)))&&((decide (((l.filter L8).length:Int)≤((l.length:Nat):Int)))&&((decide (((l.length:Nat):Int)≤((l.length:Nat):Int)))&&(decide (((l.length:Nat):Int)≤((l.length:Nat):Int))))))=true by simp;omega,ct]
  rw[show((decide ((0:Int)≤(0:Int)))&&((decide (0≤((l.filter L8).length:Int)))&&((decide (((l.filter L8).length:Int)≤((l.length:Nat):Int)))&&(decide (((l.length:Nat):Int)≤((l.length:Nat):Int))))))=true by simp;omega,ct]
  rw[Int.toNat_natCast,Nat.mul_one,Nat.zero_add]
  have hs:C4 f (l.filter L8).length (List.replicate (l.length - (l.filter L8).length) (.str []))=Bg (l.filter L8)++mz (l.length - (l.filter L8).length):=by
   unfold C4 mz
   rw[c,List.length_replicate,List.drop_eq_nil_of_le (by omega),List.append_nil]
  rw[hs]
 | m+1,e,fuel+1,f,u,y,i,c,j,K=>by
  have h:e<l.length:=by omega
  have k:((l.take e).filter L8).length≤e:=by
   have:=List.length_filter_le L8 (l.take e)
   rw[List.length_take] at this;omega
  have s:l.take (e+1)=l.take e++[l[e]]:=List.take_succ_eq_append_getElem h
  have n:∀ F:List UInt8→O R,Ts (List.drop (0+(e*1)) f) F=F l[e]:=fun F=>by
   rw[Nat.zero_add,Nat.mul_one,j,List.drop_eq_getElem_cons h];rfl
  rw[Bd];unfold Cq
  rw[Hy h,ct,Ab h,ct,Int.toNat_natCast,n,lX,wS (by omega)]
  cases t:(l[e]==[]) with
  | true =>
   have b:(l.take (e+1)).filter L8=(l.take e).filter L8:=by
    rw[s,List.filter_append,List.filter_cons]
    have:L8 l[e]=false:=by unfold L8;rw[t];rfl
    rw[if_neg (by simp[this])];simp
   rw[show(!true)=false by rfl,cf,wS (by omega)]
   have:=Ago (N:=N) (d0:=d0) q m (e+1) fuel f (by omega) (by omega) i (by rw[b];exact c) (by rw[←List.drop_drop,j,F',List.drop_drop]) K
   rw[b] at this
   exact this
  | false =>
   have b:(l.take (e+1)).filter L8=(l.take e).filter L8++[l[e]]:=by
    rw[s,List.filter_append,List.filter_cons]
    have:L8 l[e]=true:=by unfold L8;rw[t];rfl
    rw[if_pos this];simp
   rw[show(!false)=true by rfl,ct,Ab (show((l.take e).filter L8).length<l.length by omega),ct,Int.toNat_natCast,Nat.mul_one,Nat.zero_add]
   rw[show((Nat.beq 1 1)&&((Nat.ble (((l.take e).filter L8).length+1) f.length)&&true))=true by rw[Bs,i];simp;omega,ct,wS (by omega)]
   have d:f.set ((l.take e).filter L8).length (.str l[e])=Bg ((l.take e).filter L8)++.str l[e]::f.drop (((l.take e).filter L8).length+1):=by
    rw[List.set_eq_take_append_cons_drop,if_pos (by omega),c]
   have:=Ago (N:=N) (d0:=d0) q m (e+1) fuel (f.set ((l.take e).filter L8).length (.str l[e])) (by omega) (by omega) (by rw[List.length_set,i])
    (by rw[b,d,List.length_append,List.length_singleton,A76];exact A5s _ _ _)
    (by rw[List.drop_set,if_pos (by omega),←List.drop_drop,j,F',List.drop_drop]) K
   rw[b,List.length_append,List.length_singleton] at this
   exact this
theorem A77 {N:Nat} {l:List (List UInt8)} (j:l.length≤1000000000) (hN:l.length+1≤N) (K:Nat→LA→O R):Bw N l.length (Bg l) K=K (l.filter L8).length (Bg (l.filter L8)++mz (l.length - (l.filter L8).length)):=by
 rw[Hi];unfold De
 rw[Nat.mul_one,F_,List.take_length,H8];unfold Dp
 rcases A3c (R:=R) (N:=N) (l:=l) (o:=false) (o':=true) j l.length 0 N (by omega) (by omega) (fun i h hi=>by omega) with⟨g,k,m,d,e⟩ | ⟨d,e⟩
 ·refine(e _).trans ?_
  rw[show(((g:Nat):Int)==-1)=false by rw[beq_eq_false_iff_ne];omega,cf,wS (by omega)]
  have f:(l.take g).filter L8=l.take g:=Agn (fun i hi=>by
   rw[List.getElem_take]
   rw[List.length_take] at hi
   exact d i (by omega) (by omega))
  have b:(l.take (g+1)).filter L8=l.take g:=by
   rw[List.take_succ_eq_append_getElem k,List.filter_append,f,List.filter_cons]
   have:L8 l[g]=false:=by unfold L8;rw[m];rfl
   rw[if_neg (by simp[this])];simp
  have c:(l.take g).length=g:=by rw[List.length_take];omega
  have:=Ago (R:=R) (N:=N) (l:=l) (d0:=Bg l) j (l.length - (g+1)) (g+1) N (Bg l) (by omega) (by omega) (Gt l) (by rw[b,F_,c]) (F' _ _) K
  rw[b,c] at this
  exact this
 ·refine(e _).trans ?_
  rw[show(((-1:Int))==-1)=true by rfl,ct,Agn d,Nat.sub_self]
  unfold mz
  rw[List.replicate_zero,List.append_nil]
theorem Ajk {N:Nat} {line:List UInt8} (b:line.length≤100000000) (hN:line.length+3≤N) (K:Nat→LA→O R):fP N line K=K (IP line).length (Bg (IP line)++mz ((lW 32 (Lib.cut line [35]).1).length - (IP line).length)):=by
 have d:=Arg line [35]
 have e:=zP (c:=32) (Lib.cut line [35]).1
 rw[qs];unfold td
 rw[Bbt (by omega),Pd];unfold Qm
 rw[show(Nat.ble (Lib.cut line [35]).1.length 4294967280&&Nat.ble 1 ([32]:List UInt8).length)=true by simp;omega,ct,A5r]
 exact A77 (by omega) (by omega) K
end
end Gx.Cf

namespace Gx.Cf
open Go Go.Proofs
section
variable {R:Type}
def Bax (z:Int):Bool:=decide (-9223372036854775808≤z)&&decide (z≤9223372036854775807)
def A78 (w:List UInt8):Int×Bool:=if 4096<Ajd w then (0,false) else if Bax (NY w)=true then (NY w,true) else (0,false)
theorem A9d {w:List UInt8} (h:NZ w=true):(NY w).natAbs<10 ^ w.length:=by
 by_cases h0:w.head?=some 45
 ·obtain⟨r,rfl⟩:∃ r,w=45::r:=by
   cases w with
   | nil=>simp at h0
   | cons c r=>simp at h0;exact⟨r,by rw[h0]⟩
  have hr:r.all Ez=true:=h
  have b:=qp hr
  show(-((Jg r:Nat):Int)).natAbs<_
  rw[Int.natAbs_neg,Int.natAbs_natCast,List.length_cons]
  exact Nat.lt_of_lt_of_le b (Nat.pow_le_pow_right (by decide) (by omega))
 ·have e1:NZ w=w.all Ez:=by
   unfold NZ;split
   ·exact absurd rfl h0
   ·rfl
  have d:NY w=((Jg w:Nat):Int):=by
   unfold NY;split
   ·exact absurd rfl h0
   ·rfl
  rw[e1] at h
  rw[d,Int.natAbs_natCast]
  exact qp h
theorem A1t {N:Nat} {z:Int} {o:Bool} {K:Int→Bool→O R} (b:fit (Ba z.natAbs).length N):Z7 N (Jt z) o K=if Bax z=true then K z true else K 0 false:=by
 by_cases h:Bax z=true
 ·rw[if_pos h]
  have e:Jt z=U9 (decide (z<0)) (.of (Ba z.natAbs) false false):=rfl
  rw[e,Aws (RQ _ _ _) b (by rw[qq];unfold Bax at h;simpa using h),qq]
 ·rw[if_neg h]
  exact A5p b (by unfold Bax at h;simpa using h)
theorem Agp {N:Nat} {w:List UInt8} {K:Int→Bool→Int→O R} (d:w.length≤100000000) (c:fit (w.length+30) N):RV N w K=if yo w=true then K (A78 w).1 (A78 w).2 0 else K 0 false 2:=by
 rw[lB];unfold mo
 cases hn:yo w with
 | false=>rw[Arf hn c,if_neg (by simp)];rfl
 | true =>
  rw[Ajj hn c,if_pos rfl]
  unfold A78
  by_cases b:4096<Ajd w
  ·rw[if_pos b,if_pos b];rfl
  ·rw[if_neg b,if_neg b]
   have e:=A74 (A9d (Are hn))
   rw[Bcm,ct,show((0:Int)==8)=false by rfl,cf,show((0:Int) != 0)=false by rfl,cf,Bbo,ct,Bca,A1t (c.le (by omega))]
   by_cases hr:Bax (NY w)=true
   ·rw[if_pos hr,if_pos hr]
   ·rw[if_neg hr,if_neg hr]
def K6 (c:CaseD) (f:Int):Option (List (List UInt8)):=if f=1 then some (c.buses.l.map (·.name)) else if f=2 then some (c.units.l.map (·.name)) else if f=3 then some (c.lines.l.map (·.name)) else none
theorem N_ {N:Nat} {c:CaseD} {o:Bool} {f:Int} {K:Nat→Bool→LA→O R} (hs:Small c N):Ki N c.av o f K=match K6 c f with | some l=>K l.length true (Bg l) | none=>K 0 false []:=by
 unfold K6
 by_cases b:f=1
 ·subst b;rw[A1n hs,if_pos rfl];simp
 by_cases d:f=2
 ·subst d;rw[A1o hs,if_neg (by decide),if_pos rfl];simp
 by_cases e:f=3
 ·subst e;rw[A1p hs,if_neg (by decide),if_neg (by decide),if_pos rfl];simp
 rw[A1q b d e,if_neg b,if_neg d,if_neg e]
def Wy:List (List UInt8)→List UInt8→Int
 | [],_=>-1
 | x::r,w=>if w=x then 0 else if Wy r w<0 then -1 else Wy r w+1
theorem r_ (l:List (List UInt8)) (w:List UInt8):-1≤Wy l w:=by
 induction l with
 | nil=>simp[Wy]
 | cons x r b=>rw[Wy];split;omega;split<;>omega
theorem Amr {N:Nat} {l:List (List UInt8)} {o o':Bool} {w:List UInt8} {K:Int→O R} (b:l.length≤1000000000):∀ (m j fuel:Nat),j+m=l.length→m<fuel →
  Bl N K (Bg l) l.length o o' w fuel (l.length:Int) (j:Int)=K (if Wy (l.drop j) w<0 then -1 else (j:Int)+Wy (l.drop j) w)
 | 0,j,fuel+1,c,_=>by
  rw[Bl];unfold Dv
  rw[Jf (by omega),cf,C9 (by omega)];rfl
 | m+1,j,fuel+1,c,f=>by
  have h:j<l.length:=by omega
  have d:=r_ (l.drop (j+1)) w
  rw[Bl];unfold Dv
  rw[Hy h,ct,Ab h,ct,Int.toNat_natCast,Nat.mul_one,Arh h,wS (by omega),Amr b m (j+1) fuel (by omega) (by omega),List.drop_eq_getElem_cons h,Wy]
  by_cases e:w=l[j]
  ·rw[show(w==l[j])=true by simpa using e,ct,if_pos e];simp
  ·rw[show(w==l[j])=false by simpa using e,cf,if_neg e]
   by_cases h0:Wy (l.drop (j+1)) w<0
   ·rw[if_pos h0,if_pos h0];rfl
   ·rw[if_neg h0,if_neg h0,if_neg (by omega)]
    congr 1;omega
theorem A1u {N:Nat} {l:List (List UInt8)} {o o':Bool} {w:List UInt8} {K:Int→O R} (b:l.length≤1000000000) (hN:l.length+1≤N):Cm N (Bg l) l.length o o' w K=K (Wy l w):=by
 rw[Lc];unfold En
 have:=Amr (R:=R) (N:=N) (l:=l) (o:=o) (o':=o') (w:=w) (K:=K) b l.length 0 N (by omega) (by omega)
 have c:=r_ l w
 refine this.trans ?_
 rw[List.drop_zero]
 congr 1
 split<;>omega
end
end Gx.Cf

namespace Gx.Cf
open Go Go.Proofs
section
variable {R:Type}
def Nr:List (List UInt8):=[[100,101,109,97,110,100],[116,114,105,112],[108,105,110,101],[111,102,102,101,114],[115,116,101,112],[99,114,97,115,104],[98,111,111,116],[114,101,116,114,121]]
theorem ML {N:Nat} {row:LA} {w0 w:List UInt8} {r:List (List UInt8)} {b o o':Bool} {K:Bool→O R} (c:∀ F:List UInt8→O R,Ts (row.drop 1) F=F w0):Wk N row b (Bg (w::r)) (r.length+1) o o' K=K (w0==w):=by
 rw[RT];unfold NU
 rw[c,show Ae (0:Int) (r.length+1)=true from Ab (i:=0) (by omega),ct];rfl
theorem A5t {N n i:Nat} {w:List UInt8} {r:List (List UInt8)} {o o':Bool} {K:Int→O R} (h:i<8):A0 N K 8 yr (Bg (w::r)) (r.length+1) o o' (n+1) 8 (i:Int)=cond (Nr.getD i []==w) (K (i:Int)) (A0 N K 8 yr (Bg (w::r)) (r.length+1) o o' n 8 ((i+1:Nat):Int)):=by
 rw[A0];unfold Cl
 rcases i with _ | _ | _ | _ | _ | _ | _ | _ | i
 ·exact(ML (row:=Ig 0) (fun _=>rfl)).trans rfl
 ·exact(ML (row:=Ig 1) (fun _=>rfl)).trans rfl
 ·exact(ML (row:=Ig 2) (fun _=>rfl)).trans rfl
 ·exact(ML (row:=Ig 3) (fun _=>rfl)).trans rfl
 ·exact(ML (row:=Ig 4) (fun _=>rfl)).trans rfl
 ·exact(ML (row:=Ig 5) (fun _=>rfl)).trans rfl
 ·exact(ML (row:=Ig 6) (fun _=>rfl)).trans rfl
 ·exact(ML (row:=Ig 7) (fun _=>rfl)).trans rfl
 ·omega
theorem Axu {N:Nat} {w:List UInt8} {r:List (List UInt8)} {o o':Bool} {K:Int→O R}:∀ (m i fuel:Nat),i+m=8→m<fuel →
  A0 N K 8 yr (Bg (w::r)) (r.length+1) o o' fuel 8 (i:Int)=K (if Wy (Nr.drop i) w<0 then -1 else (i:Int)+Wy (Nr.drop i) w)
 | 0,i,fuel+1,hi,_=>by
  obtain rfl:i=8:=by omega
  rw[A0];unfold Cl
  rfl
 | m+1,i,fuel+1,hi,c=>by
  have h:i<Nr.length:=by show i<8;omega
  have b:=r_ (Nr.drop (i+1)) w
  rw[A5t (by omega),Axu m (i+1) fuel (by omega) (by omega),List.drop_eq_getElem_cons h,Wy,List.getD_eq_getElem?_getD,List.getElem?_eq_getElem h]
  by_cases e:w=Nr[i]
  ·rw[show((some Nr[i]).getD []==w)=true by rw[Option.getD_some,←e];simp,ct,if_pos e];simp
  ·rw[show((some Nr[i]).getD []==w)=false by rw[Option.getD_some];simpa using fun h=>e h.symm,cf,if_neg e]
   by_cases h0:Wy (Nr.drop (i+1)) w<0
   ·rw[if_pos h0,if_pos h0];rfl
   ·rw[if_neg h0,if_neg h0,if_neg (by omega)]
    congr 1;omega
theorem A5u {N:Nat} {w:List UInt8} {r:List (List UInt8)} {o o':Bool} {K:Int→O R} (hN:9≤N):Bm N 8 yr (Bg (w::r)) (r.length+1) o o' K=K (Wy Nr w):=by
 rw[G3];unfold C7
 have b:=r_ Nr w
 refine(Axu 8 0 N rfl (by omega)).trans ?_
 rw[List.drop_zero]
 congr 1
 split<;>omega
def lY (c:CaseD) (f:Int) (Jq:List (List UInt8)) (q r:Bool):Option (List (List UInt8)×Bool×Bool×Int) :=
 if f=0 then some (Jq,q,r,0) else
 match Jq with
 | []=>none
 | w::rest'=>match K6 c f with
  | some l=>some (rest',q&&decide (Wy l w≥0),r,Wy l w)
  | none=>if yo w=true then some (rest',q,r&&(A78 w).2,(A78 w).1) else none
theorem Ams {c:CaseD} {f:Int} {Jq d:List (List UInt8)} {q r e t':Bool} {v:Int} (h:lY c f Jq q r=some (d,e,t',v)):∀ x ∈ d,x ∈ Jq:=by
 unfold lY at h
 split at h
 ·cases h;exact fun x b=>b
 ·split at h
  ·cases h
  ·rename_i w rest'
   split at h
   ·cases h;exact fun x b=>List.mem_cons_of_mem _ b
   ·split at h
    ·cases h;exact fun x b=>List.mem_cons_of_mem _ b
    ·cases h
def Bbu:LA:=[.int .i64 0,.int .i64 0,.int .i64 0,.int .i64 0]
theorem A1v (l:List Int) (j:Nat) (u:Int):(Aq l).set j (.int .i64 u)=Aq (l.set j u):=by unfold Aq;rw[List.map_set]
theorem Bcd {n:Nat}:((decide ((0:Int)≤(1:Int)))&&((decide (1≤((n+1:Nat):Int)))&&((decide (((n+1:Nat):Int)≤((n+1:Nat):Int)))&&(decide (((n+1:Nat):Int)≤((n+1:Nat):Int))))))=true:=by simp;omega
theorem Amt {c:CaseD} {N:Nat} (hs:Small c N) {f:Int} {l:List (List UInt8)} (h:K6 c f=some l):l.length≤1000000∧l.length+1≤N:=by
 have t:=hs.top
 have b:=hs.bus.1;have d:=hs.uni.1;have e:=hs.lin.1
 unfold K6 at h
 split at h
 ·cases h;rw[List.length_map];omega
 ·split at h
  ·cases h;rw[List.length_map];omega
  ·split at h
   ·cases h;rw[List.length_map];omega
   ·cases h
theorem A79 {N n j:Nat} {c:CaseD} {l f:Int} {g i o q r:Bool} {Jq:List (List UInt8)} {fl:LA} {vs:List Int} {K:LA→Int→O R} (C:j<3) (m:vs.length=3) (I:vs.set j 0=vs) (z:∀ F:Int→O R,Ap .i64 (List.drop (j*1) fl) F=F f) (hs:Small c N) (D:∀ w ∈ Jq,w.length≤1100000) (G:fit 1200000 N) :
  Kk N K l g i o c.av yr (n+1) q r (Bg Jq) Jq.length fl (j:Int) (Aq vs) =
   match lY c f Jq q r with
   | none=>K Bbu 2
   | some (rest',M,S,v)=>Kk N K l g i o c.av yr n M S (Bg rest') rest'.length fl ((j+1:Nat):Int) (Aq (vs.set j v)):=by
 have hN:=G.1
 rw[Kk];unfold FH
 rw[show decide ((j:Int)<3)=true by simp;omega,ct,show Ae (j:Int) 3=true from Ab C,ct,Int.toNat_natCast,z,wS (by omega)]
 unfold lY
 by_cases h0:f=0
 ·rw[show(f==0)=true by simpa using h0,ct,if_pos h0]
  dsimp only
  rw[I]
 rw[show(f==0)=false by simpa using h0,cf,if_neg h0]
 cases Jq with
 | nil=>rfl
 | cons w rest' =>
  have k:(Nat.beq 1 1&&(Nat.ble ((0+(j*1))+1) (Aq vs).length&&(!false)))=true:=by rw[Bs,Et,m];simp;omega
  have d:List.take ((rest'.length+1 - 1)*1) (List.drop 1 (Bg (w::rest')))=Bg rest':=by
   rw[Nat.add_sub_cancel,Nat.mul_one,F',F_];simp
  have b:List.take (rest'.length*1) (List.drop 1 (Bg (w::rest')))=Bg rest':=by
   rw[Nat.mul_one,F',F_];simp
  have e:∀ u:Int,(Aq vs).set (0+(j*1)) (.int .i64 u)=Aq (vs.set j u):=fun u=>by rw[Nat.zero_add,Nat.mul_one,A1v]
  have A:∀ (u:Int) (F:Int→O R),Ap .i64 (List.drop (0+(j*1)) (Aq (vs.set j u))) F=F u:=fun u F=>by
   rw[Nat.zero_add,Nat.mul_one,nY (by rw[List.length_set,m];omega)];simp
  have s:∀ F:List UInt8→O R,Ts (Bg (w::rest')) F=F w:=fun F=>rfl
  have t:Ae (0:Int) (rest'.length+1)=true:=Ab (i:=0) (by omega)
  have x:Ae (j:Int) 3=true:=Ab C
  dsimp only
  rw[List.length_cons,show(((rest'.length+1:Nat):Int)==0)=false by rw[beq_eq_false_iff_ne];omega,cf,D8,ct,B6,N_ hs]
  cases hn:K6 c f with
  | some L =>
   have hL:=Amt hs hn
   dsimp only
   rw[ct,t,ct,s,Nat.mul_one,F_,List.take_length,A1u (by omega) hL.2]
   simp only[x,ct,k,e,A,Bcd,d,b,Nat.add_sub_cancel]
   cases q with
   | true=>rfl
   | false=>rfl
  | none =>
   dsimp only
   rw[cf,t,ct,s,Agp (by have:=D w (by simp);omega) (G.le (by have:=D w (by simp);omega))]
   by_cases y:yo w=true
   ·rw[if_pos y,if_pos y]
    simp only[x,ct,cf,k,e,Bcd,d,b,Nat.add_sub_cancel,show((0:Int) != 0)=false from rfl]
    cases r with
    | true=>rfl
    | false=>rfl
   ·rw[if_neg y,if_neg y];rfl
def CA (i j:Nat):Int:=([[1,4,7],[2,5,0],[3,5,0],[2,6,8],[0,0,0],[0,0,9],[0,0,0],[0,4,0]].getD i []).getD j 0
structure EvD where
 k:Int
 a:Int
 b:Int
 v:Int
def EvD.av (e:EvD):LA:=Af5 e.k e.a e.b e.v
def Ari (c:CaseD) (i:Nat) (Jq:List (List UInt8)) (q r:Bool) (a b v:Int):EvD×Int :=
 if Jq≠[] then (⟨0,0,0,0⟩,2) else if q=false then (⟨0,0,0,0⟩,12) else if r=false then (⟨0,0,0,0⟩,3) else if S8 c ((i:Int)+1) a b v=true then (⟨(i:Int)+1,a,b,v⟩,0) else (⟨0,0,0,0⟩,3)
def A1w (c:CaseD) (i:Nat) (Jq:List (List UInt8)):EvD×Int :=
 match lY c (CA i 0) Jq true true with
 | none=>(⟨0,0,0,0⟩,2)
 | some (r0,q0,t0,a)=>match lY c (CA i 1) r0 q0 t0 with
  | none=>(⟨0,0,0,0⟩,2)
  | some (r1,q1,t1,b)=>match lY c (CA i 2) r1 q1 t1 with
   | none=>(⟨0,0,0,0⟩,2)
   | some (r2,q2,t2,v)=>Ari c i r2 q2 t2 a b v
def Ov (c:CaseD) (W:List (List UInt8)):EvD×Int:=match W with
 | []=>(⟨0,0,0,0⟩,2)
 | w::r=>if Wy Nr w<0 then (⟨0,0,0,0⟩,2) else A1w c (Wy Nr w).toNat r
theorem Axv {c:CaseD} {w:List UInt8} {r:List (List UInt8)}:Ov c (w::r)=if Wy Nr w<0 then (⟨0,0,0,0⟩,2) else A1w c (Wy Nr w).toNat r:=rfl
theorem Bce {N n i:Nat} {c:CaseD} {g i1 o q r:Bool} {Jq:List (List UInt8)} {fl:LA} {a b v:Int} {K:LA→Int→O R} (hi:i<8) (hs:Small c N) (hH:1≤c.hours∧c.hours≤24) :
  Kk N K (i:Int) g i1 o c.av yr (n+1) q r (Bg Jq) Jq.length fl 3 (Aq [a,b,v])=K (Ari c i Jq q r a b v).1.av (Ari c i Jq q r a b v).2:=by
 have d:∀ F:Int→O R,Ap .i64 (List.drop (0+(i*5)) yr) F=F ((i:Int)+1):=fun F=>by
  rcases i with _ | _ | _ | _ | _ | _ | _ | _ | i
  ·rfl
  ·rfl
  ·rfl
  ·rfl
  ·rfl
  ·rfl
  ·rfl
  ·rfl
  ·omega
 have h0:∀ F:Int→O R,Ap .i64 (Aq [a,b,v]) F=F a:=fun F=>rfl
 have e:∀ F:Int→O R,Ap .i64 (List.drop 1 (Aq [a,b,v])) F=F b:=fun F=>rfl
 have f:∀ F:Int→O R,Ap .i64 (List.drop 2 (Aq [a,b,v])) F=F v:=fun F=>rfl
 rw[Kk];unfold FH
 rw[show decide ((3:Int)<3)=false by decide,cf,show Ae (i:Int) 8=true from Ab hi,ct,Int.toNat_natCast,d,h0,e,f]
 unfold Ari
 cases Jq with
 | cons w rest' =>
  rw[if_pos (by simp),show decide ((((w::rest').length:Nat):Int)>0)=true by simp,ct];rfl
 | nil =>
  rw[if_neg (by simp),show decide (((([]:List (List UInt8)).length:Nat):Int)>0)=false by decide,cf]
  cases q with
  | false=>rfl
  | true =>
   rw[show(!true)=false by rfl,cf,if_neg (by decide)]
   cases r with
   | false=>rfl
   | true =>
    rw[show((!true)==false)=true by rfl,ct,D8,ct,B6,if_neg (by decide)]
    refine(Zz hs hH).trans ?_
    cases j:S8 c ((i:Int)+1) a b v with
    | true=>rw[if_pos rfl];rfl
    | false=>rw[if_neg (by decide)];rfl
theorem Ajl {N:Nat} {c:CaseD} {o o1 o2:Bool} {w:List UInt8} {r:List (List UInt8)} {K:LA→Int→O R} (hs:Small c N) (hH:1≤c.hours∧c.hours≤24) (D:∀ x ∈ r,x.length≤1100000) (m:fit 1200000 N) :
  RW N c.av o (Bg (w::r)) (r.length+1) o1 o2 K=K (Ov c (w::r)).1.av (Ov c (w::r)).2:=by
 have hN:=m.1
 have L:=r_ Nr w
 obtain⟨n,rfl⟩:∃ n,N=n+4:=⟨N - 4,by omega⟩
 have s:Wy Nr w<8:=by
  have:∀ (l:List (List UInt8)),Wy l w<(l.length:Int)∨Wy l w=-1:=by
   intro l
   induction l with
   | nil=>right;rfl
   | cons x l M =>
    rw[Wy,List.length_cons]
    split
    ·left;omega
    ·split
     ·right;rfl
     ·left;rcases M with h | h<;>omega
  rcases this Nr with h | h
  ·exact h
  ·omega
 rw[rK];unfold iA
 rw[lH,A5u (by omega)]
 rw[Axv]
 by_cases h0:Wy Nr w<0
 ·rw[decide_eq_true h0,ct,if_pos h0];rfl
 rw[decide_eq_false h0,cf,if_neg h0]
 obtain⟨i,hi⟩:∃ i:Nat,Wy Nr w=i:=⟨(Wy Nr w).toNat,by omega⟩
 rw[hi] at s ⊢
 have e:i<8:=by omega
 have d:List.take ((r.length+1 - 1)*1) (List.drop 1 (Bg (w::r)))=Bg r:=by
  rw[Nat.add_sub_cancel,Nat.mul_one,F',F_];simp
 rw[Bcd,ct,show Ae (i:Int) 8=true from Ab e,ct,d,Nat.add_sub_cancel,Int.toNat_natCast]
 obtain⟨t,u⟩:Nat.ble 3 ((yr.drop ((0+(i*5))+2)).length)=true∧(yr.drop ((0+(i*5))+2)).take 3=Aq [CA i 0,CA i 1,CA i 2]:=by
  rcases i with _ | _ | _ | _ | _ | _ | _ | _ | i
  ·exact⟨rfl,rfl⟩
  ·exact⟨rfl,rfl⟩
  ·exact⟨rfl,rfl⟩
  ·exact⟨rfl,rfl⟩
  ·exact⟨rfl,rfl⟩
  ·exact⟨rfl,rfl⟩
  ·exact⟨rfl,rfl⟩
  ·exact⟨rfl,rfl⟩
  ·omega
 rw[t,ct,u]
 unfold A1w
 have S:=A79 (R:=R) (N:=n+4) (n:=n+3) (j:=0) (c:=c) (l:=(i:Int)) (f:=CA i 0) (g:=o1) (i:=o2) (o:=o) (q:=true) (r:=true) (Jq:=r) (fl:=Aq [CA i 0,CA i 1,CA i 2]) (vs:=[0,0,0]) (K:=K) (by omega) rfl rfl (fun _=>rfl) hs D m
 refine S.trans ?_
 cases T:lY c (CA i 0) r true true with
 | none=>rfl
 | some x0 =>
  obtain⟨y,G,t0,a⟩:=x0
  dsimp only
  have k:∀ x ∈ y,x.length≤1100000:=fun x z=>D x (Ams T x z)
  have s1:=A79 (R:=R) (N:=n+4) (n:=n+2) (j:=1) (c:=c) (l:=(i:Int)) (f:=CA i 1) (g:=o1) (i:=o2) (o:=o) (q:=G) (r:=t0) (Jq:=y) (fl:=Aq [CA i 0,CA i 1,CA i 2]) (vs:=[a,0,0]) (K:=K) (by omega) rfl rfl (fun _=>rfl) hs k m
  refine s1.trans ?_
  cases e1:lY c (CA i 1) y G t0 with
  | none=>rfl
  | some x1 =>
   obtain⟨A,I,t1,b⟩:=x1
   dsimp only
   have C:∀ x ∈ A,x.length≤1100000:=fun x z=>k x (Ams e1 x z)
   have s2:=A79 (R:=R) (N:=n+4) (n:=n+1) (j:=2) (c:=c) (l:=(i:Int)) (f:=CA i 2) (g:=o1) (i:=o2) (o:=o) (q:=I) (r:=t1) (Jq:=A) (fl:=Aq [CA i 0,CA i 1,CA i 2]) (vs:=[a,b,0]) (K:=K) (by omega) rfl rfl (fun _=>rfl) hs C m
   refine s2.trans ?_
   cases U:lY c (CA i 2) A I t1 with
   | none=>rfl
   | some x2 =>
    obtain⟨V,X,t2,v⟩:=x2
    dsimp only
    exact Bce e hs hH
end
end Gx.Cf

namespace Gx.Cf
open Go Go.Proofs
section
variable {R:Type}
def Ws (c:CaseD):List (List UInt8)→Nat→List EvD→List EvD×Int×Int
 | [],_,acc=>(acc,0,0)
 | x::ls,at_,acc=>match IP x with
  | []=>Ws c ls (at_+1) acc
  | w::r=>if (Ov c (w::r)).2=0 then (if acc.length=256 then ([],(at_:Int),8) else Ws c ls (at_+1) (acc++[(Ov c (w::r)).1])) else ([],(at_:Int),(Ov c (w::r)).2)
theorem Arj (l:List EvD):(l.flatMap EvD.av).length=l.length*4:=by
 induction l with
 | nil=>rfl
 | cons e l b=>rw[List.flatMap_cons,List.length_append,b,show e.av.length=4 from rfl,List.length_cons];omega
theorem zQ {c:UInt8}:∀ {s w:List UInt8},w ∈ lW c s→w.length≤s.length
 | [],w,h=>by simp[lW] at h;subst h;exact Nat.le_refl _
 | b::r,w,h=>by
  rw[lW] at h
  split at h
  ·rcases List.mem_cons.1 h with rfl | h
   ·simp
   ·have:=zQ h;simp;omega
  ·split at h
   ·simp at h;subst h;simp
   ·rename_i w0 ws d
    rcases List.mem_cons.1 h with rfl | h
    ·have:=zQ (c:=c) (s:=r) (w:=w0) (by rw[d];simp);simp;omega
    ·have:=zQ (c:=c) (s:=r) (w:=w) (by rw[d];exact List.mem_cons_of_mem _ h);simp;omega
theorem A5v {x w:List UInt8} (h:w ∈ IP x):w.length≤x.length:=by
 have b:=zQ (List.mem_filter.1 h).1
 exact Nat.le_trans b (Arg _ _)
theorem A8a (e:EvD):((Nat.beq (List.length e.av) 4)&&((Nat.ble 4 4)&&(!false)))=true:=rfl
theorem A1x {N:Nat} {c:CaseD} {o:Bool} {K:Nat→Int→Int→LA→O R} (hs:Small c N) (hH:1≤c.hours∧c.hours≤24) (F:fit 1200000 N):∀ (ls:List (List UInt8)) (g:List UInt8) (i:Bool) (at_ fuel:Nat) (acc:List EvD),((i=true∧lW 10 g=ls)∨(i=false∧ls=[]))→g.length≤1048576→ls.length<fuel→at_+ls.length≤100000000→acc.length≤256 →
  Mm N K o c.av fuel g acc.length (at_:Int) i (acc.flatMap EvD.av)=K (Ws c ls at_ acc).1.length (Ws c ls at_ acc).2.1 (Ws c ls at_ acc).2.2 ((Ws c ls at_ acc).1.flatMap EvD.av):=by
 have hN:=F.1
 intro ls
 induction ls with
 | nil =>
  intro g i at_ fuel acc hi A f n j
  rcases hi with⟨rfl,hi⟩ | ⟨rfl,_⟩
  ·exact absurd hi (Bap _ _)
  ·cases fuel with
   | zero=>simp at f
   | succ fuel=>rw[Mm];unfold FI;rfl
 | cons x ls G =>
  intro g i at_ fuel acc hi A f n j
  rw[List.length_cons] at f n
  rcases hi with⟨rfl,hi⟩ | ⟨_,hi⟩
  ·cases fuel with
   | zero=>simp at f
   | succ fuel =>
    obtain⟨g',m,q,d,s,S⟩:∃ g' m,Lib.cut g [10]=(x,g',m)∧((m=true∧lW 10 g'=ls)∨(m=false∧ls=[]))∧g'.length≤1048576∧x.length≤1048576:=by
     by_cases h:(10:UInt8) ∈ g
     ·obtain⟨a,b,rfl,I⟩:=ti h
      rw[A1s I] at hi
      obtain⟨rfl,rfl⟩:=List.cons.inj hi
      rw[List.length_append,List.length_cons] at A
      exact⟨b,true,Bao I,.inl ⟨rfl,rfl⟩,by omega,by omega⟩
     ·rw[A1r h] at hi
      obtain⟨rfl,rfl⟩:=List.cons.inj hi
      exact⟨[],false,Ban h,.inr ⟨rfl,rfl⟩,by simp,A⟩
    have L:(IP x).length≤x.length+1:=Nat.le_trans (List.length_filter_le _ _) (Nat.le_trans (zP _) (by have:=Arg x [35];omega))
    rw[Mm];unfold FI
    rw[ct,Bbt (by omega),q]
    dsimp only
    rw[Ajk (by omega) (by omega),wS (by omega)]
    have C:List.take ((IP x).length*1) (Bg (IP x)++mz ((lW 32 (Lib.cut x [35]).1).length - (IP x).length))=Bg (IP x):=by
     rw[Nat.mul_one,List.take_left' (Gt _)]
    rw[C,Ws]
    cases hW:IP x with
    | nil =>
     rw[show(((([]:List (List UInt8)).length:Nat):Int)==0)=true by rfl,ct]
     exact G g' m (at_+1) fuel acc d s (by omega) (by omega) j
    | cons w r =>
     have D:∀ y ∈ r,y.length≤1100000:=fun y M=>by
      have:=A5v (x:=x) (w:=y) (by rw[hW];exact List.mem_cons_of_mem _ M)
      omega
     dsimp only
     rw[show((((w::r).length:Nat):Int)==0)=false by rw[beq_eq_false_iff_ne,List.length_cons];omega,cf,D8,ct,B6,List.length_cons,Ajl hs hH D F,A8a,ct]
     have k:setCells [(.int .i64 0),(.int .i64 0),(.int .i64 0),(.int .i64 0)] 0 (Ov c (w::r)).1.av=(Ov c (w::r)).1.av:=rfl
     rw[k]
     by_cases t:(Ov c (w::r)).2=0
     ·rw[if_pos t,t,show(((0:Int)==0)==true)=true by rfl,ct,A8l]
      by_cases e:acc.length=256
      ·rw[if_pos e,show(((acc.length:Nat):Int)==256)=true by rw[e];rfl,ct]
       unfold U1
       rfl
      ·rw[if_neg e,show(((acc.length:Nat):Int)==256)=false by rw[beq_eq_false_iff_ne];omega,cf]
       unfold U1
       rw[show((0:Int) != 0)=false by rfl,cf]
       have l:((Nat.ble (acc.length+1) 140737488355328)&&(Nat.ble ((acc.length+1)*32) 140737488355328))=true:=by rw[Bs,Bs];simp;omega
       have u:List.take (acc.length*4) (acc.flatMap EvD.av)=acc.flatMap EvD.av:=by rw[List.take_of_length_le (by rw[Arj];exact Nat.le_refl _)]
       have v:List.take 4 (Ov c (w::r)).1.av=(Ov c (w::r)).1.av:=rfl
       rw[v,show Nat.ble 4 (Ov c (w::r)).1.av.length=true by rfl,ct,show((Nat.beq (Ov c (w::r)).1.av.length 4)&&(Nat.ble 4 4))=true by rfl,ct,l,ct,u,k,v,wS (by omega)]
       have z:acc.flatMap EvD.av++(Ov c (w::r)).1.av=(acc++[(Ov c (w::r)).1]).flatMap EvD.av:=by rw[List.flatMap_append];simp
       have:=G g' m (at_+1) fuel (acc++[(Ov c (w::r)).1]) d s (by omega) (by omega) (by rw[List.length_append,List.length_singleton];omega)
       rw[List.length_append,List.length_singleton] at this
       rw[z]
       exact this
     ·rw[if_neg t,show((((Ov c (w::r)).2)==0)==true)=false by rw[SA,beq_eq_false_iff_ne];exact t,cf]
      unfold U1
      rw[show(((Ov c (w::r)).2) != 0)=true by simpa using t,ct]
      rfl
  ·cases hi
theorem N' {N:Nat} {c:CaseD} {o:Bool} {s:List UInt8} {K:Nat→Int→Int→LA→O R} (hs:Small c N) (b:Cc c=none) (e:s.length≤1048576) (d:fit 1200000 N) :
  Qr N c.av o s K=K (Ws c (lW 10 s) 1 []).1.length (Ws c (lW 10 s) 1 []).2.1 (Ws c (lW 10 s) 1 []).2.2 ((Ws c (lW 10 s) 1 []).1.flatMap EvD.av):=by
 have hN:=d.1
 have f:=zP (c:=10) s
 have hH:1≤c.hours∧c.hours≤24:=by
  unfold Cc at b
  split at b
  ·cases b
  ·rename_i i;exact(gk i).hours
 rw[rM];unfold iB
 rw[D8,ct,B6,NR hs,b]
 show cond (decide (((s.length:Nat):Int)>1048576)) _ _=_
 rw[decide_eq_false (by omega),cf]
 exact A1x hs hH d (lW 10 s) s true 1 N [] (.inl ⟨rfl,rfl⟩) e (by omega) (by omega) (by simp)
end
end Gx.Cf

namespace Gx.Cf
open Go Go.Proofs
section
variable {R:Type}
theorem Amu {N:Nat} (hN:4096≤N) {c:CaseD} (g:eH c):Small c N:=by
 obtain⟨H,d,bs,ls,us,ss,ts,os,b,og,_,rfl⟩:=g
 exact Aly hN b og
theorem ra {N:Nat} {v n:Int} (b:1≤n) (c:n≤4611686018427387904):∃ r:Int,0≤r∧r<n∧∀ K:Int→O R,TP N v n K=K r:=by
 obtain⟨a1,a2,a3⟩:=Au1 v n b c
 refine⟨_,a2,a3,fun K=>?_⟩
 rw[mV];unfold zE
 rw[a1,cf]
end
end Gx.Cf

namespace Gx.Cf
open Go Go.Proofs
section
variable {R:Type}
theorem Amv {c:CaseD} (h:c.outs.l=[]):∀ m j,T2 c m j none=none
 | 0,_=>rfl
 | m+1,j=>by rw[T2,h];exact Amv h m (j+1)
theorem Kq {c:CaseD} (b:Cc c=none):1≤c.hours∧c.hours≤24:=by
 unfold Cc at b
 split at b
 ·cases b
 ·rename_i d;exact(gk d).hours
def Bcn:BusD:=⟨[97],.of [15] false false,0⟩
def Bco:UnitD:=⟨[103],0,10,20,.of [⟨10,2⟩] false false,7,20,20,20,20,1,1,0,0,0,1,0,0,.nil,2,1,15⟩
def A1y:CaseD:=⟨1,.of [0] false false,.of [Bcn] false false,.nil,.of [Bco] false false,.nil,.nil,.nil⟩
theorem Baq:a6 A1y=none:=by kernel_rfl
theorem Agq:Cc A1y=none:=by
 unfold Cc
 rw[Baq]
 exact Amv rfl _ _
theorem A8b {N:Nat} (hN:4096≤N):Small A1y N:=by
 have fit:∀ n:Nat,n≤100→E2 n N:=fun n hn=>⟨by omega,by omega⟩
 refine⟨by omega,fit _ (by simp[A1y,Sl.l]),fit _ (by simp[A1y,Sl.l]),fit _ (by simp[A1y,Sl.l]),fit _ (by simp[A1y,Sl.l]),fit _ (by simp[A1y,Sl.l]),fit _ (by simp[A1y,Sl.l]),fit _ (by simp[A1y,Sl.l]),
  fun x b=>?_,fun x b=>?_,fun x b=>?_,fun x b=>?_,fun x b=>?_,fun x b=>?_,fun x b=>?_,fun x b=>?_,fun x b=>?_,fun x b=>?_,by simp[A1y,Sl.l]⟩
 all_goals simp[A1y,Sl.l] at b
 all_goals subst b
 all_goals exact fit _ (by simp[Bcn,Bco,Sl.l])
def A9x:LA:=[(.int .i64 1),(.imm [(.int .i64 0)] 1 1 false true),(.imm [(.str ([97]:List UInt8)),(.imm [(.int .i64 15)] 1 1 false false),(.int .i64 0)] 1 3 false true),.nsl,(.imm [(.str ([103]:List UInt8)),(.int .i64 0),(.int .i64 10),(.int .i64 20),(.imm [(.int .i64 10),(.int .i64 2)] 1 2 false false),(.int .i64 7),(.int .i64 20),(.int .i64 20),(.int .i64 20),(.int .i64 20),(.int .i64 1),(.int .i64 1),(.int .i64 0),(.int .i64 0),(.int .i64 0),(.int .i64 1),(.int .i64 0),(.int .i64 0),.nsl,(.int .i64 2),(.int .i64 1),(.int .i64 15)] 1 22 false true),.nsl,.nsl,.nsl]
theorem Bar {N:Nat} (hN:2≤N):∃ z:LA,z.length=3∧∀ K:Nat→LA→O R,Fr N 1 K=K 1 z:=by
 refine⟨setCells [(.bool false),.nsl,.nsl] 0 (cq 0),rfl,fun K=>?_⟩
 obtain⟨n,hn⟩:∃ n,N=n+2:=⟨N - 2,by omega⟩
 have k:Kl N K 1 (n+2) 1 0 [(.bool false),.nsl,.nsl]=K 1 (setCells [(.bool false),.nsl,.nsl] 0 (cq 0)):=by
  rw[Kl];unfold Zw
  rw[mj]
  show Kl N K 1 (n+1) 1 1 (setCells [(.bool false),.nsl,.nsl] 0 (cq 0))=_
  rw[Kl];unfold Zw
  rfl
 rw[←hn] at k
 rw[lI];unfold VI
 exact k
theorem A8c {N:Nat} (hN:4096≤N):∃ e s:LA,e.length=3∧∀ K:Nat→Nat→Nat→Nat→Nat→Nat→Nat→LA→LA→LA→LA→LA→LA→LA→LA→O R,FZ N A9x true K=K 1 0 0 0 0 1 0 e [] [] [] [] s [] []:=by
 obtain⟨z,l,c⟩:=Bar (R:=R) (N:=N) (by omega)
 obtain⟨n,hn⟩:∃ n,N=n+2:=⟨N - 2,by omega⟩
 refine⟨[(.imm [.int .i64 0] 1 1 false false),(.imm (z.take 3) 1 3 false false),(.imm (z.take 3) 1 3 false false)],[(.imm (z.take 3) 1 3 false false)],rfl,fun K=>?_⟩
 have d:∀ s,Wo N K true A9x 1 0 0 0 0 1 [(.imm [.int .i64 0] 1 1 false false),(.imm (z.take 3) 1 3 false false),(.imm (z.take 3) 1 3 false false)] [] [] [] [] s (n+2) 0 0 []=K 1 0 0 0 0 1 0 [(.imm [.int .i64 0] 1 1 false false),(.imm (z.take 3) 1 3 false false),(.imm (z.take 3) 1 3 false false)] [] [] [] [] s [] []:=fun s=>by
  rw[Wo];unfold NV;rfl
 rw[←hn] at d
 have f:Np N K true A9x 1 0 0 0 0 [(.imm [.int .i64 0] 1 1 false false),(.imm (z.take 3) 1 3 false false),(.imm (z.take 3) 1 3 false false)] [] [] [] [] (n+2) 0 0 []=K 1 0 0 0 0 1 0 [(.imm [.int .i64 0] 1 1 false false),(.imm (z.take 3) 1 3 false false),(.imm (z.take 3) 1 3 false false)] [] [] [] [] [(.imm (z.take 3) 1 3 false false)] [] []:=by
  rw[Np];unfold Zx
  show Fr N 1 _=_
  rw[c]
  refine Eq.trans (b:=Np N K true A9x 1 0 0 0 0 [(.imm [.int .i64 0] 1 1 false false),(.imm (z.take 3) 1 3 false false),(.imm (z.take 3) 1 3 false false)] [] [] [] [] (n+1) 1 1 [(.imm (z.take 3) 1 3 false false)]) rfl ?_
  rw[Np];unfold Zx
  exact d _
 rw[←hn] at f
 have i:Wp N K true A9x 1 0 0 0 [(.imm [.int .i64 0] 1 1 false false),(.imm (z.take 3) 1 3 false false),(.imm (z.take 3) 1 3 false false)] [] [] [] (n+2) 0 0 []=K 1 0 0 0 0 1 0 [(.imm [.int .i64 0] 1 1 false false),(.imm (z.take 3) 1 3 false false),(.imm (z.take 3) 1 3 false false)] [] [] [] [] [(.imm (z.take 3) 1 3 false false)] [] []:=by
  rw[Wp];unfold NW
  exact f
 rw[←hn] at i
 have j:Wq N K true A9x 1 [(.imm [.int .i64 0] 1 1 false false),(.imm (z.take 3) 1 3 false false),(.imm (z.take 3) 1 3 false false)] (n+2) 0 0 0 0 [] [] []=K 1 0 0 0 0 1 0 [(.imm [.int .i64 0] 1 1 false false),(.imm (z.take 3) 1 3 false false),(.imm (z.take 3) 1 3 false false)] [] [] [] [] [(.imm (z.take 3) 1 3 false false)] [] []:=by
  rw[Wq];unfold NX
  exact i
 rw[←hn] at j
 have k:Km N K true A9x (n+2) 0 0 []=K 1 0 0 0 0 1 0 [(.imm [.int .i64 0] 1 1 false false),(.imm (z.take 3) 1 3 false false),(.imm (z.take 3) 1 3 false false)] [] [] [] [] [(.imm (z.take 3) 1 3 false false)] [] []:=by
  rw[Km];unfold Zy
  show Fr N 1 _=_
  rw[c]
  show Fr N 1 _=_
  rw[c]
  refine Eq.trans (b:=Km N K true A9x (n+1) 1 1 [(.imm [.int .i64 0] 1 1 false false),(.imm (z.take 3) 1 3 false false),(.imm (z.take 3) 1 3 false false)]) rfl ?_
  rw[Km];unfold Zy
  exact j
 rw[←hn] at k
 rw[lK];unfold VJ
 exact k
theorem Ark {N:Nat} (hN:4096≤N):∃ P:LA,P.length=8∧∀ K:LA→LA→O R,IM N K=K A1y.av P:=by
 obtain⟨e,s,c,d⟩:=A8c (R:=R) hN
 refine⟨[(.imm ((C4 e 0 [(.imm [(.int .i64 2)] 1 1 false false),(.imm ((setCells [(.bool false),.nsl,.nsl] 0 (cq ((15:Int):Rat))).take 3) 1 3 false false),(.imm ((setCells [(.bool false),.nsl,.nsl] 0 (cq 0)).take 3) 1 3 false false)]).take (1*3)) 1 3 false false),(.imm [] 0 1 false false),(.imm [] 0 1 false false),(.imm [] 0 1 false false),(.imm [] 0 1 false false),(.imm (s.take (1*1)) 1 1 false false),(.imm [] 0 1 false false),(.imm [] 0 4 false false)],rfl,fun K=>?_⟩
 rw[f3];unfold fZ
 refine(d _).trans ?_
 rw[Af1 (by omega) (by omega)]
 refine Eq.trans (b:=Z5 N _) rfl ?_
 rw[mj,c]
 exact rfl
end
end Gx.Cf

namespace Gx.Cf
open Go Go.Proofs
section
variable {R:Type}
theorem fj:∀ (l:List EvD) (j:Nat) (h:j<l.length),((l.flatMap EvD.av).drop (j*4)).take 4=l[j].av∧Nat.ble 4 ((l.flatMap EvD.av).drop (j*4)).length=true
 | e::l,0,_=>⟨rfl,rfl⟩
 | e::l,j+1,h=>by
  have b:((e::l).flatMap EvD.av).drop ((j+1)*4)=(l.flatMap EvD.av).drop (j*4):=by
   rw[show(j+1)*4=4+j*4 by omega,←List.drop_drop];rfl
  rw[b]
  exact fj l j (by simpa using h)
theorem A5w {N:Nat} {l:List EvD} {a b c d:Bool} {K:Bool→O R} (e:l.length<N) (C:l.length≤1000000):IN N (l.flatMap EvD.av) l.length a b (l.flatMap EvD.av) l.length c d K=K true:=by
 have go:∀ (m j fuel:Nat),j+m=l.length→m<fuel→Qt N K (l.flatMap EvD.av) l.length a b (l.flatMap EvD.av) l.length c d fuel (j:Int)=K true:=by
  intro m
  induction m with
  | zero =>
   intro j fuel i n
   obtain⟨f,rfl⟩:∃ f,fuel=f+1:=⟨fuel - 1,by omega⟩
   rw[Qt];unfold FJ
   rw[Jf (by omega),cf]
  | succ m q =>
   intro j fuel i n
   obtain⟨f,rfl⟩:∃ f,fuel=f+1:=⟨fuel - 1,by omega⟩
   have h:j<l.length:=by omega
   obtain⟨s,t⟩:=fj l j h
   have u:∀ g:Bool,((!g)||Az l[j].av)=true:=fun g=>by cases g<;>rfl
   have x:∀ F:Int→O R,Ap .i64 l[j].av F=F l[j].k:=fun F=>rfl
   have y:∀ F:Int→O R,Ap .i64 (l[j].av.drop 1) F=F l[j].a:=fun F=>rfl
   have z:∀ F:Int→O R,Ap .i64 (l[j].av.drop 2) F=F l[j].b:=fun F=>rfl
   have A:∀ F:Int→O R,Ap .i64 (l[j].av.drop 3) F=F l[j].v:=fun F=>rfl
   rw[Qt];unfold FJ
   rw[Hy h,ct,Ab h,ct]
   simp only[Int.toNat_natCast,s,t,u,ct,x,y,z,A]
   rw[show((Nat.ble 1 4)&&((Nat.beq (l[j].av.length) 4)&&((Nat.beq (l[j].av.length) 4)&&(true&&(!false)))))=true from rfl,ct]
   simp only[beq_self_eq_true,Bool.and_self,Bool.not_true]
   rw[cf,wS (by omega)]
   exact q (j+1) f (by omega) (by omega)
 rw[rU];unfold iC
 rw[show(((l.length:Nat):Int) != ((l.length:Nat):Int))=false by simp,cf]
 exact go l.length 0 N (by omega) e
theorem A9e:Ws A1y (lW 10 ([116,114,105,112,32,103,32,49,32,35,32,98,111,105,108,101,114,10,10,115,116,101,112]:List UInt8)) 1 []=([⟨2,0,1,0⟩,⟨5,0,0,0⟩],0,0):=by kernel_rfl
theorem A9f:Ws A1y (lW 10 ([115,116,101,112,32,110,111,119]:List UInt8)) 1 []=([],1,2):=by kernel_rfl
theorem A9g:Ws A1y (lW 10 ([100,101,109,97,110,100,32,97,32,57,57,32,53]:List UInt8)) 1 []=([],1,3):=by kernel_rfl
theorem zR {N:Nat} (c:fit 1200000 N) {K:Bool→O R}:Fx N K=K true:=by
 have hN:=c.1
 obtain⟨P,hP,d⟩:=Ark (R:=R) (N:=N) (by omega)
 have hs:=A8b (N:=N) (by omega)
 rw[aG];unfold VK
 refine(d _).trans ?_
 rw[hP]
 simp only[B6,D8]
 refine Eq.trans (b:=Qr N A1y.av false _ _) rfl ?_
 rw[N' hs Agq (by decide) c,A9e]
 refine Eq.trans (b:=Qr N A1y.av false _ _) rfl ?_
 rw[N' hs Agq (by decide) c,A9f]
 refine Eq.trans (b:=Qr N A1y.av false _ _) rfl ?_
 rw[N' hs Agq (by decide) c,A9g]
 refine Eq.trans (b:=IN N (([⟨2,0,1,0⟩,⟨5,0,0,0⟩]:List EvD).flatMap EvD.av) ([⟨2,0,1,0⟩,⟨5,0,0,0⟩]:List EvD).length false true (([⟨2,0,1,0⟩,⟨5,0,0,0⟩]:List EvD).flatMap EvD.av) ([⟨2,0,1,0⟩,⟨5,0,0,0⟩]:List EvD).length false true _) rfl ?_
 rw[A5w (by simp;omega) (by simp)]
 rfl
end
end Gx.Cf

namespace Gx.Cf
open Go Go.Proofs
section
variable {R:Type}
theorem Axw {c:CaseD}:(Bp (Cc c)==0)=(Cc c).isNone:=by
 cases h:Cc c with
 | none=>rfl
 | some x=>show(x.2.1==0)=false;rw[beq_eq_false_iff_ne];exact x.2.2
theorem lZ {N:Nat} {c:CaseD} {o o':Bool} {k a b v:Int} {K:Bool→O R} (hs:Small c N):S6 N c.av o (Af5 k a b v) o' K=K ((Cc c).isNone&&S8 c k a b v):=by
 have d:((!o')||Az (List.take 4 (Af5 k a b v)))=true:=by cases o'<;>rfl
 rw[rX];unfold te
 rw[D8,ct,B6,NR hs,show(((Bp (Cc c)) != 0))=!(Cc c).isNone by rw[←Axw];rfl]
 cases h:Cc c with
 | some x=>rfl
 | none =>
  rw[d]
  exact Zz hs (Kq h)
theorem fk {N:Nat} {c:CaseD} {o o':Bool} {k a b v:Int} {K:Bool→O R} (hs:Small c N) (hN:4096≤N):Oj N c.av o (Af5 k a b v) o' K=K ((Cc c).isNone&&S8 c k a b v):=by
 have d:((!o')||Az (List.take 4 (Af5 k a b v)))=true:=by cases o'<;>rfl
 rw[lR];unfold mv
 rw[D8,ct,B6,HX hs hN,Axw]
 cases h:Cc c with
 | some x=>rfl
 | none =>
  rw[d]
  refine(xw hs (Kq h)).trans ?_
  cases S8 c k a b v<;>rfl
theorem A9h {u:UnitD} {r:LA} {F:LA→Nat→O R}:Br 1 (List.drop 18 (u.av++r)) F=F (u.away.l.flatMap IS) u.away.l.length:=by
 unfold UnitD.av;exact Ed
theorem zS {u:UnitD} {r:LA} {F:LA→Nat→O R}:Br 2 (List.drop 4 (u.av++r)) F=F (u.segs.l.flatMap SegD.av) u.segs.l.length:=by
 unfold UnitD.av;exact Ed
theorem Amw {N:Nat} {c:CaseD} {o:Bool} (hs:Small c N):∃ t:Bool,∀ K:Bool→O R,MK N c.av o K=K t:=by
 have go:∀ (m j fuel:Nat),j+m=c.units.l.length→m<fuel→∃ t:Bool,∀ K:Bool→O R,Qu N K o c.av fuel (j:Int)=K t:=by
  intro m
  induction m with
  | zero =>
   intro j fuel k n
   obtain⟨f,rfl⟩:∃ f,fuel=f+1:=⟨fuel - 1,by omega⟩
   refine⟨true,fun K=>?_⟩
   rw[Qu];unfold MJ
   rw[C2,Jf (by omega),cf]
  | succ m q =>
   intro j fuel k n
   obtain⟨f,rfl⟩:∃ f,fuel=f+1:=⟨fuel - 1,by omega⟩
   have h:j<c.units.l.length:=by omega
   have s:=hs.uni
   obtain⟨t,b⟩:=q (j+1) f (by omega) (by omega)
   have step:∀ K:Bool→O R,Qu N K o c.av (f+1) (j:Int)=cond ((decide (((c.units.l[j].away.l.length:Nat):Int)>30))==false) (cond (cond false true (decide (((c.units.l[j].segs.l.length:Nat):Int)>20))) (K false) (K t)) (K false):=fun K=>by
    rw[Qu];unfold MJ
    rw[C2,Hy h,ct,C2,Ab h,ct,Int.toNat_natCast,At Cg _ _ h,A9h]
    rw[C2,Ab h,ct,At Cg _ _ h,zS,Bo (by have:=s.2;omega),b]
   by_cases d:((c.units.l[j].away.l.length:Nat):Int)>30
   ·exact⟨false,fun K=>by rw[step,decide_eq_true d];rfl⟩
   ·by_cases i:((c.units.l[j].segs.l.length:Nat):Int)>20
    ·exact⟨false,fun K=>by rw[step,decide_eq_false d,decide_eq_true i];rfl⟩
    ·exact⟨t,fun K=>by rw[step,decide_eq_false d,decide_eq_false i];rfl⟩
 obtain⟨t,b⟩:=go c.units.l.length 0 N (by omega) hs.uni.1
 have e:∀ K:Bool→O R,MK N c.av o K=cond (decide (((c.buses.l.length:Nat):Int)>5)==false) (cond (decide (((c.lines.l.length:Nat):Int)>6)==false) (cond (decide (((c.units.l.length:Nat):Int)>4)==false) (cond (decide (((c.stores.l.length:Nat):Int)>4)==false) (cond (decide (((c.ties.l.length:Nat):Int)>4)==false) (cond (decide (((c.outs.l.length:Nat):Int)>4)==false) (cond (decide (c.hours>3)) (K false) (K t)) (K false)) (K false)) (K false)) (K false)) (K false)) (K false):=fun K=>by
  rw[xm];unfold rW
  rw[Gs,Ef,C2,X5,TX,Zh,Gr]
  unfold VL fa
  dsimp only
  rw[show Qu N K o c.av N 0=K t from b K]
  rfl
 refine⟨cond (decide (((c.buses.l.length:Nat):Int)>5)==false) (cond (decide (((c.lines.l.length:Nat):Int)>6)==false) (cond (decide (((c.units.l.length:Nat):Int)>4)==false) (cond (decide (((c.stores.l.length:Nat):Int)>4)==false) (cond (decide (((c.ties.l.length:Nat):Int)>4)==false) (cond (decide (((c.outs.l.length:Nat):Int)>4)==false) (cond (decide (c.hours>3)) false t) false) false) false) false) false) false,fun K=>?_⟩
 rw[e]
 generalize decide (((c.buses.l.length:Nat):Int)>5)=x1
 generalize decide (((c.lines.l.length:Nat):Int)>6)=x2
 generalize decide (((c.units.l.length:Nat):Int)>4)=x3
 generalize decide (((c.stores.l.length:Nat):Int)>4)=x4
 generalize decide (((c.ties.l.length:Nat):Int)>4)=x5
 generalize decide (((c.outs.l.length:Nat):Int)>4)=x6
 generalize decide (c.hours>3)=x7
 cases x1<;>cases x2<;>cases x3<;>cases x4<;>cases x5<;>cases x6<;>cases x7<;>rfl
theorem L9 {b:Bool} {A B Y:O R} (c:A=Y) (d:B=Y):cond b A B=Y:=by cases b<;>assumption
theorem VM {N:Nat} {c:CaseD} {k a b v:Int} {K:Bool→O R} (hs:Small c N) (d:fit 1200000 N):Fx N (fun bf=>(cond (bf==true) (cond (Nat.ble 8 (c.av.length)) (S6 N (c.av.take 8) false (Af5 k a b v) false (fun bg=>(cond (Nat.ble 8 (c.av.length)) (Oj N (c.av.take 8) false (Af5 k a b v) false (fun bh=>(K (cond true (bg==bh) false)))) none))) none) (K false)))=K true:=by
 have hN:=d.1
 rw[zR d,show(true==true)=true from rfl,ct,D8,ct,B6,lZ hs,ct,fk hs (by omega)]
 simp
theorem A1z {N:Nat} {H:Int} {d:List Int} {bs:List BusD} {ls:List LineD} {us:List UnitD} {ss:List StoreD} {ts:List TieD} {os:List OutD} {l:List Int} {x1 x2 x3 x4 x5 x6 x7:Bool} {k a b v:Int} {near t o:Bool}
  (hs:Small ⟨H,.of d false false,.of bs false false,.of ls false false,.of us false false,.of ss false false,.of ts false false,.of os false false⟩ N) (e:fit 1200000 N) (f:l.length≤9223372036854775807) {K:Bool→O R} :
  Kp N H (d.flatMap IS) d.length x1 false (bs.flatMap BusD.av) bs.length x2 false (ls.flatMap LineD.av) ls.length x3 false (us.flatMap UnitD.av) us.length x4 false (ss.flatMap StoreD.av) ss.length x5 false (ts.flatMap TieD.av) ts.length x6 false (os.flatMap OutD.av) os.length x7 false (Aq l) l.length t o k a b v near K=K true:=by
 have hN:=e.1
 obtain⟨tt,i⟩:=Amw (R:=R) (o:=false) hs
 rw[Xg];unfold Nq
 refine(i _).trans ?_
 refine L9 (L9 rfl ?_) rfl
 unfold Ko Ou
 refine L9 ?_ ?_
 ·obtain⟨c,g,j⟩:=pn (R:=R) (N:=N) (l:=l) (n:=l.length) (t:=false) (o:=o) rfl (by omega) f
  have hs:=Amu (N:=N) (by omega) g
  obtain⟨m,_,_,s⟩:=ra (R:=R) (N:=N) (v:=k) (n:=10) (by omega) (by omega)
  obtain⟨C,_,_,u⟩:=ra (R:=R) (N:=N) (v:=a) (n:=5) (by omega) (by omega)
  obtain⟨D,_,_,z⟩:=ra (R:=R) (N:=N) (v:=b) (n:=5) (by omega) (by omega)
  obtain⟨F,_,_,A⟩:=ra (R:=R) (N:=N) (v:=v) (n:=3) (by omega) (by omega)
  rw[j,show((Nat.beq 0 0)&&((Nat.beq (List.length c.av) 8)&&(Nat.beq 8 8)))=true from rfl,ct,s,u,z]
  have q:∀ x y:Int,Kn N K c.av m v x y=K true:=fun x y=>by
   unfold Kn
   rw[A]
   exact L9 (L9 (L9 (VM hs e) (VM hs e)) (VM hs e)) (VM hs e)
  exact L9 (q _ _) (q _ _)
 ·rw[zR e,show(true==true)=true from rfl,ct]
  refine(lZ hs).trans ?_
  refine(fk hs (by omega)).trans ?_
  simp
end
end Gx.Cf

namespace Gx
open Go Go.Proofs Go.RowKit
section
variable {W:World} {H:Type} {enc:TypeId×Value→H} {β:Cp} {h:Aj}
theorem Axx:Opens Tryz.prog 78 (α:=Cf.EvD) Cf.EvD.av 4 :=
 (nX Tryz.underlying78 (by kernel_rfl) (by decide) (Md rfl (N9 Tryz.underlying3 (by kernel_rfl)) (Md rfl (N9 Tryz.underlying3 (by kernel_rfl)) (Md rfl (N9 Tryz.underlying3 (by kernel_rfl)) (Md rfl (N9 Tryz.underlying3 (by kernel_rfl)) Aan))))).map _ (fun p=>⟨p.1.1,p.2.1.1,p.2.2.1.1,p.2.2.2.1.1⟩) (fun _=>rfl) (fun _=>rfl)
theorem Axy {a:Option Addr} {len cap:Nat} {d:DataW H} {p:List MemPlace} (b:DataW.Trod enc Tryz.prog W 0 (fun _=>true) true 73 (.slice a len cap) d p) :
  ∃ l:List Cf.EvD,l.length≤maxLen∧Rep (fun _ k=>k<W.heap.size) β h W (.imm (l.flatMap Cf.EvD.av) l.length 4 false false) (.slice a len cap) :=
 A2p (β:=β) (h:=h) Tryz.underlying73 (by kernel_rfl) Axx b
end
end Gx

namespace Gx.Cf
open Go Go.Proofs
section
variable {R:Type}
structure NamesOk (l:List (List UInt8)):Prop where
 ok:∀ w ∈ l,Rt w=true
 nd:l.Nodup
theorem Agr {l:List (List UInt8)} (h:∀ i (hi:i<l.length),∃ k:Int,Lu (l.take i) k i l[i] none=none):NamesOk l:=by
 have e:∀ i (hi:i<l.length),Rt l[i]=true∧∀ x ∈ l.take i,x≠l[i]:=fun i hi=>by
  obtain⟨k,b⟩:=h i hi
  unfold Lu at b
  obtain⟨d,c⟩:=Dl b
  obtain⟨_,f⟩:=Dl d
  refine⟨f,fun x m=>?_⟩
  rw[List.all_eq_true] at c
  simpa using c x m
 refine⟨fun w n=>?_,?_⟩
 ·obtain⟨i,hi,rfl⟩:=List.getElem_of_mem n
  exact(e i hi).1
 ·rw[List.nodup_iff_pairwise_ne,List.pairwise_iff_getElem]
  intro i j hi q s
  exact(e j q).2 _ (by rw[List.mem_take_iff_getElem];exact⟨i,by omega,rfl⟩)
theorem fm {c:CaseD} (d:Cc c=none) {f:Int} {l:List (List UInt8)} (b:K6 c f=some l):NamesOk l:=by
 have h:a6 c=none:=by
  unfold Cc at d
  split at d
  ·cases d
  ·rename_i k;exact k
 unfold a6 at h
 obtain⟨m,_⟩:=Gc (fun _ _ _=>Lw) _ _ _ h
 obtain⟨n,_⟩:=Gc (fun j a x=>Rj j a x) _ _ _ m
 obtain⟨q,_⟩:=Gc (fun j a x=>Mi j a x) _ _ _ n
 obtain⟨s,o3⟩:=Gc (fun j a x=>P3 j a x) _ _ _ q
 obtain⟨t,o2⟩:=Gc (fun j a x=>T1 j a x) _ _ _ s
 obtain⟨_,o1⟩:=Gc (fun j a x=>FW j a x) _ _ _ t
 unfold K6 at b
 split at b
 ·cases b
  refine Agr fun i hi=>⟨1,?_⟩
  rw[List.length_map] at hi
  have:=o1 i hi
  rw[Nat.zero_add] at this
  cases hn:Lu ((c.buses.l.map (·.name)).take i) 1 (i:Int) c.buses.l[i].name none with
  | none=>rw[List.getElem_map];exact hn
  | some x =>
   have e:Adq c i c.buses.l[i] none=Adq c i c.buses.l[i] (some x):=by unfold Adq;rw[hn];rfl
   rw[this,FW] at e
   cases e
 ·split at b
  ·cases b
   refine Agr fun i hi=>⟨3,?_⟩
   rw[List.length_map] at hi
   have:=o3 i hi
   rw[Nat.zero_add] at this
   cases hn:Lu ((c.units.l.map (·.name)).take i) 3 (i:Int) c.units.l[i].name none with
   | none=>rw[List.getElem_map];exact hn
   | some x =>
    have e:QA c i c.units.l[i] none=QA c i c.units.l[i] (some x):=by unfold QA;rw[hn];rfl
    rw[this,P3] at e
    cases e
  ·split at b
   ·cases b
    refine Agr fun i hi=>⟨2,?_⟩
    rw[List.length_map] at hi
    have:=o2 i hi
    rw[Nat.zero_add] at this
    cases hn:Lu ((c.lines.l.map (·.name)).take i) 2 (i:Int) c.lines.l[i].name none with
    | none=>rw[List.getElem_map];exact hn
    | some x =>
     have e:KZ c i c.lines.l[i] none=KZ c i c.lines.l[i] (some x):=by unfold KZ;rw[hn];rfl
     rw[this,T1] at e
     cases e
   ·cases b
def Axz:List (List UInt8)→List UInt8
 | []=>[]
 | [w]=>w
 | w::r=>w++32::Axz r
def fq (c:CaseD) (f v:Int):List (List UInt8):=if f=0 then [] else match K6 c f with | some l=>[l.getD v.toNat []] | none=>[Af3 v]
def A9y (c:CaseD) (i:Nat) (a b v:Int):List (List UInt8):=Nr.getD i []::(fq c (CA i 0) a++(fq c (CA i 1) b++fq c (CA i 2) v))
def G5 (c:CaseD) (f v:Int):Prop:=if f=0 then v=0 else match K6 c f with | some l=>0≤v∧v<(l.length:Int) | none=>-9223372036854775808≤v∧v≤9223372036854775807
theorem Amx {z:Int} (h:-9223372036854775808≤z∧z≤9223372036854775807):(Aqf z.natAbs).length≤20:=by
 rw[A81 (by omega)]
 have:z.natAbs≤9223372036854775808:=by omega
 exact Nat.lt_of_le_of_lt this (by decide)
theorem tj {N:Nat} {c:CaseD} (hs:Small c N) (hH:1≤c.hours∧c.hours≤24) {k a b v:Int} (h:S8 c k a b v=true):∃ i:Nat,i<8∧k=(i:Int)+1∧G5 c (CA i 0) a∧G5 c (CA i 1) b∧G5 c (CA i 2) v:=by
 have D:=hs.bus.2;have F:=hs.uni.2;have G:=hs.lin.2
 have d:∀ {lo hi x:Int},BV lo hi x=true→lo≤x∧x≤hi:=fun {lo hi x} h=>by unfold BV at h;simpa using h
 have z:∀ x:Int,BV 0 0 x=true→G5 c 0 x:=fun x j=>by have:=d j;unfold G5;rw[if_pos rfl];omega
 have n1:∀ x:Int,BV 0 ((c.buses.l.length:Int) - 1) x=true→G5 c 1 x:=fun x j=>by have:=d j;unfold G5 K6;rw[if_neg (by decide),if_pos rfl];show 0≤x∧x<((c.buses.l.map (·.name)).length:Int);rw[List.length_map];omega
 have n2:∀ x:Int,BV 0 ((c.units.l.length:Int) - 1) x=true→G5 c 2 x:=fun x j=>by have:=d j;unfold G5 K6;rw[if_neg (by decide),if_neg (by decide),if_pos rfl];show 0≤x∧x<((c.units.l.map (·.name)).length:Int);rw[List.length_map];omega
 have n3:∀ x:Int,BV 0 ((c.lines.l.length:Int) - 1) x=true→G5 c 3 x:=fun x j=>by have:=d j;unfold G5 K6;rw[if_neg (by decide),if_neg (by decide),if_neg (by decide),if_pos rfl];show 0≤x∧x<((c.lines.l.map (·.name)).length:Int);rw[List.length_map];omega
 have nn:∀ f x:Int,3<f→-9223372036854775808≤x∧x≤9223372036854775807→G5 c f x:=fun f x I j=>by unfold G5 K6;rw[if_neg (by omega),if_neg (by omega),if_neg (by omega),if_neg (by omega)];exact j
 have sg:∀ a:Int,(Af7 c a:Int)≤4611686018427387904:=fun a=>by
  unfold Af7
  cases hq:c.units.l[a.toNat]? with
  | none=>simp
  | some u=>have:=(hs.seg u (List.mem_of_getElem? hq)).2;simp;omega
 unfold S8 at h
 by_cases m:k=1
 ·rw[if_pos m] at h;simp only[Bool.and_eq_true] at h;obtain⟨e1,e,e3⟩:=h
  exact⟨0,by omega,by omega,n1 _ e1,nn 4 _ (by decide) (by have:=d e;omega),nn 7 _ (by decide) (by have:=d e3;omega)⟩
 rw[if_neg m] at h
 by_cases n:k=2
 ·rw[if_pos n] at h;simp only[Bool.and_eq_true] at h;obtain⟨e1,e,e3⟩:=h
  exact⟨1,by omega,by omega,n2 _ e1,nn 5 _ (by decide) (by have:=d e;omega),z _ e3⟩
 rw[if_neg n] at h
 by_cases q:k=3
 ·rw[if_pos q] at h;simp only[Bool.and_eq_true] at h;obtain⟨e1,e,e3⟩:=h
  exact⟨2,by omega,by omega,n3 _ e1,nn 5 _ (by decide) (by have:=d e;omega),z _ e3⟩
 rw[if_neg q] at h
 by_cases s:k=4
 ·rw[if_pos s] at h;simp only[Bool.and_eq_true] at h;obtain⟨e1,e,e3⟩:=h
  exact⟨3,by omega,by omega,n2 _ e1,nn 6 _ (by decide) (by have:=d e;have:=sg a;omega),nn 8 _ (by decide) (by have:=d e3;omega)⟩
 rw[if_neg s] at h
 by_cases t:k=5
 ·rw[if_pos t] at h;simp only[Bool.and_eq_true] at h;obtain⟨e1,e,e3⟩:=h
  exact⟨4,by omega,by omega,z _ e1,z _ e,z _ e3⟩
 rw[if_neg t] at h
 by_cases y:k=6
 ·rw[if_pos y] at h;simp only[Bool.and_eq_true] at h;obtain⟨e1,e,e3⟩:=h
  exact⟨5,by omega,by omega,z _ e1,z _ e,nn 9 _ (by decide) (by have:=d e3;omega)⟩
 rw[if_neg y] at h
 by_cases A:k=7
 ·rw[if_pos A] at h;simp only[Bool.and_eq_true] at h;obtain⟨e1,e,e3⟩:=h
  exact⟨6,by omega,by omega,z _ e1,z _ e,z _ e3⟩
 rw[if_neg A] at h
 by_cases C:k=8
 ·rw[if_pos C] at h;simp only[Bool.and_eq_true] at h;obtain⟨e1,e,e3⟩:=h
  exact⟨7,by omega,by omega,z _ e1,nn 4 _ (by decide) (by have:=d e;omega),z _ e3⟩
 rw[if_neg C] at h
 cases h
def U2 (c:CaseD) (e:EvD):List UInt8:=Axz (A9y c (e.k - 1).toNat e.a e.b e.v)
def FL (c:CaseD) (l:List EvD):List UInt8:=l.flatMap fun e=>U2 c e++[10]
def rx (c:CaseD) (e:EvD):Bool:=S8 c e.k e.a e.b e.v
end
end Gx.Cf

namespace Gx
open Go Go.Proofs
open IntKind (wrap)
set_option maxRecDepth 100000
noncomputable section
variable {R:Type} (N:Nat)
def Dq (k0:Nat→Int→LA→O R) (r0:Nat→LA→O R) (g:Int) (i:Bool) (e b:LA) (c:Nat) (d:Bool) (f:Nat) (r:Int) (p:LA):O R :=
 (Ac N 10 b c false d r (fun v t=>(cond (Ae v 10) (Ap .i64 (List.drop (0+((v.toNat)*1)) [(.int .i64 5),(.int .i64 1),(.int .i64 2),(.int .i64 4),(.int .i64 3),(.int .i64 5),(.int .i64 8),(.int .i64 6),(.int .i64 7),(.int .i64 5)]) fun q=>(cond (q==1) (Br 3 (e.drop 2) fun bn x=>(Ac N ((x:Nat):Int) b c false d t (fun y z=>(Ap .i64 e fun aa=>(Ac N aa b c false d z (fun ab ac=>(Ac N 20 b c false d ac (fun ad ae=>(cond ((Nat.ble (f+1) 140737488355328)&&(Nat.ble ((f+1)*32) 140737488355328)) (k0 (f+1) ae ((p.take (f*4))++[(.int .i64 q),(.int .i64 y),(.int .i64 ab),(.int .i64 ad)])) none))))))))) (cond (q==2) (Br 22 (e.drop 4) fun bo af=>(Ac N ((af:Nat):Int) b c false d t (fun ag ah=>(Ap .i64 e fun ai=>(Ac N ai b c false d ah (fun aj ak=>(cond ((Nat.ble (f+1) 140737488355328)&&(Nat.ble ((f+1)*32) 140737488355328)) (k0 (f+1) ak ((p.take (f*4))++[(.int .i64 q),(.int .i64 ag),(.int .i64 (wrap .i64 (1+aj))),(.int .i64 0)])) none))))))) (cond (q==4) (Br 22 (e.drop 4) fun bp al=>(Ac N ((al:Nat):Int) b c false d t (fun u w=>(Br 22 (e.drop 4) fun am an=>(cond (Ae u an) (Br 2 ((am.drop ((u.toNat)*22)).drop 4) fun bq ao=>(cond (((ao:Nat):Int)==0) (cond ((Nat.ble (f+1) 140737488355328)&&(Nat.ble ((f+1)*32) 140737488355328)) (k0 (f+1) w ((p.take (f*4))++[(.int .i64 5),(.int .i64 0),(.int .i64 0),(.int .i64 0)])) none) (Br 22 (e.drop 4) fun ap aq=>(cond (Ae u aq) (Br 2 ((ap.drop ((u.toNat)*22)).drop 4) fun br ar=>(Ac N ((ar:Nat):Int) b c false d w (fun au av=>(Ac N 60 b c false d av (fun aw ax=>(cond ((Nat.ble (f+1) 140737488355328)&&(Nat.ble ((f+1)*32) 140737488355328)) (k0 (f+1) ax ((p.take (f*4))++[(.int .i64 q),(.int .i64 u),(.int .i64 au),(.int .i64 (wrap .i64 (aw - 10)))])) none)))))) none)))) none))))) (cond (q==3) (Br 12 (e.drop 3) fun bs ay=>(cond (((ay:Nat):Int)==0) (cond ((Nat.ble (f+1) 140737488355328)&&(Nat.ble ((f+1)*32) 140737488355328)) (k0 (f+1) t ((p.take (f*4))++[(.int .i64 5),(.int .i64 0),(.int .i64 0),(.int .i64 0)])) none) (Br 12 (e.drop 3) fun bt az=>(Ac N ((az:Nat):Int) b c false d t (fun ba bb=>(Ap .i64 e fun bc=>(Ac N bc b c false d bb (fun bd be=>(cond ((Nat.ble (f+1) 140737488355328)&&(Nat.ble ((f+1)*32) 140737488355328)) (k0 (f+1) be ((p.take (f*4))++[(.int .i64 q),(.int .i64 ba),(.int .i64 (wrap .i64 (1+bd))),(.int .i64 0)])) none))))))))) (cond (q==8) (Ap .i64 e fun bf=>(Ac N bf b c false d t (fun bg bh=>(cond ((Nat.ble (f+1) 140737488355328)&&(Nat.ble ((f+1)*32) 140737488355328)) (k0 (f+1) bh ((p.take (f*4))++[(.int .i64 q),(.int .i64 0),(.int .i64 bg),(.int .i64 0)])) none)))) (cond (q==6) (Ac N 200 b c false d t (fun bi bj=>(cond ((Nat.ble (f+1) 140737488355328)&&(Nat.ble ((f+1)*32) 140737488355328)) (k0 (f+1) bj ((p.take (f*4))++[(.int .i64 q),(.int .i64 0),(.int .i64 0),(.int .i64 bi)])) none))) (cond ((Nat.ble (f+1) 140737488355328)&&(Nat.ble ((f+1)*32) 140737488355328)) (k0 (f+1) t ((p.take (f*4))++[(.int .i64 q),(.int .i64 0),(.int .i64 0),(.int .i64 0)])) none)))))))) none)))
def Ta (r0:Nat→LA→O R) (g:Int) (i:Bool) (e b:LA) (c:Nat) (d:Bool) (k0:Nat→Int→LA→O R) (q1:Nat→Int→LA→O R) (l:Nat) (o:Int) (m:LA):O R :=
 (FK N b c false d o (fun bk=>(cond (bk==true) (cond (cond true (decide (((l:Nat):Int)<g)) false) (q1 l o m) (r0 l m)) (r0 l m))))
def D6 (r0:Nat→LA→O R) (g:Int) (i:Bool) (e b:LA) (c:Nat) (d:Bool):Nat→Nat→Int→LA→O R
 | 0,_,_,_=>none
 | n+1,l,o,m=>(Ta N r0 g i e b c d (D6 r0 g i e b c d n) (fun f r p=>(Dq N (D6 r0 g i e b c d n) r0 g i e b c d f r p)) l o m)
def VN (r0:Nat→LA→O R) (q0:Nat→Int→LA→O R) (e:LA) (i:Bool) (b:LA) (c:Nat) (s d:Bool) (g:Int):O R :=
 (Ac1 N b c false d (q0 0 0 []))
def GA:=(Ag (fun (N:Nat) (e:LA) (i:Bool) (b:LA) (c:Nat) (s d:Bool) (g:Int) (r0:Nat→LA→O R)=>(VN N r0 (fun l o m=>(D6 N r0 g i e b c d N l o m)) e i b c s d g))).1
theorem l7 (e i b c s d g r0):(@GA R N e i b c s d g r0)=(VN N r0 (fun l o m=>(D6 N r0 g i e b c d N l o m)) e i b c s d g):=by rw[GA,(Ag _).2]
def rc:Hints:={ H:=(hS hL (hS hL (hS hL (hS (hS (hP [2,3,7,8] (hJ [2,3,7,8] hL hL)) hL) hL)))),nils:=[(6,4),(8,4)],modes:=[(2,4)] }
def xy:F2:=[(96,Alf N),(111,yt N),(97,G7 N)]
def rf (F:KF R):=Ju Tryz.f50 rc (xy N) [] N F
def Ns (F:KF R):Nat→LA→O R:=(fun bl bm=>F (.own 300000 0 bl) (hq [(bQ 4 bm)]))
def Arm (g:Int) (i:Bool) (e b:LA) (c:Nat) (d:Bool) (f:Nat) (r:Int) (p:LA):St:=⟨[(2,(iv g)),(3,(op 0)),(7,(op 1)),(8,(.own 300002 0 f))],(hq [(bP i 0 e),(bN 0 [(.imm b c 1 false d),(iv r)]),(bQ 4 p)])⟩
def Arn (F:KF R) (Q0:St→O R):=rf N F [1,1,1,0,0,0,1] [Q0]
def rg (g:Int) (i:Bool) (e b:LA) (c:Nat) (d:Bool) (l:Nat) (o:Int) (m:LA):St:=⟨[(2,(iv g)),(3,(op 0)),(7,(op 1)),(8,(.own 300002 0 l))],(hq [(bP i 0 e),(bN 0 [(.imm b c 1 false d),(iv o)]),(bQ 4 m)])⟩
def ri (F:KF R):=rf N F [1,1,1,0,0] []
theorem yv (Q0:St→O R) (F:KF R) (g:Int) (i:Bool) (e b:LA) (c:Nat) (d:Bool):∀ (f:Nat) (r:Int) (p:LA),B5 (Arn N F Q0) (Arm g i e b c d f r p)=(Dq N (fun l o m=>Q0 (rg g i e b c d l o m)) (Ns F) g i e b c d f r p):=by
 intro f r p
 kernel_rfl
theorem aL (F:KF R) (g:Int) (i:Bool) (e b:LA) (c:Nat) (d:Bool):∀ (n l:Nat) (o:Int) (m:LA),Ak (ri N F) n (rg g i e b c d l o m)=(D6 N (Ns F) g i e b c d n l o m)
 | 0,_,_,_=>by kernel_rfl
 | n+1,l,o,m=>have e0:=(funext fun l=>funext fun o=>funext fun m=>(aL F g i e b c d n l o m))
  Eq.trans (by kernel_rfl) (OQ (Ta N (Ns F) g i e b c d · · l o m) e0 (funext fun f=>funext fun r=>funext fun p=>(A1 ..).trans ((yv N (Ak (ri N F) n) F g i e b c d f r p).trans (Bt (Dq N · (Ns F) g i e b c d f r p) e0))):_)
theorem rj (e:LA) (i:Bool) (b:LA) (c:Nat) (s d:Bool) (g:Int) (F:KF R):Cw (xy N) rc N 50 [(.pagg e i),(.imm b c 1 s d),(iv g)] [] F=(GA N e i b c s d g (Ns F)):=by
 rw[l7]
 exact Eq.trans (by kernel_rfl) (Bt (VN N (Ns F) · e i b c s d g) (funext fun l=>funext fun o=>funext fun m=>(Ad ..).trans (aL N F g i e b c d N l o m)):_)
def l8 (a:LA) (h:Aj) (k:KF R):O R :=
 match a,h with
 | [(.pagg e i),(.imm b c 1 s d),(.int .i64 g)],[]=>(GA N e i b c s d g (Ns k))
 | _,_=>none
theorem rk:An N 50 @l8:=by
 intro R Q a h k j;unfold l8;split;exact A2 (rj ..) (rj ..) ⟨Alg N,yu N,G8 N,trivial⟩;exact A4
def Aro:=A3 (rk N)
def Arp:=Cz (rk N)
def Ok (k2:Int→Int→Nat→LA→O R) (r0:List UInt8→Int→O R) (b:LA) (e:Nat) (g f d:Bool) (c:LA) (k1:Int→Int→Int→Int→Int→Int→Nat→LA→LA→O R) (r s o p q i:Int) (t:Nat) (l u:LA):O R :=
 (cond (decide (i<3)) (cond (Ae i 3) (cond (Nat.beq ((i.toNat)*1) 0) (cond (Ae i 3) (Ap .i64 (l.drop (2+((i.toNat)*1))) fun ai=>(cond (ai==0) (k1 r s o p q (wrap .i64 (i+1)) t l u) (strconv_Itoa N o (fun ab=>(cond (Nat.ble 8 (c.length)) (cond (Ae i 3) (Ap .i64 (l.drop (2+((i.toNat)*1))) fun aj=>(Ki N (c.take 8) d aj (fun ak al am=>(cond al (cond (Ae o ak) (Ts (am.drop (0+((o.toNat)*1))) fun ac=>(cond (Nat.ble (1+(ac.length)) 140737488355328) (Bk N (([32]:List UInt8)++ac) t u (fun ci an ao=>(k1 r s o p q (wrap .i64 (i+1)) an l ao))) none)) none) (cond (Nat.ble (1+(ab.length)) 140737488355328) (Bk N (([32]:List UInt8)++ab) t u (fun cj ap aq=>(k1 r s o p q (wrap .i64 (i+1)) ap l aq))) none))))) none) none))))) none) (cond (Nat.beq ((i.toNat)*1) 1) (cond (Ae i 3) (Ap .i64 (l.drop (2+((i.toNat)*1))) fun ar=>(cond (ar==0) (k1 r s o p q (wrap .i64 (i+1)) t l u) (strconv_Itoa N p (fun ad=>(cond (Nat.ble 8 (c.length)) (cond (Ae i 3) (Ap .i64 (l.drop (2+((i.toNat)*1))) fun au=>(Ki N (c.take 8) d au (fun av aw ax=>(cond aw (cond (Ae p av) (Ts (ax.drop (0+((p.toNat)*1))) fun ae=>(cond (Nat.ble (1+(ae.length)) 140737488355328) (Bk N (([32]:List UInt8)++ae) t u (fun ck ay az=>(k1 r s o p q (wrap .i64 (i+1)) ay l az))) none)) none) (cond (Nat.ble (1+(ad.length)) 140737488355328) (Bk N (([32]:List UInt8)++ad) t u (fun cl ba bb=>(k1 r s o p q (wrap .i64 (i+1)) ba l bb))) none))))) none) none))))) none) (cond (Nat.beq ((i.toNat)*1) 2) (cond (Ae i 3) (Ap .i64 (l.drop (2+((i.toNat)*1))) fun bc=>(cond (bc==0) (k1 r s o p q (wrap .i64 (i+1)) t l u) (strconv_Itoa N q (fun af=>(cond (Nat.ble 8 (c.length)) (cond (Ae i 3) (Ap .i64 (l.drop (2+((i.toNat)*1))) fun bd=>(Ki N (c.take 8) d bd (fun be bf bg=>(cond bf (cond (Ae q be) (Ts (bg.drop (0+((q.toNat)*1))) fun ag=>(cond (Nat.ble (1+(ag.length)) 140737488355328) (Bk N (([32]:List UInt8)++ag) t u (fun cm bh bi=>(k1 r s o p q (wrap .i64 (i+1)) bh l bi))) none)) none) (cond (Nat.ble (1+(af.length)) 140737488355328) (Bk N (([32]:List UInt8)++af) t u (fun cn bj bk=>(k1 r s o p q (wrap .i64 (i+1)) bj l bk))) none))))) none) none))))) none) none))) none) (Bk N ([10]:List UInt8) t u (fun co bl bm=>(k2 r (wrap .i64 (s+1)) bl bm))))
def Ch (k2:Int→Int→Nat→LA→O R) (r0:List UInt8→Int→O R) (b:LA) (e:Nat) (g f d:Bool) (c:LA):Nat→Int→Int→Int→Int→Int→Int→Nat→LA→LA→O R
 | 0,_,_,_,_,_,_,_,_,_=>none
 | n+1,r,s,o,p,q,i,t,l,u=>(Ok N k2 r0 b e g f d c (Ch k2 r0 b e g f d c n) r s o p q i t l u)
def Z0 (r0:List UInt8→Int→O R) (b:LA) (e:Nat) (g f d:Bool) (c:LA) (k2:Int→Int→Nat→LA→O R) (q1:Int→Int→Int→Int→Int→Int→Nat→LA→LA→O R) (v m:Int) (w:Nat) (x:LA):O R :=
 (cond (decide (m<v)) (cond (Ae m e) (cond (Nat.ble 4 ((b.drop ((m.toNat)*4)).length)) (cond ((!f)||(Az ((b.drop ((m.toNat)*4)).take 4))) (cond ((Nat.beq (((b.drop ((m.toNat)*4)).take 4).length) 4)&&((Nat.ble 4 4)&&(!false))) (cond (Nat.ble 8 (c.length)) (cond (Nat.ble 4 ((setCells [(.int .i64 0),(.int .i64 0),(.int .i64 0),(.int .i64 0)] 0 ((b.drop ((m.toNat)*4)).take 4)).length)) (Qq N (c.take 8) d ((setCells [(.int .i64 0),(.int .i64 0),(.int .i64 0),(.int .i64 0)] 0 ((b.drop ((m.toNat)*4)).take 4)).take 4) false (fun bn=>(cond (!bn) (r0 ([]:List UInt8) 1) (Ap .i64 (setCells [(.int .i64 0),(.int .i64 0),(.int .i64 0),(.int .i64 0)] 0 ((b.drop ((m.toNat)*4)).take 4)) fun bo=>(L7 N bo (fun z cp=>(cond ((Nat.beq 0 0)&&((Nat.beq (z.length) 5)&&(Nat.beq 5 5))) (Ts (z.drop 1) fun bp=>(Bk N bp w x (fun cq bq br=>(Ap .i64 ((setCells [(.int .i64 0),(.int .i64 0),(.int .i64 0),(.int .i64 0)] 0 ((b.drop ((m.toNat)*4)).take 4)).drop 1) fun bs=>(Ap .i64 ((setCells [(.int .i64 0),(.int .i64 0),(.int .i64 0),(.int .i64 0)] 0 ((b.drop ((m.toNat)*4)).take 4)).drop 2) fun bt=>(Ap .i64 ((setCells [(.int .i64 0),(.int .i64 0),(.int .i64 0),(.int .i64 0)] 0 ((b.drop ((m.toNat)*4)).take 4)).drop 3) fun bu=>(q1 v m bs bt bu 0 bq z br))))))) none))))))) none) none) none) none) none) none) (Vp N w x (fun bv=>(r0 bv 0))))
def Fj (r0:List UInt8→Int→O R) (b:LA) (e:Nat) (g f d:Bool) (c:LA):Nat→Int→Int→Nat→LA→O R
 | 0,_,_,_,_=>none
 | n+1,v,m,w,x=>(Z0 N r0 b e g f d c (Fj r0 b e g f d c n) (fun r s o p q i t l u=>(Ch N (Fj r0 b e g f d c n) r0 b e g f d c N r s o p q i t l u)) v m w x)
def Z1 (r0:List UInt8→Int→O R) (b:LA) (e:Nat) (g f d:Bool) (c:LA) (k0:Int→O R) (k2:Int→Int→Nat→LA→O R) (q1:Int→Int→Int→Int→Int→Int→Nat→LA→LA→O R) (y:Int):O R :=
 (cond (decide (0<y)) (cond (Ae 0 e) (cond (Nat.ble 4 (b.length)) (cond ((!f)||(Az (b.take 4))) (cond ((Nat.beq ((b.take 4).length) 4)&&((Nat.ble 4 4)&&(!false))) (cond (Nat.ble 8 (c.length)) (cond (Nat.ble 4 ((setCells [(.int .i64 0),(.int .i64 0),(.int .i64 0),(.int .i64 0)] 0 (b.take 4)).length)) (Qq N (c.take 8) d ((setCells [(.int .i64 0),(.int .i64 0),(.int .i64 0),(.int .i64 0)] 0 (b.take 4)).take 4) false (fun bw=>(cond (!bw) (r0 ([]:List UInt8) 1) (Ap .i64 (setCells [(.int .i64 0),(.int .i64 0),(.int .i64 0),(.int .i64 0)] 0 (b.take 4)) fun bx=>(L7 N bx (fun aa cr=>(cond ((Nat.beq 0 0)&&((Nat.beq (aa.length) 5)&&(Nat.beq 5 5))) (Ts (aa.drop 1) fun bz=>(Pq N bz (fun cs ca cb=>(Ap .i64 ((setCells [(.int .i64 0),(.int .i64 0),(.int .i64 0),(.int .i64 0)] 0 (b.take 4)).drop 1) fun cc=>(Ap .i64 ((setCells [(.int .i64 0),(.int .i64 0),(.int .i64 0),(.int .i64 0)] 0 (b.take 4)).drop 2) fun cd=>(Ap .i64 ((setCells [(.int .i64 0),(.int .i64 0),(.int .i64 0),(.int .i64 0)] 0 (b.take 4)).drop 3) fun ce=>(q1 y 0 cc cd ce 0 ca aa cb))))))) none))))))) none) none) none) none) none) none) (gd N (r0 ([]:List UInt8) 0)))
def Hu (r0:List UInt8→Int→O R) (b:LA) (e:Nat) (g f d:Bool) (c:LA):Nat→Int→O R
 | 0,_=>none
 | n+1,y=>(Z1 N r0 b e g f d c (Hu r0 b e g f d c n) (fun v m w x=>(Fj N r0 b e g f d c n v m w x)) (fun r s o p q i t l u=>(Ch N (fun v m w x=>(Fj N r0 b e g f d c n v m w x)) r0 b e g f d c N r s o p q i t l u)) y)
def VO (r0:List UInt8→Int→O R) (q0:Int→O R) (c:LA) (d:Bool) (b:LA) (e:Nat) (g f:Bool):O R :=
 (cond (Nat.ble 8 (c.length)) (BR N (c.take 8) d (fun cf ah=>(cond ((Nat.beq (cf.length) 3)&&((Nat.ble 3 3)&&(!false))) (cond (ah != 0) (r0 ([]:List UInt8) ah) (cond (decide (((e:Nat):Int)>256)) (r0 ([]:List UInt8) 8) (q0 ((e:Nat):Int)))) none))) none)
def Yv:=(Ag (fun (N:Nat) (c:LA) (d:Bool) (b:LA) (e:Nat) (g f:Bool) (r0:List UInt8→Int→O R)=>(VO N r0 (fun y=>(Hu N r0 b e g f d c N y)) c d b e g f))).1
theorem l_ (c d b e g f r0):(@Yv R N c d b e g f r0)=(VO N r0 (fun y=>(Hu N r0 b e g f d c N y)) c d b e g f):=by rw[Yv,(Ag _).2]
def rm:Hints:={ H:=(hS hL (hS hL (hS hL (hS hL (hS (hS hL (hS (hP [2,8,29,30,31] (hS hL (hS hL (hS (hS (hS hL (hS hL (hS hL (hS hL (hS (hS hL (hS (hP [2,8,11,29,30,31,54,55] hL) hL)) hL))))) hL) hL)))) hL)) hL))))) }
def xz:F2:=[(104,fI N),(109,fV N),(112,rD N),(113,Pf N),(116,AI N),(114,WQ N),(115,xU N)]
def rn (F:KF R):=Ju Tryz.f51 rm (xz N) [] N F
def Fk (F:KF R):List UInt8→Int→O R:=(fun cg ch=>F (.tup [(.str cg),(iv ch)]) [])
def Arq (b:LA) (e:Nat) (g f d:Bool) (c:LA) (r s o p q i:Int) (t:Nat) (l u:LA):St:=⟨[(2,(op 0)),(8,(op 1)),(11,(op 2)),(29,(.imm b e 4 g f)),(30,(iv r)),(31,(iv s)),(54,(.agg [(iv o),(iv p),(iv q)])),(55,(iv i))],(hq [(bP d 0 c),⟨false,false,false,false,0,[(op 1),(.own 300003 0 t)],false,(some (168,2))⟩,(bQ 0 l),⟨false,false,true,false,1,u,false,(some (5,0))⟩])⟩
def Arr (F:KF R) (Q0:St→O R):=rn N F [1,1,1,1,0,1,0,0,1,1,0,0,1,1,1,1,0,1,0] [Q0]
def VP (b:LA) (e:Nat) (g f d:Bool) (c:LA) (v m:Int) (w:Nat) (x:LA):St:=⟨[(2,(op 0)),(8,(op 1)),(29,(.imm b e 4 g f)),(30,(iv v)),(31,(iv m))],(hq [(bP d 0 c),⟨false,false,false,false,0,[(op 1),(.own 300002 0 w)],false,(some (168,2))⟩,⟨false,false,true,false,1,x,false,(some (5,0))⟩])⟩
def Ars (b:LA) (e:Nat) (g f d:Bool) (c:LA) (y:Int):St:=⟨[(2,(op 0)),(8,(op 1)),(29,(.imm b e 4 g f)),(30,(iv y)),(31,(iv 0))],(hq [(bP d 0 c),⟨false,false,false,false,0,[.nilptr,.nsl],false,(some (168,2))⟩])⟩
def FM (F:KF R):=rn N F [1,1,1,1,0,1,0] []
theorem CL (Q0:St→O R) (F:KF R) (b:LA) (e:Nat) (g f d:Bool) (c:LA):∀ (n:Nat) (r s o p q i:Int) (t:Nat) (l u:LA),Ak (Arr N F Q0) n (Arq b e g f d c r s o p q i t l u)=(Ch N (fun v m w x=>Q0 (VP b e g f d c v m w x)) (Fk F) b e g f d c n r s o p q i t l u)
 | 0,_,_,_,_,_,_,_,_,_=>by kernel_rfl
 | n+1,r,s,o,p,q,i,t,l,u=>Eq.trans (by kernel_rfl) (Bt (Ok N (fun v m w x=>Q0 (VP b e g f d c v m w x)) (Fk F) b e g f d c · r s o p q i t l u) (funext fun r=>funext fun s=>funext fun o=>funext fun p=>funext fun q=>funext fun i=>funext fun t=>funext fun l=>funext fun u=>(CL Q0 F b e g f d c n r s o p q i t l u)):_)
theorem CM (F:KF R) (b:LA) (e:Nat) (g f d:Bool) (c:LA):∀ (n:Nat) (v m:Int) (w:Nat) (x:LA),Ak (FM N F) n (VP b e g f d c v m w x)=(Fj N (Fk F) b e g f d c n v m w x)
 | 0,_,_,_,_=>by kernel_rfl
 | n+1,v,m,w,x=>have e0:=(funext fun v=>funext fun m=>funext fun w=>funext fun x=>(CM F b e g f d c n v m w x))
  Eq.trans (by kernel_rfl) (OQ (Z0 N (Fk F) b e g f d c · · v m w x) e0 (funext fun r=>funext fun s=>funext fun o=>funext fun p=>funext fun q=>funext fun i=>funext fun t=>funext fun l=>funext fun u=>(Ad ..).trans ((CL N (Ak (FM N F) n) F b e g f d c N r s o p q i t l u).trans (Bt (Ch N · (Fk F) b e g f d c N r s o p q i t l u) e0))):_)
theorem aM (F:KF R) (b:LA) (e:Nat) (g f d:Bool) (c:LA):∀ (n:Nat) (y:Int),Ak (FM N F) n (Ars b e g f d c y)=(Hu N (Fk F) b e g f d c n y)
 | 0,_=>by kernel_rfl
 | n+1,y=>have e0:=(funext fun y=>(aM F b e g f d c n y))
  Eq.trans (by kernel_rfl) (Bbw (Z1 N (Fk F) b e g f d c · · · y) e0 (funext fun v=>funext fun m=>funext fun w=>funext fun x=>(CM N F b e g f d c n v m w x)) (funext fun r=>funext fun s=>funext fun o=>funext fun p=>funext fun q=>funext fun i=>funext fun t=>funext fun l=>funext fun u=>(Ad ..).trans ((CL N (Ak (FM N F) n) F b e g f d c N r s o p q i t l u).trans (Bt (Ch N · (Fk F) b e g f d c N r s o p q i t l u) (funext fun v=>funext fun m=>funext fun w=>funext fun x=>(CM N F b e g f d c n v m w x))))):_)
theorem ro (c:LA) (d:Bool) (b:LA) (e:Nat) (g f:Bool) (F:KF R):Cw (xz N) rm N 51 [(.pagg c d),(.imm b e 4 g f)] [] F=(Yv N c d b e g f (Fk F)):=by
 rw[l_]
 exact Eq.trans (by kernel_rfl) (Bt (VO N (Fk F) · c d b e g f) (funext fun y=>(Ad ..).trans (aM N F b e g f d c N y)):_)
def lc (a:LA) (h:Aj) (k:KF R):O R :=
 match a,h with
 | [(.pagg c d),(.imm b e 4 g f)],[]=>(Yv N c d b e g f (Fk k))
 | _,_=>none
theorem rp:An N 51 @lc:=by
 intro R Q a h k j;unfold lc;split;exact A2 (ro ..) (ro ..) ⟨fJ N,fW N,rE N,Pg N,AJ N,yL N,xV N,trivial⟩;exact A4
def Art:=A3 (rp N)
def Aru:=Cz (rp N)
def Wt (N:Nat) (r0:List UInt8→O R) (k0:Int→List UInt8→O R) (b:Int) (c:List UInt8):O R :=
 (cond (decide (b>0)) (Option.bind (IY [(.int .u8 (wrap .u8 (wrap .i64 (48+(Int.tmod b 10)))))]) fun e=>(cond (Nat.ble ((e.length)+(c.length)) 140737488355328) (k0 (wrap .i64 (Int.tdiv b 10)) (e++c)) none)) (r0 c))
def Ih (r0:List UInt8→O R):Nat→Int→List UInt8→O R
 | 0,_,_=>none
 | n+1,b,c=>(Wt N r0 (Ih r0 n) b c)
def MM (N:Nat) (r0:List UInt8→O R) (q0:Int→List UInt8→O R) (d:Int):O R :=
 (Option.bind (IY [(.int .u8 (wrap .u8 (wrap .i64 (48+(Int.tmod d 10)))))]) fun f=>(q0 (wrap .i64 (Int.tdiv d 10)) f))
def Ue:=(Ag (fun (N:Nat) (d:Int) (r0:List UInt8→O R)=>(MM N r0 (fun b c=>(Ih N r0 N b c)) d))).1
theorem ft (d r0):(@Ue R N d r0)=(MM N r0 (fun b c=>(Ih N r0 N b c)) d):=by rw[Ue,(Ag _).2]
def ld:Hints:={ H:=(hS hL (hS hL (hS (hS hL (hS (hP [0,3] hL) hL)) hL))) }
def Ajm (F:KF R):=Ju Tryz.f258 ld [] [] N F
def Tb (F:KF R):List UInt8→O R:=(fun g=>F (.str g) [])
def Ajn (b:Int) (c:List UInt8):St:=⟨[(0,(iv b)),(3,(.str c))],[]⟩
def Ajo (F:KF R):=Ajm N F [1,1,0,1,0] []
theorem SB (F:KF R):∀ (n:Nat) (b:Int) (c:List UInt8),Ak (Ajo N F) n (Ajn b c)=(Ih N (Tb F) n b c)
 | 0,_,_=>by kernel_rfl
 | n+1,b,c=>Eq.trans (by kernel_rfl) (Bt (Wt N (Tb F) · b c) (funext fun b=>funext fun c=>(SB F n b c)):_)
theorem lf (d:Int) (F:KF R):Cw [] ld N 258 [(iv d)] [] F=(Ue N d (Tb F)):=by
 rw[ft]
 exact Eq.trans (by kernel_rfl) (Bt (MM N (Tb F) · d) (funext fun b=>funext fun c=>(Ad ..).trans (SB N F N b c)):_)
def fu (a:LA) (h:Aj) (k:KF R):O R :=
 match a,h with
 | [(.int .i64 d)],[]=>(Ue N d (Tb k))
 | _,_=>none
theorem lh:An N 258 @fu:=by
 intro R Q a h k j;unfold fu;split;exact A2 (lf ..) (lf ..) trivial;exact A4
def Ajp:=A3 (lh N)
def Ajq:=Cz (lh N)
def fv (b:Int) (r0:List UInt8→O R):O R :=
 (cond (decide (b<0)) (Ue N (wrap .i64 ((0:Int) - b)) (fun c=>(cond (Nat.ble (1+(c.length)) 140737488355328) (r0 (([45]:List UInt8)++c)) none))) (Ue N b (fun d=>(r0 d))))
def Gd:=(Ag (@fv R)).1
theorem fw:@Gd R=@fv R:=(Ag _).2
def Arv:F2:=[(258,Ajp N)]
def li (F:KF R):List UInt8→O R:=(fun e=>F (.str e) [])
theorem lj (b:Int) (F:KF R):Cw (Arv N) Cr N 193 [(iv b)] [] F=(Gd N b (li F)):=by
 rw[fw]
 kernel_rfl
def fx (a:LA) (h:Aj) (k:KF R):O R :=
 match a,h with
 | [(.int .i64 b)],[]=>(Gd N b (li k))
 | _,_=>none
theorem lk:An N 193 @fx:=by
 intro R Q a h k j;unfold fx;split;exact A2 (lj ..) (lj ..) ⟨Ajq N,trivial⟩;exact A4
def Ajr:=A3 (lk N)
def Ajs:=Cz (lk N)
def tk (c:LA) (g:Bool) (b:LA) (i:Bool) (r0:List UInt8→O R):O R :=
 (Ap .i64 b fun d=>(cond (d==1) (Br 3 (c.drop 2) fun z aa=>(Ap .i64 (b.drop 1) fun p=>(cond (Ae p aa) (Ts (z.drop ((p.toNat)*3)) fun e=>(cond (Nat.ble (7+(e.length)) 140737488355328) (cond (Nat.ble ((List.length (([100,101,109,97,110,100,32]:List UInt8)++e))+1) 140737488355328) (Ap .i64 (b.drop 2) fun ab=>(Gd N ab (fun l=>(cond (Nat.ble ((List.length ((([100,101,109,97,110,100,32]:List UInt8)++e)++([32]:List UInt8)))+(l.length)) 140737488355328) (cond (Nat.ble ((List.length (((([100,101,109,97,110,100,32]:List UInt8)++e)++([32]:List UInt8))++l))+1) 140737488355328) (Ap .i64 (b.drop 3) fun ac=>(Gd N ac (fun q=>(cond (Nat.ble ((List.length ((((([100,101,109,97,110,100,32]:List UInt8)++e)++([32]:List UInt8))++l)++([32]:List UInt8)))+(q.length)) 140737488355328) (r0 (((((([100,101,109,97,110,100,32]:List UInt8)++e)++([32]:List UInt8))++l)++([32]:List UInt8))++q)) none)))) none) none)))) none) none)) none))) (cond (d==2) (Br 22 (c.drop 4) fun ad ae=>(Ap .i64 (b.drop 1) fun r=>(cond (Ae r ae) (Ts (ad.drop ((r.toNat)*22)) fun m=>(cond (Nat.ble (5+(m.length)) 140737488355328) (cond (Nat.ble ((List.length (([116,114,105,112,32]:List UInt8)++m))+1) 140737488355328) (Ap .i64 (b.drop 2) fun af=>(Gd N af (fun s=>(cond (Nat.ble ((List.length ((([116,114,105,112,32]:List UInt8)++m)++([32]:List UInt8)))+(s.length)) 140737488355328) (r0 (((([116,114,105,112,32]:List UInt8)++m)++([32]:List UInt8))++s)) none)))) none) none)) none))) (cond (d==3) (Br 12 (c.drop 3) fun ag ah=>(Ap .i64 (b.drop 1) fun t=>(cond (Ae t ah) (Ts (ag.drop ((t.toNat)*12)) fun n=>(cond (Nat.ble (5+(n.length)) 140737488355328) (cond (Nat.ble ((List.length (([108,105,110,101,32]:List UInt8)++n))+1) 140737488355328) (Ap .i64 (b.drop 2) fun ai=>(Gd N ai (fun u=>(cond (Nat.ble ((List.length ((([108,105,110,101,32]:List UInt8)++n)++([32]:List UInt8)))+(u.length)) 140737488355328) (r0 (((([108,105,110,101,32]:List UInt8)++n)++([32]:List UInt8))++u)) none)))) none) none)) none))) (cond (d==4) (Br 22 (c.drop 4) fun aj ak=>(Ap .i64 (b.drop 1) fun v=>(cond (Ae v ak) (Ts (aj.drop ((v.toNat)*22)) fun f=>(cond (Nat.ble (6+(f.length)) 140737488355328) (cond (Nat.ble ((List.length (([111,102,102,101,114,32]:List UInt8)++f))+1) 140737488355328) (Ap .i64 (b.drop 2) fun al=>(Gd N al (fun o=>(cond (Nat.ble ((List.length ((([111,102,102,101,114,32]:List UInt8)++f)++([32]:List UInt8)))+(o.length)) 140737488355328) (cond (Nat.ble ((List.length (((([111,102,102,101,114,32]:List UInt8)++f)++([32]:List UInt8))++o))+1) 140737488355328) (Ap .i64 (b.drop 3) fun am=>(Gd N am (fun w=>(cond (Nat.ble ((List.length ((((([111,102,102,101,114,32]:List UInt8)++f)++([32]:List UInt8))++o)++([32]:List UInt8)))+(w.length)) 140737488355328) (r0 (((((([111,102,102,101,114,32]:List UInt8)++f)++([32]:List UInt8))++o)++([32]:List UInt8))++w)) none)))) none) none)))) none) none)) none))) (cond (d==5) (r0 ([115,116,101,112]:List UInt8)) (cond (d==6) (Ap .i64 (b.drop 3) fun an=>(Gd N an (fun x=>(cond (Nat.ble (6+(x.length)) 140737488355328) (r0 (([99,114,97,115,104,32]:List UInt8)++x)) none)))) (cond (d==7) (r0 ([98,111,111,116]:List UInt8)) (Ap .i64 (b.drop 2) fun ao=>(Gd N ao (fun y=>(cond (Nat.ble (6+(y.length)) 140737488355328) (r0 (([114,101,116,114,121,32]:List UInt8)++y)) none))))))))))))
def fy:=(Ag (@tk R)).1
theorem rq:@fy R=@tk R:=(Ag _).2
def A13:F2:=[(193,Ajr N)]
def yA (F:KF R):List UInt8→O R:=(fun ap=>F (.str ap) [])
theorem yB (c:LA) (g:Bool) (b:LA) (i:Bool) (F:KF R):Cw (A13 N) Cr N 117 [(.pagg c g),(.pagg b i)] [] F=(fy N c g b i (yA F)):=by
 rw[rq]
 kernel_rfl
def rs (a:LA) (h:Aj) (k:KF R):O R :=
 match a,h with
 | [(.pagg c g),(.pagg b i)],[]=>(fy N c g b i (yA k))
 | _,_=>none
theorem yC:An N 117 @rs:=by
 intro R Q a h k j;unfold rs;split;exact A2 (yB ..) (yB ..) ⟨Ajs N,trivial⟩;exact A4
def Ax0:=A3 (yC N)
def Ax1:=Cz (yC N)
def Wu (r0:List UInt8→Int→O R) (b:LA) (d:Nat) (i f e:Bool) (c:LA) (k0:List UInt8→Int→O R) (l:List UInt8) (g:Int):O R :=
 (cond (decide (g<((d:Nat):Int))) (cond (Nat.ble 8 (c.length)) (cond (Ae g d) (cond (Nat.ble 4 ((b.drop ((g.toNat)*4)).length)) (cond ((!f)||(Az ((b.drop ((g.toNat)*4)).take 4))) (mu N (c.take 8) e ((b.drop ((g.toNat)*4)).take 4) false (fun p=>(cond (!p) (r0 ([]:List UInt8) 1) (cond (Nat.ble 8 (c.length)) (cond (Ae g d) (cond (Nat.ble 4 ((b.drop ((g.toNat)*4)).length)) (cond ((!f)||(Az ((b.drop ((g.toNat)*4)).take 4))) (fy N (c.take 8) e ((b.drop ((g.toNat)*4)).take 4) false (fun m=>(cond (Nat.ble ((l.length)+(m.length)) 140737488355328) (cond (Nat.ble ((List.length (l++m))+1) 140737488355328) (k0 ((l++m)++([10]:List UInt8)) (wrap .i64 (g+1))) none) none))) none) none) none) none)))) none) none) none) none) (r0 l 0))
def Ii (r0:List UInt8→Int→O R) (b:LA) (d:Nat) (i f e:Bool) (c:LA):Nat→List UInt8→Int→O R
 | 0,_,_=>none
 | n+1,l,g=>(Wu N r0 b d i f e c (Ii r0 b d i f e c n) l g)
def MN (r0:List UInt8→Int→O R) (q0:List UInt8→Int→O R) (c:LA) (e:Bool) (b:LA) (d:Nat) (i f:Bool):O R :=
 (cond (Nat.ble 8 (c.length)) (Ut N (c.take 8) e (fun q o=>(cond ((Nat.beq (q.length) 3)&&((Nat.ble 3 3)&&(!false))) (cond (o != 0) (r0 ([]:List UInt8) o) (cond (decide (((d:Nat):Int)>256)) (r0 ([]:List UInt8) 8) (q0 ([]:List UInt8) 0))) none))) none)
def Uf:=(Ag (fun (N:Nat) (c:LA) (e:Bool) (b:LA) (d:Nat) (i f:Bool) (r0:List UInt8→Int→O R)=>(MN N r0 (fun l g=>(Ii N r0 b d i f e c N l g)) c e b d i f))).1
theorem gA (c e b d i f r0):(@Uf R N c e b d i f r0)=(MN N r0 (fun l g=>(Ii N r0 b d i f e c N l g)) c e b d i f):=by rw[Uf,(Ag _).2]
def lm:Hints:={ H:=(hS hL (hS hL (hS hL (hS hL (hS (hS hL (hS (hP [1,2,8,9] hL) hL)) hL))))) }
def rt:F2:=[(103,UI N),(110,Amn N),(117,Ax0 N)]
def Ajt (F:KF R):=Ju Tryz.f52 lm (rt N) [] N F
def Tc (F:KF R):List UInt8→Int→O R:=(fun r s=>F (.tup [(.str r),(iv s)]) [])
def Aju (b:LA) (d:Nat) (i f e:Bool) (c:LA) (l:List UInt8) (g:Int):St:=⟨[(1,(.imm b d 4 i f)),(2,(op 0)),(8,(.str l)),(9,(iv g))],(hq [(bP e 0 c)])⟩
def Ajv (F:KF R):=Ajt N F [1,1,1,1,0,1,0] []
theorem SC (F:KF R) (b:LA) (d:Nat) (i f e:Bool) (c:LA):∀ (n:Nat) (l:List UInt8) (g:Int),Ak (Ajv N F) n (Aju b d i f e c l g)=(Ii N (Tc F) b d i f e c n l g)
 | 0,_,_=>by kernel_rfl
 | n+1,l,g=>Eq.trans (by kernel_rfl) (Bt (Wu N (Tc F) b d i f e c · l g) (funext fun l=>funext fun g=>(SC F b d i f e c n l g)):_)
theorem ln (c:LA) (e:Bool) (b:LA) (d:Nat) (i f:Bool) (F:KF R):Cw (rt N) lm N 52 [(.pagg c e),(.imm b d 4 i f)] [] F=(Uf N c e b d i f (Tc F)):=by
 rw[gA]
 exact Eq.trans (by kernel_rfl) (Bt (MN N (Tc F) · c e b d i f) (funext fun l=>funext fun g=>(Ad ..).trans (SC N F b d i f e c N l g)):_)
def gB (a:LA) (h:Aj) (k:KF R):O R :=
 match a,h with
 | [(.pagg c e),(.imm b d 4 i f)],[]=>(Uf N c e b d i f (Tc k))
 | _,_=>none
theorem lp:An N 52 @gB:=by
 intro R Q a h k j;unfold gB;split;exact A2 (ln ..) (ln ..) ⟨UJ N,Amo N,Ax1 N,trivial⟩;exact A4
def Ajw:=A3 (lp N)
def Ajx:=Cz (lp N)
end
end Gx

namespace Gx.Cf
open Go Go.Proofs
section
variable {R:Type}
def Bq (c:CaseD) (f v:Int):List UInt8:=(fq c f v).flatMap fun w=>32::w
theorem Amy:∀ (w:List UInt8) (r:List (List UInt8)),Axz (w::r)=w++r.flatMap fun x=>32::x
 | w,[]=>by rw[Axz];simp
 | w,v::r=>by
  rw[Axz,Amy v r]
  ·simp
  ·simp
theorem Ma {c:CaseD} {e:EvD}:U2 c e=Nr.getD (e.k - 1).toNat []++(Bq c (CA (e.k - 1).toNat 0) e.a++(Bq c (CA (e.k - 1).toNat 1) e.b++Bq c (CA (e.k - 1).toNat 2) e.v)):=by
 unfold U2 A9y Bq
 rw[Amy,List.flatMap_append,List.flatMap_append]
theorem gC {w:List UInt8} (h:Rt w=true):w.length≤16:=by
 unfold Rt at h
 simp only[Bool.and_eq_true] at h
 simpa using h.2.1
theorem nA {z:Int} (h:-9223372036854775808≤z∧z≤9223372036854775807):(Af3 z).length≤21:=by
 have:=Amx h
 unfold Af3 A9a
 split
 ·rw[List.length_cons];omega
 ·omega
theorem GB {c:CaseD} (b:Cc c=none) {f v:Int} (h:G5 c f v):(Bq c f v).length≤22:=by
 unfold G5 at h
 unfold Bq fq
 by_cases h0:f=0
 ·rw[if_pos h0];simp
 rw[if_neg h0] at h ⊢
 cases hn:K6 c f with
 | some l =>
  rw[hn] at h
  dsimp only at h ⊢
  have hi:v.toNat<l.length:=by omega
  have:=gC ((fm b hn).ok _ (List.getElem_mem hi))
  rw[List.getD_eq_getElem?_getD,List.getElem?_eq_getElem hi,Option.getD_some,List.flatMap_cons,List.flatMap_nil,List.append_nil,List.length_cons]
  omega
 | none =>
  rw[hn] at h
  have:=nA h
  dsimp only
  rw[List.flatMap_cons,List.flatMap_nil,List.append_nil,List.length_cons]
  omega
noncomputable def A8d (N:Nat) (c:LA) (d:Bool) (l u:LA) (t:Nat) (X i:Int) (k:Nat→LA→O R):O R :=
 cond (Ae i 3) (Ap .i64 (l.drop (2+((i.toNat)*1))) fun ai=>cond (ai==0) (k t u) (strconv_Itoa N X fun ab=>cond (Nat.ble 8 (c.length)) (cond (Ae i 3) (Ap .i64 (l.drop (2+((i.toNat)*1))) fun au=>Ki N (c.take 8) d au fun av aw ax =>
  cond aw (cond (Ae X av) (Ts (ax.drop (0+((X.toNat)*1))) fun ae=>cond (Nat.ble (1+(ae.length)) 140737488355328) (Bk N (([32]:List UInt8)++ae) t u fun _ ay az=>k ay az) none) none)
   (cond (Nat.ble (1+(ab.length)) 140737488355328) (Bk N (([32]:List UInt8)++ab) t u fun _ ba bb=>k ba bb) none)) none) none)) none
theorem tn {N j:Nat} {c:CaseD} {d:Bool} {l:LA} {s:List UInt8} {f X:Int} {k:Nat→LA→O R} (hs:Small c N) (e:Cc c=none) (i:j<3) (b:∀ F:Int→O R,Ap .i64 (l.drop (2+j*1)) F=F f) (ok:G5 c f X) (q:s.length≤1000000000) :
  A8d N c.av d l (Cb s) s.length X (j:Int) k=k (s++Bq c f X).length (Cb (s++Bq c f X)):=by
 have ok2:=ok
 unfold A8d
 rw[Ab i,ct,Int.toNat_natCast,b]
 unfold G5 at ok
 unfold Bq fq
 by_cases h0:f=0
 ·rw[show(f==0)=true by simpa using h0,ct,if_pos h0,List.flatMap_nil,List.append_nil]
 rw[if_neg h0] at ok ⊢
 rw[show(f==0)=false by simpa using h0,cf]
 cases hn:K6 c f with
 | some L =>
  rw[hn] at ok
  dsimp only at ok ⊢
  have hL:=Amt hs hn
  obtain⟨n,rfl⟩:∃ n:Nat,X=n:=⟨X.toNat,by omega⟩
  have hi:n<L.length:=by omega
  have m:=gC ((fm e hn).ok _ (List.getElem_mem hi))
  rw[A9w (by omega),D8,ct,ct,b,B6,N_ hs,hn]
  dsimp only
  rw[ct,Ab hi,ct,Int.toNat_natCast,Nat.zero_add,Nat.mul_one,Arh hi,show Nat.ble (1+L[n].length) 140737488355328=true by rw[Bs];exact decide_eq_true (by omega),ct,zM (by rw[List.length_append,List.length_singleton];omega)]
  rw[List.getD_eq_getElem?_getD,List.getElem?_eq_getElem hi,Option.getD_some,List.flatMap_cons,List.flatMap_nil,List.append_nil]
  rfl
 | none =>
  rw[hn] at ok
  dsimp only at ok ⊢
  have m:=nA ok
  rw[A9w ok,D8,ct,ct,b,B6,N_ hs,hn]
  dsimp only
  rw[cf,show Nat.ble (1+(Af3 X).length) 140737488355328=true by rw[Bs];exact decide_eq_true (by omega),ct,zM (by rw[List.length_append,List.length_singleton];omega)]
  rw[List.flatMap_cons,List.flatMap_nil,List.append_nil]
  rfl
theorem A14 {i:Nat} (hi:i<8) (j:Nat) (b:j<3):∀ F:Int→O R,Ap .i64 ((Ig i).drop (2+j*1)) F=F (CA i j):=by
 intro F
 rcases i with _ | _ | _ | _ | _ | _ | _ | _ | i
 all_goals first | omega | skip
 all_goals rcases j with _ | _ | _ | j
 all_goals first | omega | rfl
theorem A8e {N i:Nat} {c:CaseD} {d g f:Bool} {k:List UInt8→Int→O R} {e:Int→Int→Nat→LA→O R} {B:LA} {E:Nat} {y m a b v:Int} {s:List UInt8} (hN:4≤N) (hi:i<8) (hs:Small c N) (j:Cc c=none)
  (l:G5 c (CA i 0) a) (q:G5 c (CA i 1) b) (x:G5 c (CA i 2) v) (z:s.length≤100000000) :
  Ch N e k B E g f d c.av N y m a b v 0 s.length (Ig i) (Cb s)=e y (IntKind.wrap .i64 (m+1)) (s++(Bq c (CA i 0) a++(Bq c (CA i 1) b++Bq c (CA i 2) v))++[10]).length (Cb (s++(Bq c (CA i 0) a++(Bq c (CA i 1) b++Bq c (CA i 2) v))++[10])):=by
 obtain⟨n,hn⟩:∃ n,N=n+4:=⟨N - 4,by omega⟩
 have l0:=GB j l;have l1:=GB j q;have l2:=GB j x
 have key:Ch N e k B E g f d c.av (n+4) y m a b v 0 s.length (Ig i) (Cb s)=e y (IntKind.wrap .i64 (m+1)) (s++(Bq c (CA i 0) a++(Bq c (CA i 1) b++Bq c (CA i 2) v))++[10]).length (Cb (s++(Bq c (CA i 0) a++(Bq c (CA i 1) b++Bq c (CA i 2) v))++[10])):=by
  rw[Ch];unfold Ok
  refine Eq.trans (b:=A8d N c.av d (Ig i) (Cb s) s.length a ((0:Nat):Int) fun t u=>Ch N e k B E g f d c.av (n+3) y m a b v 1 t (Ig i) u) rfl ?_
  rw[tn hs j (by omega) (A14 hi 0 (by omega)) l (by omega)]
  rw[Ch];unfold Ok
  refine Eq.trans (b:=A8d N c.av d (Ig i) (Cb (s++Bq c (CA i 0) a)) (s++Bq c (CA i 0) a).length b ((1:Nat):Int) fun t u=>Ch N e k B E g f d c.av (n+2) y m a b v 2 t (Ig i) u) rfl ?_
  rw[tn hs j (by omega) (A14 hi 1 (by omega)) q (by rw[List.length_append];omega)]
  rw[Ch];unfold Ok
  refine Eq.trans (b:=A8d N c.av d (Ig i) (Cb ((s++Bq c (CA i 0) a)++Bq c (CA i 1) b)) ((s++Bq c (CA i 0) a)++Bq c (CA i 1) b).length v ((2:Nat):Int) fun t u=>Ch N e k B E g f d c.av (n+1) y m a b v 3 t (Ig i) u) rfl ?_
  rw[tn hs j (by omega) (A14 hi 2 (by omega)) x (by rw[List.length_append,List.length_append];omega)]
  rw[Ch];unfold Ok
  rw[show decide ((3:Int)<3)=false by decide,cf,zM (by simp only[List.length_append,List.length_singleton];omega)]
  simp only[List.append_assoc]
 rw[←hn] at key
 exact key
end
end Gx.Cf
