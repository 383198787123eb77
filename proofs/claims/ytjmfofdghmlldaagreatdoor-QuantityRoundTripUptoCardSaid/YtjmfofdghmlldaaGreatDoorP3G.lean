/- A part of the proof: what it holds is said by each theorem. -/
import Derived.Laws.BitsLemmas
import Derived.Laws.RangeAny
import Derived.Laws.RangeString
import Derived.Lib.AtoiAllCases
import Derived.Lib.IndexMore
import Derived.Test.YtjmfofdghmlldaaGreatDoorP2G
set_option linter.unusedVariables false
set_option linter.defProp false
set_option linter.unusedSimpArgs false
namespace Gx
open Go Go.Proofs
section
variable {R:Type}
def Abz (q:Rat):RatD:=⟨decide (q.num<0),.of (Af q.num.natAbs) false false,.of (Af q.den) false false⟩
def cq (q:Rat):LA:=(Abz q).av
theorem rk (q:Rat):(Abz q).can q:=⟨rfl,rfl,rfl⟩
theorem vP (q:Rat):(Abz q).q=q:=(rk q).q
theorem rm (q:Rat):(Abz q).ok:=(rk q).ok
theorem zX (q:Rat):(Abz q).m=qm q:=(rk q).m
theorem vR (q:Rat) (K:LA→O R):(cond ((Nat.beq 0 0)&&((Nat.beq (List.length (cq q)) 3)&&(Nat.beq 3 3))) (cond (Nat.ble 3 (List.length (cq q))) (K (List.take 3 (cq q))) none) none)=K (cq q):=rfl
theorem WO (q:Rat):Nat.ble 2 (List.length (cq q))=true:=rfl
theorem AK (q:Rat):List.take 2 (cq q)=Bg q.num:=rfl
theorem Afl:cq 0=[(.bool false),(.imm [] 0 1 false false),(.imm [(.int .u32 1)] 1 1 false false)]:=by
 have e:cq 0=[.bool false,.imm (Aa (Af 0)) (Af 0).length 1 false false,.imm (Aa (Af 1)) (Af 1).length 1 false false]:=rfl
 rw[e,J5];rfl
theorem yT {N:Nat} {K:LA→O R}:GD N K=K (cq 0):=by
 rw[VD];unfold bE
 rw[Afl]
theorem Agn {N:Nat} {z:Int} {o:Bool} {K:Int→O R} (b:fit (Af z.natAbs).length N):Pe N (Bg z) o K=K z.sign:=by
 have:=lI (R:=R) (N:=N) (n:=decide (z<0)) (s:=.of (Af z.natAbs) false false) (o:=o) (K:=K) (Ab _) b
 rw[Mz] at this;exact this
theorem Aep {N:Nat} {z w:Int} {o o':Bool} {K:LA→O R} (b:fit ((Af z.natAbs).length+(Af w.natAbs).length) N):My N (Bg z) o (Bg w) o' K=K (Bg (z*w)):=by
 have:=yR (R:=R) (N:=N) (n1:=decide (z<0)) (s1:=.of (Af z.natAbs) false false) (n2:=decide (w<0)) (s2:=.of (Af w.natAbs) false false) (o1:=o) (o2:=o') (K:=K) (Ab _) (Ab _) b
 rw[Mz,Mz] at this;exact this
theorem Ajh {N:Nat} {z w:Int} {o o':Bool} {K:LA→O R} (b:fit ((Af z.natAbs).length+(Af w.natAbs).length+1) N):Qy N (Bg z) o (Bg w) o' K=K (Bg (z+w)):=by
 have:=yS (R:=R) (N:=N) (n1:=decide (z<0)) (s1:=.of (Af z.natAbs) false false) (n2:=decide (w<0)) (s2:=.of (Af w.natAbs) false false) (o1:=o) (o2:=o') (K:=K) (Ab _) (Ab _) b
 rw[Mz,Mz] at this;exact this
theorem rn (z:Int):mkRat z 1=(z:Rat):=by
 apply Rat.ext
 ·rw[Rat.num_mkRat,if_neg (by decide),Nat.gcd_one_left];simp
 ·rw[Rat.den_mkRat,if_neg (by decide),Nat.gcd_one_left];simp
theorem Afm (z:Int) (w:Nat) (b:w≠0):(mkRat z w).num=z/((Nat.gcd z.natAbs w:Nat):Int)∧(mkRat z w).den=w/Nat.gcd z.natAbs w:=by
 refine⟨?_,?_⟩
 ·rw[Rat.num_mkRat,if_neg b,Nat.gcd_comm w]
 ·rw[Rat.den_mkRat,if_neg b,Nat.gcd_comm w]
theorem eJ {N:Nat} {n1 n2:Bool} {s1 s2:LS} {o1 o2:Bool} {K:LA→O R} (n:Ad s1.l) (i:Ad s2.l) (x:0≤Ao n2 s2) (d:fit (4*(s1.l.length+s2.l.length)+10) N):Fq N (B6 n1 s1) o1 (B6 n2 s2) o2 K=K (cq (mkRat (Ao n1 s1) (Ao n2 s2).natAbs)):=by
 have e:=Bn n2 s2
 have j:=Bn n1 s1
 rw[VQ];unfold KC
 rw[KX,ct,mV,lI i (d.le (by omega))]
 by_cases y:Ao n2 s2=0
 ·rw[y,show((0:Int).sign==0)=true by rfl,ct,yT]
  rw[show(0:Int).natAbs=0 by rfl,Rat.mkRat_zero];exact vR _ _
 ·have A:(Ao n2 s2).natAbs≠0:=by omega
  have q:((Ao n2 s2).sign==0)=false:=by rw[Int.sign_eq_one_of_pos (by omega)];rfl
  rw[q,cf,ct,RQ i (d.le (by omega)),show((Nat.beq 0 0)&&((Nat.beq (List.length (Bg (Ao n2 s2))) 2)&&(Nat.beq 2 2)))=true by rfl,ct]
  have rb:∀ (z:Int) (f:Bool→O R),Pa (Bg z) f=f (decide (z<0)):=fun z f=>Gn
  have rl:∀ (z:Int) (f:LA→Nat→O R),Kk 1 (List.drop 1 (Bg z)) f=f (Aa (Af z.natAbs)) (Af z.natAbs).length:=fun z f=>Gc
  have l2:=(A3 i).2
  have l1:=(A3 n).2
  rw[rb,decide_eq_false (by omega),show((!false)==true)=true by rfl,ct,rl,vN,kH (a:=Af (Ao n2 s2).natAbs) (b:=[1]) (m:=1) rfl rfl (d.le (by rw[e];omega)),Aay]
  by_cases c:(Ao n2 s2).natAbs=1
  ·rw[c,J5,show decide (([1]:List Nat)=[1])=true by decide,ct,KX,ct,mV,RQ n (d.le (by omega)),rl,c,J5]
   rw[rn]
   have B:cq ((Ao n1 s1:Int):Rat)=[.bool (decide (Ao n1 s1<0)),.imm (Aa (Af (Ao n1 s1).natAbs)) (Af (Ao n1 s1).natAbs).length 1 false false,.imm (Aa [1]) 1 1 false false]:=by
    unfold cq Abz RatD.av LS.av
    rw[Rat.num_intCast,Rat.den_intCast,J5];rfl
   rw[B];rfl
  ·have s:decide (Af (Ao n2 s2).natAbs=[1])=false:=by
    rw[decide_eq_false_iff_not];intro C
    have:=congrArg val C
    rw[Ac] at this;simp[val] at this;omega
   rw[s,cf]
   unfold Vi
   have k:0<Nat.gcd (Ao n1 s1).natAbs (Ao n2 s2).natAbs:=Nat.gcd_pos_of_pos_right _ (by omega)
   have D:(Af (Nat.gcd (Ao n1 s1).natAbs (Ao n2 s2).natAbs)).length≤s2.l.length:=Nat.le_trans (A4 (Nat.gcd_le_right _ (by omega))) (by rw[e];exact l2)
   have t:Nat.gcd (Ao n1 s1).natAbs (Ao n2 s2).natAbs∣val s1.l:=by rw[←j];exact Nat.gcd_dvd_left _ _
   have u:Nat.gcd (Ao n1 s1).natAbs (Ao n2 s2).natAbs∣val s2.l:=by rw[←e];exact Nat.gcd_dvd_right _ _
   obtain⟨F,G⟩:=Afm (Ao n1 s1) (Ao n2 s2).natAbs A
   rw[KX,ct,KX,ct,mV,mV,Aby n i (d.le (by omega))]
   generalize I:Nat.gcd (Ao n1 s1).natAbs (Ao n2 s2).natAbs=g at *
   rw[show((Nat.beq 0 0)&&((Nat.beq (List.length (Bg (g:Int))) 2)&&(Nat.beq 2 2)))=true by rfl,ct,ct,show Nat.ble 2 (List.length (Bg (g:Int)))=true by rfl,ct,Abx,HB n k t (d.le (by omega))]
   rw[show ∀ z:Int,((Nat.beq 0 0)&&((Nat.beq (List.length (Bg z)) 2)&&(Nat.beq 2 2)))=true from fun z=>rfl,ct,show((Nat.beq 0 0)&&((Nat.beq (List.length (Bg 0)) 2)&&(Nat.beq 2 2)))=true by rfl,ct,ct,HB i k u (d.le (by omega))]
   have v:Ao n2 s2/(g:Int)=(((Ao n2 s2).natAbs/g:Nat):Int):=by
    rw[show Ao n2 s2=(((Ao n2 s2).natAbs:Nat):Int) by omega];rfl
   rw[show ∀ z:Int,((Nat.beq 0 0)&&((Nat.beq (List.length (Bg z)) 2)&&(Nat.beq 2 2)))=true from fun z=>rfl,ct,ct,rb,v,decide_eq_false (by omega),cf,show ∀ z:Int,Nat.ble 2 (List.length (Bg z))=true from fun z=>rfl,ct,rl,Int.natAbs_natCast,←G]
   rw[←F];rfl
theorem pj {N:Nat} {z w:Int} {o o':Bool} {K:LA→O R} (b:0≤w) (c:fit (4*((Af z.natAbs).length+(Af w.natAbs).length)+10) N):Fq N (Bg z) o (Bg w) o' K=K (cq (mkRat z w.natAbs)):=by
 have:=eJ (R:=R) (N:=N) (n1:=decide (z<0)) (s1:=.of (Af z.natAbs) false false) (n2:=decide (w<0)) (s2:=.of (Af w.natAbs) false false) (o1:=o) (o2:=o') (K:=K) (Ab _) (Ab _) (by rw[Mz];exact b) c
 rw[Mz,Mz] at this;exact this
theorem I3 {N:Nat} {x:RatD} {o:Bool} {K:LA→O R} (b:x.ok) (c:fit (8*x.m+10) N):Hs N x.av o K=K (cq x.q):=by
 have m1:x.ns.l.length≤x.m:=Nat.le_max_left _ _
 have m2:x.ds.l.length≤x.m:=Nat.le_max_right _ _
 rw[WD];unfold bJ
 rw[show Nat.ble 2 (List.length x.av)=true by rfl,ct,bT,Agm,vO,eJ (s2:=.of x.ds.l false o) b.1 b.2 (by unfold Ao;simp) (c.le (show 4*(x.ns.l.length+x.ds.l.length)+10≤_ by omega))]
 have:mkRat (Ao x.neg x.ns) (Ao false (.of x.ds.l false o)).natAbs=x.q:=by rw[Bn];rfl
 rw[this];exact vR _ _
theorem KI {N:Nat} {x:RatD} {o:Bool} {K:LA→O R} (b:x.ok) (c:fit (8*x.m+10) N):Vn N x.av o K=K (Bg (x.q.den:Int)):=by
 rw[dq];unfold k6
 rw[Tk,ct,I0,I3 b c]
 have:=bT (R:=R) (x:=Abz x.q) (f:=fun e f=>K [(.bool false),(.imm e f 1 false false)])
 refine this.trans ?_
 unfold Bg;rw[decide_eq_false (by omega),Int.natAbs_natCast];rfl
theorem eK (x:RatD) (b:x.ok):qm x.q≤x.m+1:=by
 have m1:x.ns.l.length≤x.m:=Nat.le_max_left _ _
 have m2:x.ds.l.length≤x.m:=Nat.le_max_right _ _
 unfold qm
 by_cases h:val x.ds.l=0
 ·have:x.q=0:=by unfold RatD.q;rw[h,Rat.mkRat_zero]
  rw[this,Rat.zero_num,Rat.zero_den,J5];simp[Cc]
 ·obtain⟨a1,_,a3⟩:=lH (Ao x.neg x.ns) (val x.ds.l) h
  have c:x.q.num.natAbs≤val x.ns.l:=by show(mkRat _ _).num.natAbs≤_;rw[a1,Bn];exact Nat.div_le_self _ _
  have d:x.q.den≤val x.ds.l:=by show(mkRat _ _).den≤_;rw[a3];exact Nat.div_le_self _ _
  have c1:=Nat.le_trans (A4 c) (A3 b.1).2
  have e:=Nat.le_trans (A4 d) (A3 b.2).2
  omega
theorem Ago (z:Int) (d:Nat) (k:Nat) (b:z.natAbs<4294967296 ^ k) (c:d<4294967296 ^ k) (e:d≠0):qm (mkRat z d)≤k:=by
 obtain⟨a1,_,a3⟩:=lH z d e
 unfold qm
 have f:(mkRat z d).num.natAbs≤z.natAbs:=by rw[a1];exact Nat.div_le_self _ _
 have i:(mkRat z d).den≤d:=by rw[a3];exact Nat.div_le_self _ _
 have c1:=Bp (Nat.lt_of_le_of_lt f b)
 have j:=Bp (Nat.lt_of_le_of_lt i c)
 omega
theorem bV (q:Rat):q.num.natAbs<4294967296 ^ qm q:=rj (Nat.le_max_left _ _)
theorem bW (q:Rat):q.den<4294967296 ^ qm q:=rj (Nat.le_max_right _ _)
theorem bX (a b:Rat):qm (a*b)≤qm a+qm b:=by
 rw[Rat.mul_def']
 refine Ago _ _ _ (Tl (bV a) (bV b)) ?_ (Nat.mul_ne_zero a.den_nz b.den_nz)
 rw[Nat.pow_add];exact Nat.mul_lt_mul'' (bW a) (bW b)
theorem Ahm {v:Int} (h:v.natAbs<18446744073709551616):qm (v:Rat)≤2:=by
 unfold qm;rw[Rat.num_intCast,Rat.den_intCast,J5]
 have:=Qu h
 simp;omega
theorem vS {N:Nat} {x:RatD} {o:Bool} {K:Int→O R} (b:x.ok) (c:fit (8*x.m+10) N):GW N x.av o K=K x.q.num.sign:=by
 have hq:=eK x b
 have d:(Af x.q.num.natAbs).length≤qm x.q:=Nat.le_max_left _ _
 rw[WJ];unfold bK
 rw[Tk,ct,I0,I3 b c,WO,ct,AK,Agn (c.le (show(Af x.q.num.natAbs).length≤_ by omega))]
theorem yU {N:Nat} {x y:RatD} {o o':Bool} {K:LA→O R} (c:x.ok) (d:y.ok) (b:fit (16*(x.m+y.m)+80) N):AE N x.av o y.av o' K=K (cq (x.q*y.q)):=by
 have e:=eK x c
 have f:=eK y d
 have x1:=bV x.q
 have x2:((x.q.den:Nat):Int).natAbs<4294967296 ^ qm x.q:=by rw[Int.natAbs_natCast];exact bW _
 have y1:=bV y.q
 have y2:((y.q.den:Nat):Int).natAbs<4294967296 ^ qm y.q:=by rw[Int.natAbs_natCast];exact bW _
 have L1:=Bp x1
 have L2:=Bp x2
 have L3:=Bp y1
 have L4:=Bp y2
 have M1:=Bp (Tl x1 y1)
 have M4:=Bp (Tl x2 y2)
 rw[dt];unfold ke
 rw[Tk,ct,I0,I3 c (b.le (by omega)),WO,ct,Tk,ct,I0,I3 d (b.le (by omega)),WO,ct,AK,AK,Aep (b.le (show(Af x.q.num.natAbs).length+(Af y.q.num.natAbs).length≤_ by omega)),ct,KI c (b.le (by omega)),ct,KI d (b.le (by omega)),Aep (b.le (show(Af ((x.q.den:Nat):Int).natAbs).length+(Af ((y.q.den:Nat):Int).natAbs).length≤_ by omega)),pj (Int.mul_nonneg (by omega) (by omega)) (b.le (show 4*((Af (x.q.num*y.q.num).natAbs).length+(Af (((x.q.den:Nat):Int)*((y.q.den:Nat):Int)).natAbs).length)+10≤_ by omega))]
 have:mkRat (x.q.num*y.q.num) (((x.q.den:Nat):Int)*((y.q.den:Nat):Int)).natAbs=x.q*y.q:=by
  rw[Rat.mul_def',Int.natAbs_mul,Int.natAbs_natCast,Int.natAbs_natCast]
 rw[this];exact vR _ _
theorem HC {N:Nat} {v:Int} {K:LA→O R} (b:-9223372036854775808≤v∧v≤9223372036854775807) (hN:4000≤N):Gt N v K=K (cq (v:Rat)):=by
 have c:=Qu (show v.natAbs<18446744073709551616 by omega)
 rw[CF];unfold AF
 rw[Eo b (by omega),Eo (by omega) (by omega),pj (by omega) ⟨show 100*(4*((Af v.natAbs).length+(Af (1:Int).natAbs).length)+10)+1000≤N by (rw[show(1:Int).natAbs=1 by rfl,J5];simp;omega),show 4*((Af v.natAbs).length+(Af (1:Int).natAbs).length)+10≤1000000000 by (rw[show(1:Int).natAbs=1 by rfl,J5];simp;omega)⟩]
 have:mkRat v (1:Int).natAbs=(v:Rat):=rn v
 rw[this];exact vR _ _
theorem Fs {N:Nat} {v w:Int} {K:LA→O R} (b:-9223372036854775808≤v∧v≤9223372036854775807) (d:0≤w∧w≤9223372036854775807) (hN:4000≤N):E5 N v w K=K (cq (mkRat v w.natAbs)):=by
 have e:=Qu (show v.natAbs<18446744073709551616 by omega)
 have c:=Qu (show w.natAbs<18446744073709551616 by omega)
 rw[kK];unfold rV
 rw[Eo b (by omega),Eo (by omega) (by omega),pj (by omega) ⟨show 100*(4*((Af v.natAbs).length+(Af w.natAbs).length)+10)+1000≤N by omega,show 4*((Af v.natAbs).length+(Af w.natAbs).length)+10≤1000000000 by omega⟩]
 exact vR _ _
end
end Gx

namespace Gx
open Go Go.Proofs
section
variable {R:Type}
theorem Ab0 {N:Nat} {n1:Bool} {s1:LS} {o1:Bool} {K:Bool→Nat→LA→O R} (b:Ad s1.l) (c:fit s1.l.length N):kM N (B6 n1 s1) o1 K=K false (Af (Ao n1 s1).natAbs).length (Aa (Af (Ao n1 s1).natAbs)):=by
 rw[kN];unfold r9
 rw[Gc,Rl rfl b c,Cv,Bn];rfl
theorem Ab1 {N:Nat} {n1:Bool} {s1:LS} {o1:Bool} {K:Bool→Nat→LA→O R} (b:Ad s1.l) (d:fit s1.l.length N):ia N (B6 n1 s1) o1 K=K (decide (-Ao n1 s1<0)) (Af (Ao n1 s1).natAbs).length (Aa (Af (Ao n1 s1).natAbs)):=by
 obtain⟨c1,e⟩:=J4 (z:=-Ao n1 s1) (c:=!n1) (m:=val s1.l) (by unfold Ao;cases n1<;>simp)
 rw[ib];unfold rC
 rw[Gn,Gc,Rl rfl b d,Cv,c1,Bn]
theorem Aim {A:Nat} (h:A≤9223372036854775808):cond true (decide ((A:Int)≤9223372036854775808)) false=true:=by
 rw[cond_true];exact decide_eq_true (by omega)
theorem Ain {A:Nat} (h:A<9223372036854775808):cond true (decide ((A:Int)<9223372036854775808)) false=true:=by
 rw[cond_true];exact decide_eq_true (by omega)
theorem Ahn {A:Nat} (h:A≤9223372036854775808):IntKind.wrap .i64 (IntKind.wrap .u64 ((0:Int) - (A:Int)))=-(A:Int):=by
 rw[KV,IntKind.wrap_i64];omega
theorem vT {N:Nat} {n1:Bool} {s1:LS} {o1:Bool} {K:Int→Bool→O R} (c:Ad s1.l) (d:fit s1.l.length N) (b:-9223372036854775808≤Ao n1 s1∧Ao n1 s1≤9223372036854775807):Ph N (B6 n1 s1) o1 K=K (Ao n1 s1) true:=by
 have f:=Bn n1 s1
 rw[VV];unfold KD
 rw[Gc,Gr rfl c d,if_pos (by omega),show(!true)=false by rfl,cf,Gn]
 cases n1
 ·have e:Ao false s1=(val s1.l:Int):=rfl
  rw[e] at b ⊢
  rw[show(false==true)=false by rfl,cf]
  dsimp only
  unfold Pg
  rw[cf,Gn,show((!false)==true)=true by rfl,ct,Ain (by omega),ct,i64 (by omega)]
 ·have e:Ao true s1=-(val s1.l:Int):=rfl
  rw[e] at b ⊢
  rw[show(true==true)=true by rfl,ct,Aim (by omega)]
  dsimp only
  unfold Pg
  rw[ct,Ahn (by omega)]
theorem vU {A B:Nat} (hB:0<B):(-(A:Int))/(B:Int)=(if A%B=0 then -((A/B:Nat):Int) else -((A/B+1:Nat):Int))∧(-(A:Int))%(B:Int)=(if A%B=0 then 0 else ((B - A%B:Nat):Int)):=by
 have i:=Nat.div_add_mod A B
 have j:=Nat.mod_lt A hB
 have key:∀ q r:Int,r+(B:Int)*q=-(A:Int)→0≤r→r<(B:Int)→(-(A:Int))/(B:Int)=q∧(-(A:Int))%(B:Int)=r:=fun q r e c d =>
  (Int.ediv_emod_unique (by omega)).2 ⟨e,c,d⟩
 have f:((B*(A/B):Nat):Int)=(B:Int)*((A/B:Nat):Int):=Int.natCast_mul ..
 by_cases b:A%B=0
 ·rw[if_pos b,if_pos b]
  refine key _ _ ?_ (by omega) (by omega)
  rw[Int.mul_neg,←f];omega
 ·rw[if_neg b,if_neg b]
  refine key _ _ ?_ (by omega) (by omega)
  rw[Int.mul_neg,Int.natCast_add,Int.mul_add,←f];omega
theorem ro {N:Nat} {n1 n2:Bool} {s1 s2:LS} {o1 o2:Bool} {K:LA→LA→Bool→O R} (C:Ad s1.l) (i:Ad s2.l) (j:0<Ao n2 s2) (k:fit (s1.l.length+s2.l.length+4) N) :
  Ly N (B6 n1 s1) o1 (B6 n2 s2) o2 K=K (Bg (Ao n1 s1/Ao n2 s2)) (Bg (Ao n1 s1%Ao n2 s2)) true:=by
 have n:n2=false:=by
  cases n2
  ·rfl
  ·unfold Ao at j;simp at j;omega
 subst n
 have L:Ao false s2=(val s2.l:Int):=rfl
 rw[L] at j ⊢
 have q:val s2.l≠0:=by omega
 obtain⟨Sq,Sr,a1,a2,a3,a4,a5⟩:=U4 (R:=R) (N:=N) (a:=s1.l) (b:=s2.l) (t:=false) (o:=o1) (t':=false) (o':=o2) rfl rfl C i q k
 have hr:val s1.l%val s2.l<val s2.l:=Nat.mod_lt _ (by omega)
 have d:=(A3 C).2
 have M:=(A3 i).2
 rw[NK];unfold Z7
 rw[Gc,Gc,a5,show(!true)=false by rfl,cf,Gn]
 by_cases s:(n1==true)=true∧0<val s1.l%val s2.l
 ·obtain⟨u,D⟩:=s
  have u:n1=true:=by simpa using u
  subst u
  have hd:0<(Af (val s1.l%val s2.l)).length:=by
   rcases Nat.eq_zero_or_pos (Af (val s1.l%val s2.l)).length with h | h
   ·have:=A8.1 h;omega
   ·exact h
  rw[show(true==true)=true by rfl,ct,show(cond true (decide ((((Af (val s1.l%val s2.l)).length:Nat):Int)>0)) false)=true by simp;omega]
  dsimp only
  unfold Fr
  have lq:(Af (val s1.l/val s2.l)).length≤s1.l.length:=Nat.le_trans (A4 (Nat.div_le_self _ _)) d
  have lr:(Af (val s1.l%val s2.l)).length≤s1.l.length:=Nat.le_trans (A4 (Nat.mod_le _ _)) d
  obtain⟨S2,S,F,T⟩:=uS (R:=R) (N:=N) (a:=Af (val s1.l/val s2.l)) (m:=1) (b:=[1]) (t:=false) (o:=true) (t':=false) (o':=true) rfl rfl (Ab _) ph (k.le (by simp;omega))
  obtain⟨S3,U,G,V⟩:=UC (R:=R) (N:=N) (a:=s2.l) (b:=Af (val s1.l%val s2.l)) (t:=false) (o:=o2) (t':=false) (o':=true) rfl rfl i (Ab _) (k.le (by omega)) (by rw[Ac];omega)
  rw[ct,A5 a1 a2,vN,T,Gc,A5 a3 a4,V,Gn,Gn]
  have X:val (Af (val s1.l/val s2.l))+val [1]=val s1.l/val s2.l+1:=by rw[Ac];simp[val]
  have Y:val s2.l - val (Af (val s1.l%val s2.l))=val s2.l - val s1.l%val s2.l:=by rw[Ac]
  rw[X] at F ⊢;rw[Y] at G ⊢
  rw[Cv,Cv,A5 S F,A5 U G]
  obtain⟨e,f⟩:=vU (A:=val s1.l) (B:=val s2.l) (by omega)
  rw[if_neg (by omega)] at e f
  have ei:Ao true s1=-(val s1.l:Int):=rfl
  rw[ei,e,f]
  obtain⟨c1,v⟩:=J4 (z:=-((val s1.l/val s2.l+1:Nat):Int)) (c:=!(true==false)) (m:=val s1.l/val s2.l+1) rfl
  rw[c1]
  have x:Bg (-((val s1.l/val s2.l+1:Nat):Int))=[.bool (decide (-((val s1.l/val s2.l+1:Nat):Int)<0)),.imm (Aa (Af (val s1.l/val s2.l+1))) (Af (val s1.l/val s2.l+1)).length 1 false false]:=by unfold Bg;rw[v];rfl
  have y:Bg ((val s2.l - val s1.l%val s2.l:Nat):Int)=[.bool false,.imm (Aa (Af (val s2.l - val s1.l%val s2.l))) (Af (val s2.l - val s1.l%val s2.l)).length 1 false false]:=by unfold Bg;rw[Int.natAbs_natCast,decide_eq_false (by omega)];rfl
  rw[x,y];rfl
 ·have I:n1=false∨val s1.l%val s2.l=0:=by
   cases n1
   ·exact .inl rfl
   ·right;simp at s;exact s
  have hc:(cond (n1==true) (Fr N K (Af (val s1.l/val s2.l)).length (Af (val s1.l%val s2.l)).length o1 (B6 n1 s1) o2 (B6 false s2) (Aa Sq) (Aa Sr) (cond true (decide ((((Af (val s1.l%val s2.l)).length:Nat):Int)>0)) false)) (Fr N K (Af (val s1.l/val s2.l)).length (Af (val s1.l%val s2.l)).length o1 (B6 n1 s1) o2 (B6 false s2) (Aa Sq) (Aa Sr) false))=Fr N K (Af (val s1.l/val s2.l)).length (Af (val s1.l%val s2.l)).length o1 (B6 n1 s1) o2 (B6 false s2) (Aa Sq) (Aa Sr) false:=by
   rcases I with h | h
   ·subst h;rfl
   ·rw[h,Cc];cases n1<;>rfl
  refine Eq.trans hc ?_
  unfold Fr
  rw[cf,Gn,Gn]
  rw[Cv,Cv,A5 a1 a2,A5 a3 a4]
  have hq:Ao n1 s1/(val s2.l:Int)=(if (!(n1==false)) then -((val s1.l/val s2.l:Nat):Int) else ((val s1.l/val s2.l:Nat):Int))∧Ao n1 s1%(val s2.l:Int)=((val s1.l%val s2.l:Nat):Int):=by
   rcases I with h | h
   ·subst h;exact⟨rfl,rfl⟩
   ·cases n1
    ·exact⟨rfl,rfl⟩
    ·obtain⟨e,f⟩:=vU (A:=val s1.l) (B:=val s2.l) (by omega)
     rw[if_pos h] at e f
     exact⟨e,by rw[h];exact f⟩
  obtain⟨c1,v⟩:=J4 hq.1
  rw[c1,hq.2]
  have x:Bg (Ao n1 s1/(val s2.l:Int))=[.bool (decide (Ao n1 s1/(val s2.l:Int)<0)),.imm (Aa (Af (val s1.l/val s2.l))) (Af (val s1.l/val s2.l)).length 1 false false]:=by unfold Bg;rw[v];rfl
  have y:Bg ((val s1.l%val s2.l:Nat):Int)=[.bool false,.imm (Aa (Af (val s1.l%val s2.l))) (Af (val s1.l%val s2.l)).length 1 false false]:=by unfold Bg;rw[Int.natAbs_natCast,decide_eq_false (by omega)];rfl
  rw[x,y];rfl
end
end Gx

namespace Gx
open Go Go.Proofs
section
variable {R:Type}
theorem Aeq (z:Int):((Nat.beq 0 0)&&((Nat.beq (List.length (Bg z)) 2)&&(Nat.beq 2 2)))=true:=rfl
theorem Aio (z:Int):((Nat.beq (List.length (Bg z)) 2)&&(true&&(!false)))=true:=rfl
theorem Ai3 (z:Int) (f:Bool→O R):Pa (Bg z) f=f (decide (z<0)):=Gn
theorem Aip (z:Int) (f:LA→Nat→O R):Kk 1 (List.drop 1 (Bg z)) f=f (Aa (Af z.natAbs)) (Af z.natAbs).length:=Gc
theorem WP (v:Nat):Bg (v:Int)=B6 false (.of (Af v) false false):=by unfold Bg;rw[decide_eq_false (by omega),Int.natAbs_natCast]
theorem Aho {N:Nat} {z w:Int} {o o':Bool} {K:Bool→O R} (c:fit (Af z.natAbs).length N):Oc N (Bg z) o (Bg w) o' K=K (decide (z=w)):=by
 rw[We];unfold AA
 rw[Ai3,Ai3]
 by_cases b:decide (z<0)=decide (w<0)
 ·rw[b,show((decide (w<0)==decide (w<0))==true)=true by simp,ct,Aip,Aip,kH rfl rfl c,Aay]
  congr 1
  have b:(z<0)↔(w<0):=by simpa using b
  rw[decide_eq_decide]
  constructor
  ·intro h
   have:=congrArg val h
   rw[Ac,Ac] at this;omega
  ·intro h;rw[h]
 ·rw[show((decide (z<0)==decide (w<0))==true)=false by simp;simpa using b,cf]
  have:decide (z=w)=false:=by
   rw[decide_eq_false_iff_not];intro h;subst h;exact b rfl
  rw[this]
end
end Gx

namespace Gx
open Go Go.Proofs
section
variable {R:Type}
theorem Aiq (z:Int):Bg z=B6 (decide (z<0)) (.of (Af z.natAbs) false false):=rfl
end
end Gx

namespace Gx
open Go Go.Proofs
section
variable {R:Type}
theorem Aj5 (q:Rat):((Nat.beq 0 0)&&((Nat.beq (List.length (cq q)) 3)&&(Nat.beq 3 3)))=true:=rfl
theorem Air (q:Rat):Nat.ble 3 (List.length (cq q))=true:=rfl
theorem Aji (q:Rat):List.take 3 (cq q)=cq q:=rfl
theorem Ai4 (q:Rat) (f:LA→Nat→O R):Kk 1 (List.drop 2 (cq q)) f=f (Aa (Af q.den)) (Af q.den).length:=bT (x:=Abz q)
theorem yV (q:Rat):(Af q.num.natAbs).length≤qm q:=Nat.le_max_left _ _
theorem yW (q:Rat):(Af q.den).length≤qm q:=Nat.le_max_right _ _
theorem Ahp {N:Nat} {p q:Rat} {o o':Bool} {K:Bool→O R} (b:fit (qm p) N):Di N (cq p) o (cq q) o' K=K (decide (p=q)):=by
 rw[Wf];unfold AB
 rw[WO,ct,WO,ct,AK,AK,Aho (b.le (yV p)),Ai4,Ai4]
 by_cases h:p.num=q.num
 ·rw[decide_eq_true h,show(true==true)=true by rfl,ct,kH rfl rfl (b.le (yW p)),Aay]
  congr 1
  rw[decide_eq_decide]
  constructor
  ·intro c
   have:=congrArg val c
   rw[Ac,Ac] at this
   exact Rat.ext h this
  ·intro e;rw[e]
 ·rw[decide_eq_false h,show(false==true)=false by rfl,cf]
  have:decide (p=q)=false:=by rw[decide_eq_false_iff_not];intro e;exact h (by rw[e])
  rw[this]
theorem Ahq {N:Nat} {z:Int} {o:Bool} {K:LA→O R} (b:fit (4*((Af z.natAbs).length+1)+30) N):Yd N (Bg z) o K=K (cq (z:Rat)):=by
 have hN:=b.1
 have c:(Af (1:Int).natAbs).length=1:=by rw[show(1:Int).natAbs=1 by rfl,J5];rfl
 rw[NT];unfold RN
 rw[f4,ct,Abx,Eo (by omega) (by omega),pj (by omega) (b.le (by rw[c];omega)),show(1:Int).natAbs=1 by rfl,rn,Aj5,ct,Air,ct,Aji]
theorem Afn (q:Rat):q*(q.den:Rat)=(q.num:Rat):=by
 have c:(q.den:Rat)≠0:=by
  have:=q.den_pos
  exact Rat.ne_of_gt (Rat.natCast_pos.2 this)
 have b:q=(q.num:Rat)/((q.den:Int):Rat):=by rw[←Rat.divInt_eq_div,Rat.num_divInt_den]
 have d:((q.den:Int):Rat)=(q.den:Rat):=rfl
 rw[d] at b
 calc q*(q.den:Rat)=(q.num:Rat)/(q.den:Rat)*(q.den:Rat):=by rw[←b]
  _=q.num:=Rat.div_mul_cancel c
end
end Gx

namespace Gx
open Go Go.Proofs
section
variable {R:Type}
theorem Ais {N:Nat} {p q:Rat} {o o':Bool} {K:LA→O R} (b:fit (16*(qm p+qm q)+80) N):AE N (cq p) o (cq q) o' K=K (cq (p*q)):=by
 have:=yU (R:=R) (N:=N) (x:=Abz p) (y:=Abz q) (o:=o) (o':=o') (K:=K) (rm _) (rm _) (by rw[zX,zX];exact b)
 rw[vP,vP] at this;exact this
theorem KJ (z:Int):qm (z:Rat)=max (Af z.natAbs).length 1:=by unfold qm;rw[Rat.num_intCast,Rat.den_intCast,J5];rfl
theorem Ah8:(Af (1:Int).natAbs).length=1:=by rw[show(1:Int).natAbs=1 by rfl,J5];rfl
end
end Gx

namespace Gx
open Go Go.Proofs
open IntKind (wrap)
set_option maxRecDepth 100000
noncomputable section
variable {R:Type} (N:Nat)
def By (N:Nat) (b c:List UInt8) (r0:Bool→O R):O R :=
 (cond ((decide ((((b.length):Nat):Int)≥(((c.length):Nat):Int)))==true) (cond ((decide ((0:Int)≤(0:Int)))&&((decide (0≤(((c.length):Nat):Int)))&&((decide ((((c.length):Nat):Int)≤(((b.length):Nat):Int)))&&(decide ((((b.length):Nat):Int)≤(((b.length):Nat):Int)))))) (r0 (cond true ((List.take (c.length) b)==c) false)) none) (r0 false))
def Ca:=(Ag (@By R)).1
theorem Co:@Ca R=@By R:=(Ag _).2
def Fd (F:KF R):Bool→O R:=(fun d=>F (.bool d) [])
theorem Fe (b c:List UInt8) (F:KF R):Cd [] C1 N 270 [(.str b),(.str c)] [] F=(Ca N b c (Fd F)):=by
 rw[Co]
 kernel_rfl
def E7 (a:LA) (h:Ah) (k:KF R):O R :=
 match a,h with
 | [(.str b),(.str c)],[]=>(Ca N b c (Fd k))
 | _,_=>none
theorem Ff:An N 270 @E7:=by
 intro R Q a h k j;unfold E7;split;exact As (Fe ..) (Fe ..) trivial;exact Av
def L8:=At (Ff N)
def L9:=Cg (Ff N)
def Bz (b c:List UInt8) (r0:List UInt8→Bool→O R):O R :=
 (Ca N b c (fun d=>(cond (!d) (r0 b false) (cond ((decide (0≤(((c.length):Nat):Int)))&&((decide ((((c.length):Nat):Int)≤(((b.length):Nat):Int)))&&((decide ((((b.length):Nat):Int)≤(((b.length):Nat):Int)))&&(decide ((((b.length):Nat):Int)≤(((b.length):Nat):Int)))))) (r0 (List.take ((b.length) - (c.length)) (List.drop (c.length) b)) true) none))))
def Cb:=(Ag (@Bz R)).1
theorem Cp:@Cb R=@Bz R:=(Ag _).2
def M0:D8:=[(270,L8 N)]
def Fg (F:KF R):List UInt8→Bool→O R:=(fun e f=>F (.tup [(.str e),(.bool f)]) [])
theorem Fh (b c:List UInt8) (F:KF R):Cd (M0 N) C1 N 218 [(.str b),(.str c)] [] F=(Cb N b c (Fg F)):=by
 rw[Cp]
 kernel_rfl
def E8 (a:LA) (h:Ah) (k:KF R):O R :=
 match a,h with
 | [(.str b),(.str c)],[]=>(Cb N b c (Fg k))
 | _,_=>none
theorem Fi:An N 218 @E8:=by
 intro R Q a h k j;unfold E8;split;exact As (Fh ..) (Fh ..) ⟨L9 N,trivial⟩;exact Av
def Ma:=At (Fi N)
def Mb:=Cg (Fi N)
def Hc (b c:List UInt8) (r0:List UInt8→Bool→O R):O R :=
 (Cb N b c (fun d e=>(r0 d e)))
def Ch:=(Ag (@Hc R)).1
theorem H7:@Ch R=@Hc R:=(Ag _).2
def KY:D8:=[(218,Ma N)]
def Pk (F:KF R):List UInt8→Bool→O R:=(fun f g=>F (.tup [(.str f),(.bool g)]) [])
theorem Pl (b c:List UInt8) (F:KF R):Cd (KY N) C1 N 145 [(.str b),(.str c)] [] F=(Ch N b c (Pk F)):=by
 rw[H7]
 kernel_rfl
def Ni (a:LA) (h:Ah) (k:KF R):O R :=
 match a,h with
 | [(.str b),(.str c)],[]=>(Ch N b c (Pk k))
 | _,_=>none
theorem Pm:An N 145 @Ni:=by
 intro R Q a h k j;unfold Ni;split;exact As (Pl ..) (Pl ..) ⟨Mb N,trivial⟩;exact Av
def I4:=At (Pm N)
def I5:=Cg (Pm N)
def K8 (N:Nat) (r0:Bool→O R) (b:List UInt8) (k0:Int→O R) (c:Int):O R :=
 (cond (decide (c<(((b.length):Nat):Int))) (cond ((decide ((((W2 b c).1:Nat):Int)<48))==false) (cond (cond false true (decide ((((W2 b c).1:Nat):Int)>57))) (r0 false) (k0 (c+(((W2 b c).2:Nat):Int)))) (r0 false)) (r0 (!(b==([]:List UInt8)))))
def E9 (r0:Bool→O R) (b:List UInt8):Nat→Int→O R
 | 0,_=>none
 | n+1,c=>(K8 N r0 b (E9 r0 b n) c)
def Q3 (N:Nat) (r0:Bool→O R) (q0:Int→O R) (b:List UInt8):O R :=
 (q0 0)
def Gu:=(Ag (fun (N:Nat) (b:List UInt8) (r0:Bool→O R)=>(Q3 N r0 (fun c=>(E9 N r0 b N c)) b))).1
theorem CJ (b r0):(@Gu R N b r0)=(Q3 N r0 (fun c=>(E9 N r0 b N c)) b):=by rw[Gu,(Ag _).2]
def HD:Hints:={ H:=(hS hL (hS (hS hL (hS (hP [0,6] hL) hL)) hL)) }
def lJ (F:KF R):=Ov Tryz.f149 HD [] [] N F
def I6 (F:KF R):Bool→O R:=(fun d=>F (.bool d) [])
def lK (b:List UInt8) (c:Int):St:=⟨[(0,(.str b)),(6,(.omap 300000))],(hq [⟨false,false,true,false,1,[(.str b),(iv c)],true,none⟩])⟩
def lL (F:KF R):=lJ N F [1,0,1,0] []
theorem Vo (F:KF R) (b:List UInt8):∀ (n:Nat) (c:Int),Au (lL N F) n (lK b c)=(E9 N (I6 F) b n c)
 | 0,_=>by kernel_rfl
 | n+1,c=>Eq.trans (by kernel_rfl) (Da (K8 N (I6 F) b · c) (funext fun c=>(Vo F b n c)):_)
theorem HE (b:List UInt8) (F:KF R):Cd [] HD N 149 [(.str b)] [] F=(Gu N b (I6 F)):=by
 rw[CJ]
 exact Eq.trans (by kernel_rfl) (Da (Q3 N (I6 F) · b) (funext fun c=>(Ap ..).trans (Vo N F b N c)):_)
def CK (a:LA) (h:Ah) (k:KF R):O R :=
 match a,h with
 | [(.str b)],[]=>(Gu N b (I6 k))
 | _,_=>none
theorem HF:An N 149 @CK:=by
 intro R Q a h k j;unfold CK;split;exact As (HE ..) (HE ..) trivial;exact Av
def HG:=At (HF N)
def HH:=Cg (HF N)
def HI (b:List UInt8) (r0:Bool→O R):O R :=
 (Gu N b (fun c=>(cond (c==true) (cond ((b==([48]:List UInt8))==false) (cond (Aj 0 (b.length)) (r0 (cond true (cond false true (((UInt8.toNat (List.getD b 0 0):Nat):Int) != 48)) false)) none) (r0 true)) (r0 false))))
def I7:=(Ag (@HI R)).1
theorem HJ:@I7 R=@HI R:=(Ag _).2
def rp:D8:=[(149,HG N)]
def N' (F:KF R):Bool→O R:=(fun d=>F (.bool d) [])
theorem OA (b:List UInt8) (F:KF R):Cd (rp N) C1 N 146 [(.str b)] [] F=(I7 N b (N' F)):=by
 rw[HJ]
 kernel_rfl
def HK (a:LA) (h:Ah) (k:KF R):O R :=
 match a,h with
 | [(.str b)],[]=>(I7 N b (N' k))
 | _,_=>none
theorem OB:An N 146 @HK:=by
 intro R Q a h k j;unfold HK;split;exact As (OA ..) (OA ..) ⟨HH N,trivial⟩;exact Av
def OC:=At (OB N)
def OD:=Cg (OB N)
def AL (b:List UInt8) (r0:Bool→O R):O R :=
 (Ch N b ([45]:List UInt8) (fun c d=>(I7 N c (fun e=>(cond (e==true) (cond (d==true) (r0 (cond true (!(cond true (c==([48]:List UInt8)) false)) false)) (r0 true)) (r0 false))))))
def L0:=(Ag (@AL R)).1
theorem CL:@L0 R=@AL R:=(Ag _).2
def nV:D8:=[(145,I4 N),(146,OC N)]
def HL (F:KF R):Bool→O R:=(fun f=>F (.bool f) [])
theorem HM (b:List UInt8) (F:KF R):Cd (nV N) C1 N 78 [(.str b)] [] F=(L0 N b (HL F)):=by
 rw[CL]
 kernel_rfl
def CM (a:LA) (h:Ah) (k:KF R):O R :=
 match a,h with
 | [(.str b)],[]=>(L0 N b (HL k))
 | _,_=>none
theorem HN:An N 78 @CM:=by
 intro R Q a h k j;unfold CM;split;exact As (HM ..) (HM ..) ⟨I5 N,OD N,trivial⟩;exact Av
def lM:=At (HN N)
def lN:=Cg (HN N)
def L5 (r0:List UInt8→List UInt8→Bool→O R) (e:Bool) (d c b:List UInt8):O R :=
 (cond (Nat.ble ((d.length)+(c.length)) 140737488355328) (cond e (cond (Nat.ble (1+(List.length (d++c))) 140737488355328) (strings_Repeat N ([48]:List UInt8) (((c.length):Nat):Int) (fun i=>(cond (Nat.ble (1+(i.length)) 140737488355328) (r0 (([45]:List UInt8)++(d++c)) (([49]:List UInt8)++i) true) none))) none) (strings_Repeat N ([48]:List UInt8) (((c.length):Nat):Int) (fun l=>(cond (Nat.ble (1+(l.length)) 140737488355328) (r0 (d++c) (([49]:List UInt8)++l) true) none)))) none)
def Ro (r0:List UInt8→List UInt8→Bool→O R) (q0:Bool→List UInt8→List UInt8→O R) (b:List UInt8):O R :=
 (L0 N b (fun m=>(cond m (r0 b ([49]:List UInt8) true) (strings_Cut N b ([47]:List UInt8) (fun f g n=>(cond n (L0 N f (fun o=>(cond (o==true) (I7 N g (fun p=>(r0 f g (cond true p false)))) (r0 f g false)))) (Ch N b ([45]:List UInt8) (fun q e=>(strings_Cut N q ([46]:List UInt8) (fun d c w=>(I7 N d (fun r=>(cond ((!r)==false) (Gu N c (fun s=>(cond (cond false true (!s)) (r0 ([]:List UInt8) ([]:List UInt8) false) (q0 e d c)))) (r0 ([]:List UInt8) ([]:List UInt8) false))))))))))))))
def M2:=(Ag (fun (N:Nat) (b:List UInt8) (r0:List UInt8→List UInt8→Bool→O R)=>(Ro N r0 (fun e d c=>(L5 N r0 e d c b)) b))).1
theorem Q4 (b r0):(@M2 R N b r0)=(Ro N r0 (fun e d c=>(L5 N r0 e d c b)) b):=by rw[M2,(Ag _).2]
def eL:Hints:={ H:=(hS hL (hS hL (hS hL (hS hL (hS hL (hJ [6,7,8] hL hL)))))) }
def lO:D8:=[(78,lM N),(105,E_ N),(146,OC N),(145,I4 N),(149,HG N),(124,H9 N)]
def vV (F:KF R):=Ov Tryz.f81 eL (lO N) [] N F
def Vp (F:KF R):List UInt8→List UInt8→Bool→O R:=(fun t u v=>F (.tup [(.str t),(.str u),(.bool v)]) [])
def vW (e:Bool) (d c b:List UInt8):St:=⟨[(6,(.bool e)),(7,(.str d)),(8,(.str c))],[]⟩
def vX (F:KF R):=vV N F [1,1,1,1,1,1] []
theorem lP (F:KF R) (e:Bool) (d c b:List UInt8):Cm (vX N F) (vW e d c b)=(L5 N (Vp F) e d c b):=by
 kernel_rfl
theorem eM (b:List UInt8) (F:KF R):Cd (lO N) eL N 81 [(.str b)] [] F=(M2 N b (Vp F)):=by
 rw[Q4]
 exact Eq.trans (by kernel_rfl) (Da (Ro N (Vp F) · b) (funext fun e=>funext fun d=>funext fun c=>(A2 ..).trans (lP N F e d c b)):_)
def WQ (a:LA) (h:Ah) (k:KF R):O R :=
 match a,h with
 | [(.str b)],[]=>(M2 N b (Vp k))
 | _,_=>none
theorem eN:An N 81 @WQ:=by
 intro R Q a h k j;unfold WQ;split;exact As (eM ..) (eM ..) ⟨lN N,iV N,OD N,I5 N,HH N,Mk N,trivial⟩;exact Av
def vY:=At (eN N)
def vZ:=Cg (eN N)
def M3 (N:Nat) (r0:Bool→O R) (b:List UInt8) (k0:Int→Int→O R) (d c:Int):O R :=
 (cond (decide (c<(((b.length):Nat):Int))) (cond ((decide ((((W2 b c).1:Nat):Int)≥48))==true) (cond (cond true (decide ((((W2 b c).1:Nat):Int)≤57)) false) (k0 (wrap .i64 (d+1)) (c+(((W2 b c).2:Nat):Int))) (k0 d (c+(((W2 b c).2:Nat):Int)))) (k0 d (c+(((W2 b c).2:Nat):Int)))) (r0 (decide (d>4096))))
def F6 (r0:Bool→O R) (b:List UInt8):Nat→Int→Int→O R
 | 0,_,_=>none
 | n+1,d,c=>(M3 N r0 b (F6 r0 b n) d c)
def Vq (N:Nat) (r0:Bool→O R) (q0:Int→Int→O R) (b:List UInt8):O R :=
 (q0 0 0)
def Oe:=(Ag (fun (N:Nat) (b:List UInt8) (r0:Bool→O R)=>(Vq N r0 (fun d c=>(F6 N r0 b N d c)) b))).1
theorem HO (b r0):(@Oe R N b r0)=(Vq N r0 (fun d c=>(F6 N r0 b N d c)) b):=by rw[Oe,(Ag _).2]
def OE:Hints:={ H:=(hS hL (hS hL (hS (hS hL (hS (hP [3,7] hL) hL)) hL))) }
def nW (F:KF R):=Ov Tryz.f79 OE [] [] N F
def Kv (F:KF R):Bool→O R:=(fun e=>F (.bool e) [])
def nX (b:List UInt8) (d c:Int):St:=⟨[(3,(iv d)),(7,(.omap 300000))],(hq [⟨false,false,true,false,1,[(.str b),(iv c)],true,none⟩])⟩
def nY (F:KF R):=nW N F [1,1,0,1,0] []
theorem Ye (F:KF R) (b:List UInt8):∀ (n:Nat) (d c:Int),Au (nY N F) n (nX b d c)=(F6 N (Kv F) b n d c)
 | 0,_,_=>by kernel_rfl
 | n+1,d,c=>Eq.trans (by kernel_rfl) (Da (M3 N (Kv F) b · d c) (funext fun d=>funext fun c=>(Ye F b n d c)):_)
theorem OF (b:List UInt8) (F:KF R):Cd [] OE N 79 [(.str b)] [] F=(Oe N b (Kv F)):=by
 rw[HO]
 exact Eq.trans (by kernel_rfl) (Da (Vq N (Kv F) · b) (funext fun d=>funext fun c=>(Ap ..).trans (Ye N F b N d c)):_)
def HP (a:LA) (h:Ah) (k:KF R):O R :=
 match a,h with
 | [(.str b)],[]=>(Oe N b (Kv k))
 | _,_=>none
theorem OG:An N 79 @HP:=by
 intro R Q a h k j;unfold HP;split;exact As (OF ..) (OF ..) trivial;exact Av
def nZ:=At (OG N)
def n0:=Cg (OG N)
def J6 (r0:Bool→Nat→LA→O R) (k0:Int→Bool→LA→Bool→Nat→LA→O R) (d:Int) (c:Bool) (b:LA) (f:Bool) (e:Nat) (g:LA):O R :=
 (cond (decide (d>0)) (cond ((Int.tmod d 2)==1) (cond (Nat.ble 2 (b.length)) (Wb N [(.bool f),(.imm (g.take (e*1)) e 1 false true)] true (b.take 2) c (fun o p q=>(cond (decide (d>1)) (cond (Nat.ble 2 (b.length)) (cond (Nat.ble 2 (b.length)) (Wb N (b.take 2) c (b.take 2) c (fun t r u=>(cond ((Nat.beq 2 2)&&((Nat.ble 2 (b.length))&&(!false))) (k0 (wrap .i64 (Int.tdiv d 2)) (c||false) (Gf b 0 [(.bool t),(.imm (u.take (r*1)) r 1 false false)]) o p q) none))) none) none) (k0 (wrap .i64 (Int.tdiv d 2)) c b o p q)))) none) (cond (decide (d>1)) (cond (Nat.ble 2 (b.length)) (cond (Nat.ble 2 (b.length)) (Wb N (b.take 2) c (b.take 2) c (fun v s w=>(cond ((Nat.beq 2 2)&&((Nat.ble 2 (b.length))&&(!false))) (k0 (wrap .i64 (Int.tdiv d 2)) (c||false) (Gf b 0 [(.bool v),(.imm (w.take (s*1)) s 1 false false)]) f e g) none))) none) none) (k0 (wrap .i64 (Int.tdiv d 2)) c b f e g))) (r0 f e g))
def Ft (r0:Bool→Nat→LA→O R):Nat→Int→Bool→LA→Bool→Nat→LA→O R
 | 0,_,_,_,_,_,_=>none
 | n+1,d,c,b,f,e,g=>(J6 N r0 (Ft r0 n) d c b f e g)
def KK (r0:Bool→Nat→LA→O R) (q0:Int→Bool→LA→Bool→Nat→LA→O R) (i:LA) (l:Bool) (m:Int):O R :=
 (B3 N 1 (fun x y z=>(q0 m l i x y z)))
def Tn:=(Ag (fun (N:Nat) (i:LA) (l:Bool) (m:Int) (r0:Bool→Nat→LA→O R)=>(KK N r0 (fun d c b f e g=>(Ft N r0 N d c b f e g)) i l m))).1
theorem WR (i l m r0):(@Tn R N i l m r0)=(KK N r0 (fun d c b f e g=>(Ft N r0 N d c b f e g)) i l m):=by rw[Tn,(Ag _).2]
def eO:Hints:={ H:=(hS hL (hS hL (hS (hS (hP [1,2,4,5] hL) hL) hL))) }
def lR:D8:=[(64,Hy N),(68,aG N)]
def v6 (F:KF R):=Ov Tryz.f69 eO (lR N) [] N F
def Pn (F:KF R):Bool→Nat→LA→O R:=(fun aa ab ac=>F (.agg [(.bool aa),(.own 300000 0 ab)]) (hq [(bQ 1 ac)]))
def v7 (d:Int) (c:Bool) (b:LA) (f:Bool) (e:Nat) (g:LA):St:=⟨[(1,(iv d)),(2,(op 0)),(4,(op 1)),(5,(op 2))],(hq [(bP c 0 b),(bN 0 [(.bool false),.nsl]),(bN 0 [(.bool f),(.own 300003 0 e)]),(bQ 1 g)])⟩
def v8 (F:KF R):=v6 N F [1,1,0,0] []
theorem HQ (F:KF R):∀ (n:Nat) (d:Int) (c:Bool) (b:LA) (f:Bool) (e:Nat) (g:LA),Au (v8 N F) n (v7 d c b f e g)=(Ft N (Pn F) n d c b f e g)
 | 0,_,_,_,_,_,_=>by kernel_rfl
 | n+1,d,c,b,f,e,g=>Eq.trans (by kernel_rfl) (Da (J6 N (Pn F) · d c b f e g) (funext fun d=>funext fun c=>funext fun b=>funext fun f=>funext fun e=>funext fun g=>(HQ F n d c b f e g)):_)
theorem eP (i:LA) (l:Bool) (m:Int) (F:KF R):Cd (lR N) eO N 69 [(.pagg i l),(iv m)] [] F=(Tn N i l m (Pn F)):=by
 rw[WR]
 exact Eq.trans (by kernel_rfl) (Da (KK N (Pn F) · i l m) (funext fun d=>funext fun c=>funext fun b=>funext fun f=>funext fun e=>funext fun g=>(Ap ..).trans (HQ N F N d c b f e g)):_)
def WS (a:LA) (h:Ah) (k:KF R):O R :=
 match a,h with
 | [(.pagg i l),(.int .i64 m)],[]=>(Tn N i l m (Pn k))
 | _,_=>none
theorem eQ:An N 69 @WS:=by
 intro R Q a h k j;unfold WS;split;exact As (eP ..) (eP ..) ⟨Hz N,aH N,trivial⟩;exact Av
def eR:=At (eQ N)
def eS:=Cg (eQ N)
def M5 (k0:List UInt8→Bool→Nat→LA→O R) (r0:LA→O R) (c d:Bool) (b:Nat) (e:LA) (m:List UInt8) (o:Int) (q:Bool) (p:Nat) (r:LA):O R :=
 (cond ((decide ((0:Int)≤(0:Int)))&&((decide (0≤o))&&((decide (o≤(((m.length):Nat):Int)))&&(decide ((((m.length):Nat):Int)≤(((m.length):Nat):Int)))))) (Qr N (List.take (o.toNat) m) (fun x=>(Wb N [(.bool q),(.imm (r.take (p*1)) p 1 false true)] true [(.bool d),(.imm (e.take (b*1)) b 1 false true)] true (fun y t z=>(B3 N x (fun aa u ab=>(ij N [(.bool y),(.imm (z.take (t*1)) t 1 false true)] true [(.bool aa),(.imm (ab.take (u*1)) u 1 false true)] true (fun ac ad ae=>(cond ((decide (0≤o))&&((decide (o≤(((m.length):Nat):Int)))&&((decide ((((m.length):Nat):Int)≤(((m.length):Nat):Int)))&&(decide ((((m.length):Nat):Int)≤(((m.length):Nat):Int)))))) (k0 (List.take ((m.length) - (o.toNat)) (List.drop (o.toNat) m)) ac ad ae) none))))))))) none)
def Wg (r0:LA→O R) (c d:Bool) (b:Nat) (e:LA) (k0:List UInt8→Bool→Nat→LA→O R) (q1:List UInt8→Int→Bool→Nat→LA→O R) (g:List UInt8) (i:Bool) (f:Nat) (l:LA):O R :=
 (cond (!(g==([]:List UInt8))) (cond ((Int.tmod (((g.length):Nat):Int) 9)==0) (q1 g 9 i f l) (q1 g (Int.tmod (((g.length):Nat):Int) 9) i f l)) (cond c (ia N [(.bool i),(.imm (l.take (f*1)) f 1 false true)] true (fun af v ag=>(r0 [(.bool af),(.imm (ag.take (v*1)) v 1 false false)]))) (r0 [(.bool i),(.imm (l.take (f*1)) f 1 false false)])))
def Fu (r0:LA→O R) (c d:Bool) (b:Nat) (e:LA):Nat→List UInt8→Bool→Nat→LA→O R
 | 0,_,_,_,_=>none
 | n+1,g,i,f,l=>(Wg N r0 c d b e (Fu r0 c d b e n) (fun m o q p r=>(M5 N (Fu r0 c d b e n) r0 c d b e m o q p r)) g i f l)
def AM (r0:LA→O R) (q0:Bool→Bool→Nat→LA→List UInt8→Bool→Nat→LA→O R) (s:List UInt8):O R :=
 (Ch N s ([45]:List UInt8) (fun ah c=>(B3 N 0 (fun ai aj ak=>(B3 N 10 (fun al w am=>(Tn N [(.bool al),(.imm (am.take (w*1)) w 1 false true)] true 9 (fun d b e=>(q0 c d b e ah ai aj ak)))))))))
def Of:=(Ag (fun (N:Nat) (s:List UInt8) (r0:LA→O R)=>(AM N r0 (fun c d b e g i f l=>(Fu N r0 c d b e N g i f l)) s))).1
theorem OH (s r0):(@Of R N s r0)=(AM N r0 (fun c d b e g i f l=>(Fu N r0 c d b e N g i f l)) s):=by rw[Of,(Ag _).2]
def WT:Hints:={ H:=(hS hL (hS hL (hS hL (hS hL (hS (hS (hP [0,2,3,4,5] (hS hL (hS (hS hL (hJ [0,2,3,4,5,6] hL hL)) hL))) hL) hL))))),modes:=[(3,0)] }
def eT:D8:=[(145,I4 N),(64,Hy N),(69,eR N),(148,Aal N),(147,BP N),(68,aG N),(144,Aau N)]
def WU (F:KF R):=Ov Tryz.f80 WT (eT N) [] N F
def Hd (F:KF R):LA→O R:=(fun an=>F (.pagg an false) [])
def rq (c d:Bool) (b:Nat) (e:LA) (m:List UInt8) (o:Int) (q:Bool) (p:Nat) (r:LA):St:=⟨[(0,(.str m)),(2,(op 0)),(3,(.bool c)),(4,(op 1)),(5,(op 2)),(6,(iv o))],(hq [(bN 0 [(.bool false),.nsl]),(bN 0 [(.bool q),(.own 300003 0 p)]),(bN 0 [(.bool d),(.own 300004 0 b)]),(bQ 1 r),(bQ 1 e)])⟩
def rs (F:KF R) (Q0:St→O R):=WU N F [1,1,1,1,0,0,0,1,0,1,1] [Q0]
def WV (c d:Bool) (b:Nat) (e:LA) (g:List UInt8) (i:Bool) (f:Nat) (l:LA):St:=⟨[(0,(.str g)),(2,(op 0)),(3,(.bool c)),(4,(op 1)),(5,(op 2))],(hq [(bN 0 [(.bool false),.nsl]),(bN 0 [(.bool i),(.own 300003 0 f)]),(bN 0 [(.bool d),(.own 300004 0 b)]),(bQ 1 l),(bQ 1 e)])⟩
def WW (F:KF R):=WU N F [1,1,1,1,0,0] []
theorem f5 (Q0:St→O R) (F:KF R) (c d:Bool) (b:Nat) (e:LA):∀ (m:List UInt8) (o:Int) (q:Bool) (p:Nat) (r:LA),Cm (rs N F Q0) (rq c d b e m o q p r)=(M5 N (fun g i f l=>Q0 (WV c d b e g i f l)) (Hd F) c d b e m o q p r):=by
 intro m o q p r
 kernel_rfl
theorem CN (F:KF R) (c d:Bool) (b:Nat) (e:LA):∀ (n:Nat) (g:List UInt8) (i:Bool) (f:Nat) (l:LA),Au (WW N F) n (WV c d b e g i f l)=(Fu N (Hd F) c d b e n g i f l)
 | 0,_,_,_,_=>by kernel_rfl
 | n+1,g,i,f,l=>have e0:=(funext fun g=>funext fun i=>funext fun f=>funext fun l=>(CN F c d b e n g i f l))
  Eq.trans (by kernel_rfl) (uB (Wg N (Hd F) c d b e · · g i f l) e0 (funext fun m=>funext fun o=>funext fun q=>funext fun p=>funext fun r=>(A2 ..).trans ((f5 N (Au (WW N F) n) F c d b e m o q p r).trans (Da (M5 N · (Hd F) c d b e m o q p r) e0))):_)
theorem WX (s:List UInt8) (F:KF R):Cd (eT N) WT N 80 [(.str s)] [] F=(Of N s (Hd F)):=by
 rw[OH]
 exact Eq.trans (by kernel_rfl) (Da (AM N (Hd F) · s) (funext fun c=>funext fun d=>funext fun b=>funext fun e=>funext fun g=>funext fun i=>funext fun f=>funext fun l=>(Ap ..).trans (CN N F c d b e N g i f l)):_)
def OI (a:LA) (h:Ah) (k:KF R):O R :=
 match a,h with
 | [(.str s)],[]=>(Of N s (Hd k))
 | _,_=>none
theorem WY:An N 80 @OI:=by
 intro R Q a h k j;unfold OI;split;exact As (WX ..) (WX ..) ⟨I5 N,Hz N,eS N,Aam N,strconv_Atoi_ok N,aH N,Aav N,trivial⟩;exact Av
def rt:=At (WY N)
def ru:=Cg (WY N)
def AN (b:List UInt8) (r0:LA→Int→O R):O R :=
 (M2 N b (fun d e f=>(cond (!f) (r0 [(.bool false),.nsl,.nsl] 2) (Oe N b (fun g=>(cond g (r0 [(.bool false),.nsl,.nsl] 8) (Of N d (fun i=>(Of N e (fun l=>(a_ N i false l false (fun c m=>(cond ((Nat.beq 0 0)&&((Nat.beq (c.length) 3)&&(Nat.beq 3 3))) (cond (!m) (r0 [(.bool false),.nsl,.nsl] 5) (cond (Nat.ble 3 (c.length)) (cond ((Nat.beq 0 0)&&((Nat.beq ((c.take 3).length) 3)&&(Nat.beq 3 3))) (cond (Nat.ble 3 ((c.take 3).length)) (r0 ((c.take 3).take 3) 0) none) none) none)) none)))))))))))))
def Ep:=(Ag (@AN R)).1
theorem CO:@Ep R=@AN R:=(Ag _).2
def n6:D8:=[(81,vY N),(79,nZ N),(80,rt N),(82,pJ N)]
def HR (F:KF R):LA→Int→O R:=(fun n o=>F (.tup [(.pagg n false),(iv o)]) [])
theorem HS (b:List UInt8) (F:KF R):Cd (n6 N) oO N 24 [(.str b)] [] F=(Ep N b (HR F)):=by
 rw[CO]
 kernel_rfl
def CP (a:LA) (h:Ah) (k:KF R):O R :=
 match a,h with
 | [(.str b)],[]=>(Ep N b (HR k))
 | _,_=>none
theorem HT:An N 24 @CP:=by
 intro R Q a h k j;unfold CP;split;exact As (HS ..) (HS ..) ⟨vZ N,n0 N,ru N,pK N,trivial⟩;exact Av
def lS:=At (HT N)
def lT:=Cg (HT N)
def Wh (N:Nat) (r0:O R):O R :=
 r0
def Q5:=(Ag (@Wh R)).1
theorem Yf:@Q5 R=@Wh R:=(Ag _).2
def CQ (F:KF R):O R:=F (.tup []) [(100000,⟨false,false,false,false,0,[(.optr 100000 0),.nsl],false,(some (168,2))⟩)]
theorem CS (F:KF R):Cd [] C1 N 191 [(.optr 100000 0)] [(100000,⟨false,false,false,false,0,[.nilptr,.nsl],false,(some (168,2))⟩)] F=(Q5 N (CQ F)):=by
 rw[Yf]
 kernel_rfl
def Yg (a:LA) (h:Ah) (k:KF R):O R :=
 match a,h with
 | [(.optr 100000 0)],[(100000,⟨false,false,false,false,0,[.nilptr,.nsl],false,(some (168,2))⟩)]=>(Q5 N (CQ k))
 | _,_=>none
theorem CT:An N 191 @Yg:=by
 intro R Q a h k j;unfold Yg;split;exact As (CS ..) (CS ..) trivial;exact Av
def f6:=At (CT N)
def f7:=Cg (CT N)
def P3 (b:List UInt8) (r0:Int→Nat→LA→O R):O R :=
 (Q5 N (cond ((Nat.ble (0+(b.length)) 140737488355328)&&(Nat.ble ((0+(b.length))*1) 140737488355328)) (r0 (((b.length):Nat):Int) (0+(b.length)) (Bj b)) none))
def I8:=(Ag (@P3 R)).1
theorem To:@I8 R=@P3 R:=(Ag _).2
def bY:D8:=[(191,f6 N)]
def Vr (F:KF R):Int→Nat→LA→O R:=(fun c d e=>F (.tup [(iv c),.undef]) [(100000,⟨false,false,false,false,0,[(.optr 100000 0),(.own 300000 0 d)],false,(some (168,2))⟩),(300000,⟨false,false,true,false,1,e,false,(some (5,0))⟩)])
theorem Vs (b:List UInt8) (F:KF R):Cd (bY N) C1 N 113 [(.optr 100000 0),(.str b)] [(100000,⟨false,false,false,false,0,[.nilptr,.nsl],false,(some (168,2))⟩)] F=(I8 N b (Vr F)):=by
 rw[To]
 kernel_rfl
def lU (N:Nat) (r0:O R):O R :=
 r0
def KL:=(Ag (@lU R)).1
theorem n7:@KL R=@lU R:=(Ag _).2
def WZ (F:KF R):O R:=F (.str ([]:List UInt8)) [(100000,⟨false,false,false,false,0,[.nilptr,.nsl],false,(some (168,2))⟩)]
theorem W_ (F:KF R):Cd [] C1 N 116 [(.optr 100000 0)] [(100000,⟨false,false,false,false,0,[.nilptr,.nsl],false,(some (168,2))⟩)] F=(KL N (WZ F)):=by
 rw[n7]
 kernel_rfl
def Og (N b:Nat) (c:LA) (r0:O R):O R :=
 r0
def K9:=(Ag (@Og R)).1
theorem Qf:@K9 R=@Og R:=(Ag _).2
def Tp (b:Nat) (c:LA) (F:KF R):O R:=F (.tup []) [(100000,⟨false,false,false,false,0,[(.optr 100000 0),(.own 100001 0 b)],false,(some (168,2))⟩),(100001,⟨false,false,true,false,1,c,false,(some (5,0))⟩)]
theorem Tq (b:Nat) (c:LA) (F:KF R):Cd [] C1 N 191 [(.optr 100000 0)] [(100000,⟨false,false,false,false,0,[(.optr 100000 0),(.own 100001 0 b)],false,(some (168,2))⟩),(100001,⟨false,false,true,false,1,c,false,(some (5,0))⟩)] F=(K9 N b c (Tp b c F)):=by
 rw[Qf]
 kernel_rfl
def Qg (a:LA) (h:Ah) (k:KF R):O R :=
 match a,h with
 | [(.optr 100000 0)],[(100000,⟨false,false,false,false,0,[(.optr 100000 0),(.own 100001 0 b)],false,(some (168,2))⟩),(100001,⟨false,false,true,false,1,c,false,(some (5,0))⟩)]=>(K9 N b c (Tp b c k))
 | _,_=>none
theorem Tr:An N 191 @Qg:=by
 intro R Q a h k j;unfold Qg;split;exact As (Tq ..) (Tq ..) trivial;exact Av
def RR:=At (Tr N)
def RS:=Cg (Tr N)
def Ll (b:List UInt8) (c:Nat) (d:LA) (r0:Int→Nat→LA→O R):O R :=
 (K9 N c d (cond ((Nat.ble (c+(b.length)) 140737488355328)&&(Nat.ble ((c+(b.length))*1) 140737488355328)) (r0 (((b.length):Nat):Int) (c+(b.length)) ((d.take (c*1))++(Bj b))) none))
def C3:=(Ag (@Ll R)).1
theorem Nj:@C3 R=@Ll R:=(Ag _).2
def KZ:D8:=[(191,RR N)]
def Po (F:KF R):Int→Nat→LA→O R:=(fun e f g=>F (.tup [(iv e),.undef]) [(100000,⟨false,false,false,false,0,[(.optr 100000 0),(.own 300000 0 f)],false,(some (168,2))⟩),(300000,⟨false,false,true,false,1,g,false,(some (5,0))⟩)])
theorem Pp (b:List UInt8) (c:Nat) (d:LA) (F:KF R):Cd (KZ N) C1 N 113 [(.optr 100000 0),(.str b)] [(100000,⟨false,false,false,false,0,[(.optr 100000 0),(.own 100001 0 c)],false,(some (168,2))⟩),(100001,⟨false,false,true,false,1,d,false,(some (5,0))⟩)] F=(C3 N b c d (Po F)):=by
 rw[Nj]
 kernel_rfl
end
end Gx

namespace Gx
open Go Go.Proofs
section
variable {R:Type}
theorem Wi {N:Nat} {b:List UInt8} {c:UInt8} {K:List UInt8→Bool→O R}:Ch N (c::b) [c] K=K b true:=by
 rw[H7];unfold Hc
 rw[Cp];unfold Bz
 rw[Co];unfold By
 have d:((decide ((((c::b).length:Nat):Int)≥((([c]:List UInt8).length:Nat):Int)))==true)=true:=by simp;omega
 have e:((decide ((0:Int)≤(0:Int)))&&((decide ((0:Int)≤((([c]:List UInt8).length:Nat):Int)))&&((decide (((([c]:List UInt8).length:Nat):Int)≤(((c::b).length:Nat):Int)))&&(decide ((((c::b).length:Nat):Int)≤(((c::b).length:Nat):Int))))))=true:=by simp;omega
 have f:((decide ((0:Int)≤((([c]:List UInt8).length:Nat):Int)))&&((decide (((([c]:List UInt8).length:Nat):Int)≤(((c::b).length:Nat):Int)))&&((decide ((((c::b).length:Nat):Int)≤(((c::b).length:Nat):Int)))&&(decide ((((c::b).length:Nat):Int)≤(((c::b).length:Nat):Int))))))=true:=by simp;omega
 rw[d,ct,e,ct,show cond true ((List.take ([c]:List UInt8).length (c::b))==[c]) false=true by simp]
 dsimp only
 rw[show(!true)=false by rfl,cf,f,ct]
 simp
theorem Ts {N:Nat} {b:List UInt8} {c:UInt8} {K:List UInt8→Bool→O R} (h:b.head?≠some c):Ch N b [c] K=K b false:=by
 rw[H7];unfold Hc
 rw[Cp];unfold Bz
 rw[Co];unfold By
 cases b with
 | nil=>rfl
 | cons d r =>
  have e:d≠c:=by simpa using h
  have f:((decide ((((d::r).length:Nat):Int)≥((([c]:List UInt8).length:Nat):Int)))==true)=true:=by simp;omega
  have i:((decide ((0:Int)≤(0:Int)))&&((decide ((0:Int)≤((([c]:List UInt8).length:Nat):Int)))&&((decide (((([c]:List UInt8).length:Nat):Int)≤(((d::r).length:Nat):Int)))&&(decide ((((d::r).length:Nat):Int)≤(((d::r).length:Nat):Int))))))=true:=by simp;omega
  rw[f,ct,i,ct,show cond true ((List.take ([c]:List UInt8).length (d::r))==[c]) false=false by simp[e]]
  rfl
theorem lV {s:List UInt8} {p:Nat} (h:p<s.length) (b:s[p].toNat<128):W2 s (p:Int)=(s[p].toNat,1):=by
 unfold W2
 rw[Int.toNat_natCast]
 exact decode_ascii ⟨⟨s⟩⟩ p h b
theorem Ab2 {s:List UInt8} {p:Nat} (h:p<s.length) (b:128≤s[p].toNat):128≤(W2 s (p:Int)).1:=by
 unfold W2
 rw[Int.toNat_natCast]
 exact(decode_high ⟨⟨s⟩⟩ p h b).1
theorem n8 {N:Nat} {s:List UInt8} {K:Bool→O R} (d:s≠[]):∀ (m p b:Nat),p≤s.length→s.length - p=m→m<b→E9 N K s b (p:Int)=K ((s.drop p).all Ay):=by
 intro m
 induction m with
 | zero =>
  intro p b e f i
  cases b with
  | zero=>omega
  | succ b =>
   rw[E9];unfold K8
   rw[BV (by omega),cf,List.drop_eq_nil_of_le (by omega),show(!(s==([]:List UInt8)))=true by simp[d]]
   rfl
 | succ m j =>
  intro p b e f i
  cases b with
  | zero=>omega
  | succ b =>
   have c:p<s.length:=by omega
   rw[E9];unfold K8
   rw[T6 c,ct,List.drop_eq_getElem_cons c,List.all_cons]
   by_cases k:s[p].toNat<128
   ·rw[lV c k]
    simp only
    by_cases l:s[p].toNat<48
    ·rw[show(decide (((s[p].toNat:Nat):Int)<48)==false)=false by simp;omega,cf]
     have:Ay s[p]=false:=by simp[Ay];omega
     rw[this];rfl
    ·rw[show(decide (((s[p].toNat:Nat):Int)<48)==false)=true by simp;omega,ct]
     by_cases n:s[p].toNat>57
     ·rw[show cond false true (decide (((s[p].toNat:Nat):Int)>57))=true by simp;omega,ct]
      have:Ay s[p]=false:=by simp[Ay];omega
      rw[this];rfl
     ·rw[show cond false true (decide (((s[p].toNat:Nat):Int)>57))=false by simp;omega,cf]
      have:Ay s[p]=true:=by simp[Ay];omega
      rw[this,Bool.true_and,show((p:Int)+((1:Nat):Int))=((p+1:Nat):Int) by omega]
      exact j (p+1) b (by omega) (by omega) (by omega)
   ·have q:=Ab2 c (by omega)
    have:Ay s[p]=false:=by simp[Ay];omega
    rw[this,show(decide ((((W2 s (p:Int)).1:Nat):Int)<48)==false)=true by simp;omega,ct,show cond false true (decide ((((W2 s (p:Int)).1:Nat):Int)>57))=true by simp;omega,ct]
    rfl
theorem OJ {N:Nat} {s:List UInt8} {K:Bool→O R} (b:s.length<N):Gu N s K=K (KW s):=by
 rw[CJ];unfold Q3
 cases s with
 | nil =>
  obtain⟨n,rfl⟩:∃ n,N=n+1:=⟨N - 1,by simp at b;omega⟩
  rfl
 | cons c r =>
  have:=n8 (R:=R) (N:=N) (s:=c::r) (K:=K) (by simp) (c::r).length 0 N (by omega) (by omega) b
  refine Eq.trans this ?_
  congr 1
  simp[KW]
theorem Q6 {N:Nat} {s:List UInt8} {K:Bool→O R} (i:s.length<N):I7 N s K=K (Cj s):=by
 rw[HJ];unfold HI
 rw[OJ i]
 by_cases b:KW s=true
 ·rw[b,show(true==true)=true by rfl,ct]
  unfold Cj
  rw[b,Bool.true_and]
  by_cases f:s=[48]
  ·subst f;rfl
  ·have j:(s==[48])=false:=by simpa using f
   rw[j,show(false==false)=true by rfl,ct,Bool.false_or]
   cases s with
   | nil=>simp[KW] at b
   | cons c r =>
    rw[show Aj 0 (c::r).length=true by unfold Aj;simp,ct]
    congr 1
    simp only[cond_true,cond_false,List.getD_cons_zero,List.head?_cons]
    by_cases d:c=48
    ·subst d;rfl
    ·have:(((c.toNat:Nat):Int) != 48)=true:=by
      rw[bne_iff_ne];intro e
      apply d;apply UInt8.toNat_inj.1
      have:c.toNat=48:=by omega
      rw[this];rfl
     rw[this]
     have k:((some c:Option UInt8) != some 48)=true:=by rw[bne_iff_ne];simpa using d
     rw[k]
 ·have b:KW s=false:=by simpa using b
  rw[b,show(false==true)=false by rfl,cf]
  unfold Cj
  rw[b];rfl
def Yh (s:List UInt8):Bool:=match s with
 | 45::r=>Cj r&&!(r==[48])
 | s=>Cj s
theorem O1 {N:Nat} {s:List UInt8} {K:Bool→O R} (b:s.length<N):L0 N s K=K (Yh s):=by
 rw[CL];unfold AL
 by_cases h:s.head?=some 45
 ·obtain⟨r,rfl⟩:∃ r,s=45::r:=by
   cases s with
   | nil=>simp at h
   | cons c r=>simp at h;exact⟨r,by rw[h]⟩
  rw[Wi,Q6 (by simp at b;omega)]
  show _=K (Cj r&&!(r==[48]))
  cases Cj r
  ·rfl
  ·rw[Bool.true_and];cases r==[48]<;>rfl
 ·rw[Ts h,Q6 b]
  have:Yh s=Cj s:=by
   unfold Yh
   split
   ·simp at h
   ·rfl
  rw[this]
  cases Cj s<;>rfl
def Wj (s:List UInt8):Nat:=s.countP Ay
theorem rx {N:Nat} {s:List UInt8} {K:Bool→O R} (i:∀ c ∈ s,c.toNat<128) (u:s.length≤1000000000000):∀ (m p d b:Nat),p≤s.length→s.length - p=m→m<b→d≤p→F6 N K s b (d:Int) (p:Int)=K (decide (4096<d+Wj (s.drop p))):=by
 intro m
 induction m with
 | zero =>
  intro p d b j k l n
  cases b with
  | zero=>omega
  | succ b =>
   rw[F6];unfold M3
   rw[BV (by omega),cf,List.drop_eq_nil_of_le (by omega)]
   congr 1
   rw[decide_eq_decide];simp[Wj];omega
 | succ m f =>
  intro p d b j k l n
  cases b with
  | zero=>omega
  | succ b =>
   have e:p<s.length:=by omega
   have q:s[p].toNat<128:=i _ (List.getElem_mem e)
   rw[F6];unfold M3
   rw[T6 e,ct,List.drop_eq_getElem_cons e,lV e q]
   simp only
   rw[show((p:Int)+((1:Nat):Int))=((p+1:Nat):Int) by omega]
   have t:Wj (s[p]::s.drop (p+1))=Wj (s.drop (p+1))+(if Ay s[p] then 1 else 0):=by unfold Wj;rw[List.countP_cons]
   rw[t]
   by_cases v:48≤s[p].toNat
   ·rw[show(decide (((s[p].toNat:Nat):Int)≥48)==true)=true by simp;omega,ct]
    by_cases x:s[p].toNat≤57
    ·rw[show cond true (decide (((s[p].toNat:Nat):Int)≤57)) false=true by simp;omega,ct,wS (by omega),f (p+1) (d+1) b (by omega) (by omega) (by omega) (by omega)]
     have:Ay s[p]=true:=by simp[Ay];omega
     rw[this,if_pos rfl]
     congr 1;rw[decide_eq_decide];omega
    ·rw[show cond true (decide (((s[p].toNat:Nat):Int)≤57)) false=false by simp;omega,cf,f (p+1) d b (by omega) (by omega) (by omega) (by omega)]
     have:Ay s[p]=false:=by simp[Ay];omega
     rw[this];rfl
   ·rw[show(decide (((s[p].toNat:Nat):Int)≥48)==true)=false by simp;omega,cf,f (p+1) d b (by omega) (by omega) (by omega) (by omega)]
    have:Ay s[p]=false:=by simp[Ay];omega
    rw[this];rfl
theorem ry {N:Nat} {s:List UInt8} {K:Bool→O R} (b:∀ c ∈ s,c.toNat<128) (d:s.length≤1000000000000) (e:s.length<N):Oe N s K=K (decide (4096<Wj s)):=by
 rw[HO];unfold Vq
 have:=rx (R:=R) (N:=N) (K:=K) b d s.length 0 0 N (by omega) (by omega) e (by omega)
 simpa using this
end
end Gx

namespace Gx
open Go Go.Proofs
open IntKind (wrap)
set_option maxRecDepth 100000
noncomputable section
variable {R:Type} (N:Nat)
def Wk (N b:Nat) (c:LA) (r0:List UInt8→O R):O R :=
 (cond (Nat.blt 0 b) (cond ((Nat.beq 5 5)&&((Nat.beq 1 1)&&(true&&((!false)&&((Nat.beq 0 0)&&((decide (0<((b:Nat):Int)))&&((decide (((b:Nat):Int)≤(((c.length):Nat):Int)))&&(decide (((b:Nat):Int)≤9223372036854775807))))))))) (Option.bind (O8 (c.take b)) fun d=>(r0 d)) none) none)
def M6:=(Ag (@Wk R)).1
theorem Yi:@M6 R=@Wk R:=(Ag _).2
def CU (F:KF R):List UInt8→O R:=(fun e=>F (.str e) [(100000,⟨false,false,false,false,0,[(.optr 100000 0),.undef],false,(some (168,2))⟩)])
theorem CV (b:Nat) (c:LA) (F:KF R):Cd [] C1 N 116 [(.optr 100000 0)] [(100000,⟨false,false,false,false,0,[(.optr 100000 0),(.own 100001 0 b)],false,(some (168,2))⟩),(100001,⟨false,false,true,false,1,c,false,(some (5,0))⟩)] F=(M6 N b c (CU F)):=by
 rw[Yi]
 kernel_rfl
def Wl (r0:List UInt8→O R) (b:Nat) (c:LA) (k3:Int→Int→Nat→LA→O R) (p m:Int) (q:Nat) (r:LA):O R :=
 (cond (decide (m<p)) (cond (Aj (wrap .i64 ((wrap .i64 (((b:Nat):Int) - 1)) - m)) b) (Bw .i64 (c.drop (0+(((wrap .i64 ((wrap .i64 (((b:Nat):Int) - 1)) - m)).toNat)*1))) fun ae=>(strconv_Itoa N ae (fun x=>(cond (decide (m>0)) (strings_Repeat N ([48]:List UInt8) (wrap .i64 (9 - (((x.length):Nat):Int))) (fun af=>(C3 N af q r (fun ba ag ah=>(C3 N x ag ah (fun bb ai aj=>(k3 p (wrap .i64 (m+1)) ai aj))))))) (C3 N x q r (fun bc ak al=>(k3 p (wrap .i64 (m+1)) ak al))))))) none) (M6 N q r (fun am=>(r0 am))))
def M7 (r0:List UInt8→O R) (b:Nat) (c:LA):Nat→Int→Int→Nat→LA→O R
 | 0,_,_,_,_=>none
 | n+1,p,m,q,r=>(Wl N r0 b c (M7 r0 b c n) p m q r)
def Wm (r0:List UInt8→O R) (b:Nat) (c:LA) (k2:Int→O R) (k3:Int→Int→Nat→LA→O R) (s:Int):O R :=
 (cond (decide (0<s)) (cond (Aj (wrap .i64 ((wrap .i64 (((b:Nat):Int) - 1)) - 0)) b) (Bw .i64 (c.drop (0+(((wrap .i64 ((wrap .i64 (((b:Nat):Int) - 1)) - 0)).toNat)*1))) fun an=>(strconv_Itoa N an (fun ao=>(I8 N ao (fun bd ap aq=>(k3 s 1 ap aq)))))) none) (KL N (r0 ([]:List UInt8))))
def M8 (r0:List UInt8→O R) (b:Nat) (c:LA):Nat→Int→O R
 | 0,_=>none
 | n+1,s=>(Wm N r0 b c (M8 r0 b c n) (fun p m q r=>(M7 N r0 b c n p m q r)) s)
def Wn (r0:List UInt8→O R) (f:Bool) (d:Nat) (g:LA) (i:Bool) (e:Nat) (l:LA) (k1:Nat→LA→LA→O R) (q2:Int→O R) (b:Nat) (o c:LA):O R :=
 (cond (Nat.ble 2 (o.length)) (Jx N (o.take 2) false (fun ar=>(cond (decide (ar>0)) (cond (Nat.ble 2 (o.length)) (Ly N (o.take 2) false [(.bool f),(.imm (g.take (d*1)) d 1 false true)] true (fun v y be=>(cond ((Nat.beq 0 0)&&((Nat.beq (v.length) 2)&&(Nat.beq 2 2))) (cond ((Nat.beq 0 0)&&((Nat.beq (y.length) 2)&&(Nat.beq 2 2))) (cond (Nat.ble 2 (y.length)) (Ph N (y.take 2) false (fun au bf=>(cond ((Nat.ble (b+1) 140737488355328)&&(Nat.ble ((b+1)*8) 140737488355328)) (cond (Nat.ble 2 (v.length)) (cond ((Nat.beq ((v.take 2).length) 2)&&((Nat.ble 2 (o.length))&&(!false))) (k1 (b+1) (setCells o 0 (v.take 2)) ((c.take (b*1))++[(.int .i64 au)])) none) none) none))) none) none) none))) none) (cond (((b:Nat):Int)==0) (r0 ([48]:List UInt8)) (q2 ((b:Nat):Int)))))) none)
def M9 (r0:List UInt8→O R) (f:Bool) (d:Nat) (g:LA) (i:Bool) (e:Nat) (l:LA):Nat→Nat→LA→LA→O R
 | 0,_,_,_=>none
 | n+1,b,o,c=>(Wn N r0 f d g i e l (M9 r0 f d g i e l n) (fun s=>(M8 N r0 b c N s)) b o c)
def Wo (r0:List UInt8→O R) (f:Bool) (d:Nat) (i:Bool) (e:Nat) (g l:LA) (k0:O R) (k1:Nat→LA→LA→O R):O R :=
 (Jx N [(.bool i),(.imm (l.take (e*1)) e 1 false true)] true (fun av=>(cond (decide (av>0)) (Ly N [(.bool i),(.imm (l.take (e*1)) e 1 false true)] true [(.bool f),(.imm (g.take (d*1)) d 1 false true)] true (fun w z bg=>(cond ((Nat.beq 0 0)&&((Nat.beq (w.length) 2)&&(Nat.beq 2 2))) (cond ((Nat.beq 0 0)&&((Nat.beq (z.length) 2)&&(Nat.beq 2 2))) (cond (Nat.ble 2 (z.length)) (Ph N (z.take 2) false (fun aw bh=>(cond (Nat.ble 2 (w.length)) (cond ((Nat.beq 0 0)&&((Nat.beq ((w.take 2).length) 2)&&(Nat.beq 2 2))) (k1 1 (w.take 2) [(.int .i64 aw)]) none) none))) none) none) none))) (r0 ([48]:List UInt8)))))
def J7 (r0:List UInt8→O R) (f:Bool) (d:Nat) (i:Bool) (e:Nat) (g l:LA):Nat→O R
 | 0=>none
 | n+1=>(Wo N r0 f d i e g l (J7 r0 f d i e g l n) (fun b o c=>(M9 N r0 f d g i e l n b o c)))
def AO (r0:List UInt8→O R) (q0:Bool→Nat→Bool→Nat→LA→LA→O R) (t:LA) (u:Bool):O R :=
 (B3 N 10 (fun ax ad ay=>(Tn N [(.bool ax),(.imm (ay.take (ad*1)) ad 1 false true)] true 9 (fun f d g=>(cond (Nat.ble 2 (t.length)) (kM N (t.take 2) u (fun i e l=>(q0 f d i e g l))) none)))))
def Rp:=(Ag (fun (N:Nat) (t:LA) (u:Bool) (r0:List UInt8→O R)=>(AO N r0 (fun f d i e g l=>(J7 N r0 f d i e g l N)) t u))).1
theorem OK (t u r0):(@Rp R N t u r0)=(AO N r0 (fun f d i e g l=>(J7 N r0 f d i e g l N)) t u):=by rw[Rp,(Ag _).2]
def XA:Hints:={ H:=(hS hL (hS hL (hS hL (hS hL (hS (hS (hP [3,4,5] hL) hL) (hS hL (hS hL (hS (hS hL (hS (hP [5,11,42,43] hL) hL)) hL)))))))),nils:=[(5,1)] }
def Dd (a:LA) (h:Ah) (k:KF R):O R :=
 match a,h with
 | [(.optr 100000 0),(.str aa)],[(100000,⟨false,false,false,false,0,[.nilptr,.nsl],false,(some (168,2))⟩)]=>(I8 N aa (Vr k))
 | [(.optr 100000 0),(.str aa)],[(100000,⟨false,false,false,false,0,[(.optr 100000 0),(.own 100001 0 ab)],false,(some (168,2))⟩),(100001,⟨false,false,true,false,1,ac,false,(some (5,0))⟩)]=>(C3 N aa ab ac (Po k))
 | _,_=>none
theorem Dj:An N 113 @Dd:=by
 intro R Q a h k j;unfold Dd;split;exact As (Vs ..) (Vs ..) ⟨f7 N,trivial⟩;exact As (Pp ..) (Pp ..) ⟨RS N,trivial⟩;exact Av
def Im:=At (Dj N)
def In:=Cg (Dj N)
def Gl (a:LA) (h:Ah) (k:KF R):O R :=
 match a,h with
 | [(.optr 100000 0)],[(100000,⟨false,false,false,false,0,[.nilptr,.nsl],false,(some (168,2))⟩)]=>(KL N (WZ k))
 | [(.optr 100000 0)],[(100000,⟨false,false,false,false,0,[(.optr 100000 0),(.own 100001 0 ab)],false,(some (168,2))⟩),(100001,⟨false,false,true,false,1,ac,false,(some (5,0))⟩)]=>(M6 N ab ac (CU k))
 | _,_=>none
theorem Gv:An N 116 @Gl:=by
 intro R Q a h k j;unfold Gl;split;exact As (W_ ..) (W_ ..) trivial;exact As (CV ..) (CV ..) trivial;exact Av
def Pq:=At (Gv N)
def Pr:=Cg (Gv N)
def eV:D8:=[(64,Hy N),(69,eR N),(200,Abi N),(125,Si N),(67,rZ N),(201,vD N),(114,BO N),(113,Im N),(116,Pq N),(124,H9 N)]
def XB (F:KF R):=Ov Tryz.f123 XA (eV N) [] N F
def C4 (F:KF R):List UInt8→O R:=(fun az=>F (.str az) [])
def rz (b:Nat) (c:LA) (p m:Int) (q:Nat) (r:LA):St:=⟨[(5,(.own 300000 0 b)),(11,(op 1)),(42,(iv p)),(43,(iv m))],(hq [(bQ 1 c),⟨false,false,false,false,0,[(op 1),(.own 300002 0 q)],false,(some (168,2))⟩,⟨false,false,true,false,1,r,false,(some (5,0))⟩])⟩
def sA (b:Nat) (c:LA) (s:Int):St:=⟨[(5,(.own 300000 0 b)),(11,(op 1)),(42,(iv s)),(43,(iv 0))],(hq [(bQ 1 c),⟨false,false,false,false,0,[.nilptr,.nsl],false,(some (168,2))⟩])⟩
def XC (F:KF R):=XB N F [1,1,1,1,1,1,1,0,1,0] []
def sB (f:Bool) (d:Nat) (g:LA) (i:Bool) (e:Nat) (l:LA) (b:Nat) (o c:LA):St:=⟨[(3,(op 0)),(4,(op 1)),(5,(.own 300002 0 b))],(hq [(bN 0 [(.bool f),(.own 300003 0 d)]),(bQ 0 o),(bQ 1 c),(bQ 1 g)])⟩
def sC (f:Bool) (d:Nat) (i:Bool) (e:Nat) (g l:LA):St:=⟨[(3,(op 0)),(4,(op 1)),(5,(.own 300002 0 0))],(hq [(bN 0 [(.bool f),(.own 300003 0 d)]),(bN 0 [(.bool i),(.own 300004 0 e)]),(bQ 1 []),(bQ 1 g),(bQ 1 l)])⟩
def XD (F:KF R):=XB N F [1,1,1,1,0,0] []
theorem CW (F:KF R) (b:Nat) (c:LA):∀ (n:Nat) (p m:Int) (q:Nat) (r:LA),Au (XC N F) n (rz b c p m q r)=(M7 N (C4 F) b c n p m q r)
 | 0,_,_,_,_=>by kernel_rfl
 | n+1,p,m,q,r=>Eq.trans (by kernel_rfl) (Da (Wl N (C4 F) b c · p m q r) (funext fun p=>funext fun m=>funext fun q=>funext fun r=>(CW F b c n p m q r)):_)
theorem CX (F:KF R) (b:Nat) (c:LA):∀ (n:Nat) (s:Int),Au (XC N F) n (sA b c s)=(M8 N (C4 F) b c n s)
 | 0,_=>by kernel_rfl
 | n+1,s=>Eq.trans (by kernel_rfl) (uB (Wm N (C4 F) b c · · s) (funext fun s=>(CX F b c n s)) (funext fun p=>funext fun m=>funext fun q=>funext fun r=>(CW N F b c n p m q r)):_)
theorem CY (F:KF R) (f:Bool) (d:Nat) (g:LA) (i:Bool) (e:Nat) (l:LA):∀ (n b:Nat) (o c:LA),Au (XD N F) n (sB f d g i e l b o c)=(M9 N (C4 F) f d g i e l n b o c)
 | 0,_,_,_=>by kernel_rfl
 | n+1,b,o,c=>Eq.trans (by kernel_rfl) (uB (Wn N (C4 F) f d g i e l · · b o c) (funext fun b=>funext fun o=>funext fun c=>(CY F f d g i e l n b o c)) (funext fun s=>(Ap ..).trans (CX N F b c N s)):_)
theorem CZ (F:KF R) (f:Bool) (d:Nat) (i:Bool) (e:Nat) (g l:LA):∀ (n:Nat) ,Au (XD N F) n (sC f d i e g l)=(J7 N (C4 F) f d i e g l n)
 | 0=>by kernel_rfl
 | n+1=>Eq.trans (by kernel_rfl) (uB (Wo N (C4 F) f d i e g l · ·) (CZ F f d i e g l n) (funext fun b=>funext fun o=>funext fun c=>(CY N F f d g i e l n b o c)):_)
theorem XE (t:LA) (u:Bool) (F:KF R):Cd (eV N) XA N 123 [(.pagg t u)] [] F=(Rp N t u (C4 F)):=by
 rw[OK]
 exact Eq.trans (by kernel_rfl) (Da (AO N (C4 F) · t u) (funext fun f=>funext fun d=>funext fun i=>funext fun e=>funext fun g=>funext fun l=>(Ap ..).trans (CZ N F f d i e g l N)):_)
def OL (a:LA) (h:Ah) (k:KF R):O R :=
 match a,h with
 | [(.pagg t u)],[]=>(Rp N t u (C4 k))
 | _,_=>none
theorem XF:An N 123 @OL:=by
 intro R Q a h k j;unfold OL;split;exact As (XE ..) (XE ..) ⟨Hz N,eS N,Abj N,Sj N,r7 N,vE N,fN N,In N,Pr N,Mk N,trivial⟩;exact Av
def sD:=At (XF N)
def sE:=Cg (XF N)
def Ht (r0:List UInt8→O R) (c:Int) (e:Bool) (d:LA) (b:List UInt8):O R :=
 (cond ((decide ((0:Int)≤(0:Int)))&&((decide (0≤(wrap .i64 ((((b.length):Nat):Int) - c))))&&((decide ((wrap .i64 ((((b.length):Nat):Int) - c))≤(((b.length):Nat):Int)))&&(decide ((((b.length):Nat):Int)≤(((b.length):Nat):Int)))))) (cond (Nat.ble ((List.length (List.take ((wrap .i64 ((((b.length):Nat):Int) - c)).toNat) b))+1) 140737488355328) (cond ((decide (0≤(wrap .i64 ((((b.length):Nat):Int) - c))))&&((decide ((wrap .i64 ((((b.length):Nat):Int) - c))≤(((b.length):Nat):Int)))&&((decide ((((b.length):Nat):Int)≤(((b.length):Nat):Int)))&&(decide ((((b.length):Nat):Int)≤(((b.length):Nat):Int)))))) (cond (Nat.ble ((List.length ((List.take ((wrap .i64 ((((b.length):Nat):Int) - c)).toNat) b)++([46]:List UInt8)))+(List.length (List.take ((b.length) - ((wrap .i64 ((((b.length):Nat):Int) - c)).toNat)) (List.drop ((wrap .i64 ((((b.length):Nat):Int) - c)).toNat) b)))) 140737488355328) (cond (Nat.ble 2 (d.length)) (Jx N (d.take 2) e (fun i=>(cond (decide (i<0)) (cond (Nat.ble (1+(List.length (((List.take ((wrap .i64 ((((b.length):Nat):Int) - c)).toNat) b)++([46]:List UInt8))++(List.take ((b.length) - ((wrap .i64 ((((b.length):Nat):Int) - c)).toNat)) (List.drop ((wrap .i64 ((((b.length):Nat):Int) - c)).toNat) b))))) 140737488355328) (r0 (([45]:List UInt8)++(((List.take ((wrap .i64 ((((b.length):Nat):Int) - c)).toNat) b)++([46]:List UInt8))++(List.take ((b.length) - ((wrap .i64 ((((b.length):Nat):Int) - c)).toNat)) (List.drop ((wrap .i64 ((((b.length):Nat):Int) - c)).toNat) b))))) none) (r0 (((List.take ((wrap .i64 ((((b.length):Nat):Int) - c)).toNat) b)++([46]:List UInt8))++(List.take ((b.length) - ((wrap .i64 ((((b.length):Nat):Int) - c)).toNat)) (List.drop ((wrap .i64 ((((b.length):Nat):Int) - c)).toNat) b))))))) none) none) none) none) none)
def O2 (r0:List UInt8→O R) (q0:List UInt8→O R) (d:LA) (e:Bool) (c:Int):O R :=
 (cond (Nat.ble 2 (d.length)) (Rp N (d.take 2) e (fun f=>(cond (decide (c>0)) (cond (decide ((((f.length):Nat):Int)≤c)) (strings_Repeat N ([48]:List UInt8) (wrap .i64 ((wrap .i64 (c+1)) - (((f.length):Nat):Int))) (fun g=>(cond (Nat.ble ((g.length)+(f.length)) 140737488355328) (q0 (g++f)) none))) (q0 f)) (cond (Nat.ble 2 (d.length)) (Jx N (d.take 2) e (fun l=>(cond (decide (l<0)) (cond (Nat.ble (1+(f.length)) 140737488355328) (r0 (([45]:List UInt8)++f)) none) (r0 f)))) none)))) none)
def J8:=(Ag (fun (N:Nat) (d:LA) (e:Bool) (c:Int) (r0:List UInt8→O R)=>(O2 N r0 (fun b=>(Ht N r0 c e d b)) d e c))).1
theorem Yj (d e c r0):(@J8 R N d e c r0)=(O2 N r0 (fun b=>(Ht N r0 c e d b)) d e c):=by rw[J8,(Ag _).2]
def C_:Hints:={ H:=(hS hL (hS hL (hS (hS hL (hS (hJ [1,2,5] hL hL) hL)) hL))) }
def HU:D8:=[(123,sD N),(124,H9 N),(125,Si N)]
def f8 (F:KF R):=Ov Tryz.f60 C_ (HU N) [] N F
def La (F:KF R):List UInt8→O R:=(fun m=>F (.str m) [])
def f9 (c:Int) (e:Bool) (d:LA) (b:List UInt8):St:=⟨[(1,(iv c)),(2,(op 0)),(5,(.str b))],(hq [(bP e 0 d)])⟩
def f_ (F:KF R):=f8 N F [1,1,0,1,0,1] []
theorem RT (F:KF R) (c:Int) (e:Bool) (d:LA):∀ (b:List UInt8),Cm (f_ N F) (f9 c e d b)=(Ht N (La F) c e d b):=by
 intro b
 kernel_rfl
theorem DA (d:LA) (e:Bool) (c:Int) (F:KF R):Cd (HU N) C_ N 60 [(.pagg d e),(iv c)] [] F=(J8 N d e c (La F)):=by
 rw[Yj]
 exact Eq.trans (by kernel_rfl) (Da (O2 N (La F) · d e c) (funext fun b=>(A2 ..).trans (RT N F c e d b)):_)
def Yk (a:LA) (h:Ah) (k:KF R):O R :=
 match a,h with
 | [(.pagg d e),(.int .i64 c)],[]=>(J8 N d e c (La k))
 | _,_=>none
theorem DB:An N 60 @Yk:=by
 intro R Q a h k j;unfold Yk;split;exact As (DA ..) (DA ..) ⟨sE N,Mk N,Sj N,trivial⟩;exact Av
def fa:=At (DB N)
def fb:=Cg (DB N)
def Wp (b:LA) (c:Bool) (r0:List UInt8→O R):O R :=
 (cond (Nat.ble 2 (b.length)) (J8 N (b.take 2) c 0 (fun d=>(r0 d))) none)
def Ed:=(Ag (@Wp R)).1
theorem Yl:@Ed R=@Wp R:=(Ag _).2
def lW:D8:=[(60,fa N)]
def DC (F:KF R):List UInt8→O R:=(fun e=>F (.str e) [])
theorem DD (b:LA) (c:Bool) (F:KF R):Cd (lW N) C1 N 15 [(.pagg b c)] [] F=(Ed N b c (DC F)):=by
 rw[Yl]
 kernel_rfl
def Ym (a:LA) (h:Ah) (k:KF R):O R :=
 match a,h with
 | [(.pagg b c)],[]=>(Ed N b c (DC k))
 | _,_=>none
theorem DE:An N 15 @Ym:=by
 intro R Q a h k j;unfold Ym;split;exact As (DD ..) (DD ..) ⟨fb N,trivial⟩;exact Av
def fc:=At (DE N)
def fe:=Cg (DE N)
def Wq (b:LA) (c:Bool) (r0:List UInt8→O R):O R :=
 (cond (Nat.ble 3 (b.length)) (J_ N (b.take 3) c (fun d=>(cond ((Nat.beq (d.length) 3)&&((Nat.ble 3 (b.length))&&(!false))) (Kk 1 ((setCells b 0 d).drop 2) fun f g=>(B3 N 1 (fun m i n=>(Ti N [(.bool false),(.imm f g 1 false (c||false))] ((c||false)||false) [(.bool m),(.imm (n.take (i*1)) i 1 false true)] true (fun o=>(cond (o==0) (cond (Nat.ble 2 ((setCells b 0 d).length)) (Ed N ((setCells b 0 d).take 2) (c||false) (fun p=>(r0 p))) none) (cond (Nat.ble 2 ((setCells b 0 d).length)) (Ed N ((setCells b 0 d).take 2) (c||false) (fun e=>(cond (Nat.ble ((e.length)+1) 140737488355328) (Ed N [(.bool false),(.imm f g 1 false (c||false))] ((c||false)||false) (fun l=>(cond (Nat.ble ((List.length (e++([47]:List UInt8)))+(l.length)) 140737488355328) (r0 ((e++([47]:List UInt8))++l)) none))) none))) none))))))) none))) none)
def J9:=(Ag (@Wq R)).1
theorem Yn:@J9 R=@Wq R:=(Ag _).2
def lX:D8:=[(62,jS N),(64,Hy N),(63,nP N),(15,fc N)]
def DF (F:KF R):List UInt8→O R:=(fun q=>F (.str q) [])
theorem DG (b:LA) (c:Bool) (F:KF R):Cd (lX N) C1 N 17 [(.pagg b c)] [] F=(J9 N b c (DF F)):=by
 rw[Yn]
 kernel_rfl
def Yo (a:LA) (h:Ah) (k:KF R):O R :=
 match a,h with
 | [(.pagg b c)],[]=>(J9 N b c (DF k))
 | _,_=>none
theorem DH:An N 17 @Yo:=by
 intro R Q a h k j;unfold Yo;split;exact As (DG ..) (DG ..) ⟨jT N,Hz N,nQ N,fe N,trivial⟩;exact Av
def ff:=At (DH N)
def fg:=Cg (DH N)
end
end Gx

namespace Gx
open Go Go.Proofs
section
variable {R:Type}
theorem Aer (m:Nat):(Int.tmod (m:Int) 2==1)=decide (m%2=1):=by
 rw[show Int.tmod (m:Int) 2=((m%2:Nat):Int) by rfl]
 rw[Bool.eq_iff_iff];simp;omega
theorem Aes {m:Nat} (h:m≤1000000000000):IntKind.wrap .i64 (Int.tdiv (m:Int) 2)=((m/2:Nat):Int):=by
 rw[show Int.tdiv (m:Int) 2=((m/2:Nat):Int) by rfl,i64 (by omega)]
theorem zY (n:Bool) (s:LS) (x y:AV):Gf (B6 n s) 0 [x,y]=[x,y]:=rfl
theorem wh (s:LS):Ao false s=(val s.l:Int):=rfl
theorem Aet {N:Nat} {s1 s2:LS} {o1 o2:Bool} (b:Ad s1.l) (c:Ad s2.l) (d:fit (s1.l.length+s2.l.length) N):∃ S,Ad S∧val S=val s1.l*val s2.l∧∀ K:Bool→Nat→LA→O R,Wb N (B6 false s1) o1 (B6 false s2) o2 K=K false (Af (val s1.l*val s2.l)).length (Aa S):=by
 obtain⟨S,a1,a2,a3⟩:=pa (R:=R) (N:=N) (n1:=false) (n2:=false) (o1:=o1) (o2:=o2) b c d
 rw[wh,wh,←Int.natCast_mul] at a2 a3
 rw[Int.natAbs_natCast] at a2 a3
 refine⟨S,a1,a2,fun K=>?_⟩
 rw[a3,decide_eq_false (by omega)]
theorem RU {P Q m j:Nat} (hP:1≤P) (hQ:1≤Q) (b:j≤m):P ^ j≤Q*P ^ m:=by
 have c:P ^ j≤P ^ m:=Nat.pow_le_pow_right hP b
 have d:1*P ^ m≤Q*P ^ m:=Nat.mul_le_mul_right _ hQ
 omega
theorem yX {N k:Nat} (F:fit (2*k+4) N):∀ (b m P Q:Nat) (c:Bool) (s:LS) (S:List Nat),m<b→m≤1000000000→1≤P→1≤Q→Q*P ^ m<4294967296 ^ k→Ad s.l→val s.l=P→s.l.length≤k+1→Ad S→val S=Q →
  ∃ S',Ad S'∧val S'=Q*P ^ m∧∀ K:Bool→Nat→LA→O R,Ft N K b (m:Int) c (B6 false s) false (Af Q).length (Aa S)=K false (Af (Q*P ^ m)).length (Aa S'):=by
 intro b
 induction b with
 | zero=>intro m P Q c s S h;omega
 | succ b x =>
  intro m P Q c s S M I hP hQ f v y z hS hSv
  rcases Nat.eq_zero_or_pos m with A | A
  ·subst A
   refine⟨S,hS,by simp[hSv],fun K=>?_⟩
   rw[Ft];unfold J6
   rw[show decide (((0:Nat):Int)>0)=false by decide,cf,Nat.pow_zero,Nat.mul_one]
  ·have lQ:(Af Q).length≤k:=Bp (Nat.lt_of_le_of_lt (Nat.le_mul_of_pos_right Q (Nat.pow_pos hP)) f)
   have hPm:P ^ 1≤Q*P ^ m:=RU hP hQ A
   obtain⟨S1,a1,a2,a3⟩:=Aet (R:=R) (N:=N) (s1:=.of (Af Q) false true) (s2:=s) (o1:=true) (o2:=c) (Ab _) v (F.le (show(Af Q).length+s.l.length≤_ by omega))
   have vQ:val (LS.of (Af Q) false true).l=Q:=Ac Q
   rw[vQ,y] at a2 a3
   obtain⟨S2,G,B,C⟩:=Aet (R:=R) (N:=N) (s1:=s) (s2:=s) (o1:=c) (o2:=c) v v (F.le (show s.l.length+s.l.length≤_ by omega))
   rw[y] at B C
   have sq:∀ n t:Nat,(P*P) ^ n=P ^ (2*n):=fun n t=>by rw[←Nat.pow_two,←Nat.pow_mul]
   have gt0:decide (((m:Nat):Int)>0)=true:=by simp;omega
   have cell:∀ (t:Nat) (u:List Nat),([.bool false,.imm (List.take ((Af t).length*1) (Aa u)) (Af t).length 1 false false]:LA)=[.bool false,.imm (List.take ((Af t).length*1) (Aa u)) (Af t).length 1 false false]:=fun _ _=>rfl
   by_cases d:m%2=1
   ·by_cases L:1<m
    ·have e:Q*P ^ m=(Q*P)*(P*P) ^ (m/2):=by
      rw[sq _ 0,Nat.mul_assoc,←Nat.pow_succ']
      congr 2;omega
     have l2:(Af (P*P)).length≤k:=Bp (Nat.lt_of_le_of_lt (by have:=RU (j:=2) hP hQ (show 2≤m by omega);rwa [Nat.pow_two] at this) f)
     obtain⟨S',c1,i,q⟩:=x (m/2) (P*P) (Q*P) (c||false) (.of (Af (P*P)) false false) S1 (by omega) (by omega) (Nat.mul_pos hP hP) (Nat.mul_pos hQ hP) (by rw[←e];exact f) (Ab _) (Ac _) (by show(Af (P*P)).length≤_;omega) a1 a2
     refine⟨S',c1,by rw[i,e],fun K=>?_⟩
     rw[Ft];unfold J6
     rw[gt0,ct,Aer,decide_eq_true d,ct,KX,ct,mV,A5 hS hSv,vO,a3,show decide (((m:Nat):Int)>1)=true by simp;omega,ct,ct,ct,C,show((Nat.beq 2 2)&&(true&&(!false)))=true by rfl,ct,Aes (by omega),zY,A5 G B,vO,q,e]
    ·have D:m=1:=by omega
     subst D
     obtain⟨S',c1,i,q⟩:=x 0 P (Q*P) c s S1 (by omega) (by omega) hP (Nat.mul_pos hQ hP) (by simpa using f) v y z a1 a2
     rw[Nat.pow_zero,Nat.mul_one] at i q
     refine⟨S',c1,by rw[i,Nat.pow_one],fun K=>?_⟩
     rw[Ft];unfold J6
     rw[gt0,ct,Aer,decide_eq_true d,ct,KX,ct,mV,A5 hS hSv,vO,a3,show decide (((1:Nat):Int)>1)=false by decide,cf,Aes (by omega),q,Nat.pow_one]
   ·have L:1<m:=by omega
    have e:Q*P ^ m=Q*(P*P) ^ (m/2):=by
     rw[sq _ 0];congr 2;omega
    have l2:(Af (P*P)).length≤k:=Bp (Nat.lt_of_le_of_lt (by have:=RU (j:=2) hP hQ (show 2≤m by omega);rwa [Nat.pow_two] at this) f)
    obtain⟨S',c1,i,q⟩:=x (m/2) (P*P) Q (c||false) (.of (Af (P*P)) false false) S (by omega) (by omega) (Nat.mul_pos hP hP) hQ (by rw[←e];exact f) (Ab _) (Ac _) (by show(Af (P*P)).length≤_;omega) hS hSv
    refine⟨S',c1,by rw[i,e],fun K=>?_⟩
    rw[Ft];unfold J6
    rw[gt0,ct,Aer,decide_eq_false d,cf,show decide (((m:Nat):Int)>1)=true by simp;omega,ct,KX,ct,ct,mV,C,show((Nat.beq 2 2)&&(true&&(!false)))=true by rfl,ct,Aes (by omega),zY,A5 G B,vO,q,e]
theorem Afo:Af 10=[10]:=by rw[Uh (by omega)];simp[Cc]
theorem Aeu (n:Nat):10 ^ n<4294967296 ^ (n+1):=by
 have b:10 ^ n≤4294967296 ^ n:=Nat.pow_le_pow_left (by omega) n
 have c:4294967296 ^ n<4294967296 ^ (n+1):=Nat.pow_lt_pow_right (by omega) (by omega)
 omega
theorem pk {N n:Nat} (b:fit (2*n+6) N):∃ S,Ad S∧val S=10 ^ n∧∀ (K:Bool→Nat→LA→O R),(B3 N 10 fun g e i=>Tn N [(.bool g),(.imm (i.take (e*1)) e 1 false true)] true (n:Int) K)=K false (Af (10 ^ n)).length (Aa S):=by
 have q:=b.1;have s:=b.2
 obtain⟨S0,a1,a2,a3⟩:=F5 (R:=R) (N:=N) (v:=1) (by omega) (by omega)
 obtain⟨S1,f,j,m⟩:=F5 (R:=R) (N:=N) (v:=10) (by omega) (by omega)
 obtain⟨S',c1,c,d⟩:=yX (R:=R) (N:=N) (k:=n+1) (b.le (by omega)) N n 10 1 true (.of (Af 10) false true) S0 (by omega) (by omega) (by omega) (by omega) (by rw[Nat.one_mul];exact Aeu n) (Ab _) (Ac _) (by rw[Afo];simp[LS.l]) a1 a2
 rw[Nat.one_mul] at c d
 refine⟨S',c1,c,fun K=>?_⟩
 rw[m,WR];unfold KK
 rw[a3]
 refine Eq.trans ?_ (d K)
 rw[show(10:Int).natAbs=10 by rfl,show(1:Int).natAbs=1 by rfl] at *
 rw[A5 f j]
 rfl
def B9:Nat:=1000000000
def v_:Nat→Nat→List Nat
 | 0,_=>[]
 | n+1,a=>if a=0 then [] else a%B9::v_ n (a/B9)
def yY (a:Nat):List Nat:=v_ a a
theorem Afp:∀ (n m a:Nat),a≤n→a≤m→v_ n a=v_ m a:=by
  intro n
  induction n with
  | zero=>intro m a h _;cases m<;>simp[v_];omega
  | succ n b =>
    intro m a c d
    cases m with
    | zero => have : a = 0 := by omega
              subst this;simp[v_]
    | succ m =>
      unfold v_
      split
      · rfl
      · have:a/B9<a:=Nat.div_lt_self (by omega) (by decide)
        rw[b m (a/B9) (by omega) (by omega)]
theorem XG:yY 0=[]:=rfl
theorem Vt {a:Nat} (h:0<a):yY a=a%B9::yY (a/B9):=by
 unfold yY
 obtain⟨n,rfl⟩:∃ n,a=n+1:=⟨a - 1,by omega⟩
 rw[v_,if_neg (by omega)]
 have:(n+1)/B9<n+1:=Nat.div_lt_self (by omega) (by decide)
 rw[Afp n ((n+1)/B9) _ (by omega) (Nat.le_refl _)]
theorem Ahr:∀ (a:Nat),∀ g ∈ yY a,g<B9:=by
 intro a
 induction a using Nat.strongRecOn with
 | ind a d =>
  intro g b
  rcases Nat.eq_zero_or_pos a with c | c
  ·subst c;cases b
  ·rw[Vt c] at b
   rcases List.mem_cons.1 b with rfl | b
   ·exact Nat.mod_lt _ (by decide)
   ·exact d (a/B9) (Nat.div_lt_self c (by decide)) g b
def Ab3 (g:Nat):List UInt8:=List.replicate (9 - (Hx g).length) 48++Hx g
def Qh:List Nat→List UInt8
 | []=>[]
 | [g]=>Hx g
 | g::h::r=>Qh (h::r)++Ab3 g
theorem HV {g:Nat} (h:g<B9):(Hx g).length≤9:=(zP (by omega)).2 h
theorem Ab4:∀ (a:Nat),0<a→Qh (yY a)=Hx a:=by
 intro a
 induction a using Nat.strongRecOn with
 | ind a f =>
  intro d
  rw[Vt d]
  have c:a/B9<a:=Nat.div_lt_self d (by decide)
  rcases Nat.eq_zero_or_pos (a/B9) with b | b
  ·rw[b,XG]
   show Hx (a%B9)=Hx a
   have:a<B9:=(Nat.div_eq_zero_iff_lt (by decide)).1 b
   rw[Nat.mod_eq_of_lt this]
  ·have e:=f (a/B9) c b
   rw[Vt b] at e ⊢
   rw[Qh,e,Ab3]
   have i:a=a/B9*10 ^ 9+a%B9:=by
    have:=Nat.div_add_mod a B9
    rw[Nat.mul_comm] at this
    exact this.symm
   conv=>rhs;rw[i]
   exact(Aac (k:=9) (r:=a%B9) b (Nat.mod_lt _ (by decide)) (HV (Nat.mod_lt _ (by decide)))).symm
theorem pm:∀ (gs:List Nat),(∀ g ∈ gs,g<B9)→(Qh gs).length≤9*gs.length
 | [],_=>by simp[Qh]
 | [g],h=>by have:=HV (h g (by simp));simp[Qh];omega
 | g::k::r,h=>by
  have c:=pm (k::r) (fun x b=>h x (by simp at b ⊢;exact .inr b))
  have d:=HV (h g (by simp))
  rw[Qh,List.length_append,Ab3,List.length_append,List.length_replicate]
  simp only[List.length_cons] at *
  omega
def gI (l:List Nat):LA:=l.map fun n:Nat=>.int .i64 (n:Int)
theorem Ahs (a:List Nat) (g:Nat):gI a++[.int .i64 (g:Int)]=gI (a++[g]):=by simp[gI]
theorem Afq (a:List Nat):List.take (a.length*1) (gI a)=gI a:=by rw[Nat.mul_one];exact List.take_of_length_le (by simp[gI])
theorem Aj6 {l:List Nat} {j:Nat} (h:j<l.length) {f:Int→O R}:Bw .i64 (List.drop (0+((Int.toNat (j:Int))*1)) (gI l)) f=f (l[j]:Nat):=by
 rw[Nat.zero_add,Nat.mul_one,Int.toNat_natCast]
 have e:List.drop j (gI l)=.int .i64 ((l[j]:Nat):Int)::gI (List.drop (j+1) l):=by
  unfold gI;rw[←List.map_drop,List.drop_eq_getElem_cons h];rfl
 rw[e];rfl
theorem yZ (s:List UInt8) (n:Nat) (h:n=s.length):List.take (n*1) (Bj s)=Bj s:=by
 rw[Nat.mul_one];exact List.take_of_length_le (by simp[Bj,h])
theorem va (s:List UInt8):List.take s.length (Bj s)=Bj s:=List.take_of_length_le (by simp[Bj])
theorem Ab5 (a b:List UInt8):Bj a++Bj b=Bj (a++b):=by simp[Bj]
theorem eX:∀ (s:List UInt8),O8 (Bj s)=some s
 | []=>rfl
 | c::r=>by
  have b:=eX r
  have e:Bj (c::r)=.int .u8 (c.toNat:Int)::Bj r:=rfl
  rw[e,O8,b]
  simp[gD]
theorem Afr {N:Nat} {s:List UInt8} {K:List UInt8→O R} (b:s≠[]) (e:s.length≤9223372036854775807):M6 N s.length (Bj s) K=K s:=by
 rw[Yi];unfold Wk
 have c:0<s.length:=List.length_pos_iff.2 b
 have d:((Nat.beq 5 5)&&((Nat.beq 1 1)&&(true&&((!false)&&((Nat.beq 0 0)&&((decide (0<((s.length:Nat):Int)))&&((decide (((s.length:Nat):Int)≤(((Bj s).length:Nat):Int)))&&(decide (((s.length:Nat):Int)≤9223372036854775807)))))))))=true:=by
  simp[Bj];omega
 rw[show Nat.blt 0 s.length=true by simpa using c,ct,d,ct,va,eX];rfl
theorem Afs {N:Nat} {b:List UInt8} {K:Int→Nat→LA→O R} (c:b.length≤140737488355328):I8 N b K=K (b.length:Int) b.length (Bj b):=by
 rw[To];unfold P3
 rw[Yf];unfold Wh
 have:(Nat.ble (0+b.length) 140737488355328&&Nat.ble ((0+b.length)*1) 140737488355328)=true:=by simp;omega
 rw[this,ct,Nat.zero_add]
theorem zZ {N:Nat} {s b:List UInt8} {K:Int→Nat→LA→O R} (c:s.length+b.length≤140737488355328):C3 N b s.length (Bj s) K=K (b.length:Int) (s++b).length (Bj (s++b)):=by
 rw[Nj];unfold Ll
 rw[Qf];unfold Og
 have:(Nat.ble (s.length+b.length) 140737488355328&&Nat.ble ((s.length+b.length)*1) 140737488355328)=true:=by simp;omega
 rw[this,ct,yZ s _ rfl,Ab5,List.length_append]
theorem pn {N n:Nat} {K:List UInt8→O R} (h:n≤9223372036854775807):strconv_Itoa N (n:Int) K=K (Hx n):=by
 rw[Jp];unfold Km
 have:(decide (-9223372036854775808≤(n:Int))&&decide ((n:Int)≤9223372036854775807))=true:=by simp;omega
 rw[this,ct,Lib.itoa,if_neg (by omega),Int.toNat_natCast]
theorem vd (k:Nat):Lib.repeatL [48] k=List.replicate k 48:=by
 induction k with
 | zero=>rfl
 | succ k b=>rw[Lib.repeatL,b];rfl
theorem gN {N k:Nat} {K:List UInt8→O R} (h:k≤140737488355328):strings_Repeat N [48] (k:Int) K=K (List.replicate k 48):=by
 rw[G1];unfold Hm
 have:(decide ((0:Int)≤(k:Int))&&(decide ((k:Int)≤9223372036854775807)&&decide (((([48]:List UInt8).length:Nat):Int)*(k:Int)≤140737488355328)))=true:=by simp;omega
 rw[this,ct,Int.toNat_natCast,vd]
end
end Gx

namespace Gx
open Go Go.Proofs
section
variable {R:Type}
theorem Aft:∀ (k a:Nat),a<B9 ^ k→(yY a).length≤k:=by
  intro k
  induction k with
  | zero => intro a h; have : a = 0 := by simpa using h
            subst this;simp[XG]
  | succ k c =>
    intro a h
    rcases Nat.eq_zero_or_pos a with b | b
    · subst b;simp[XG]
    · rw[Vt b,List.length_cons]
      have:=c (a/B9) (Nat.div_lt_of_lt_mul (by rw[Nat.pow_succ,Nat.mul_comm] at h;exact h))
      omega
theorem Aev {l:List Nat} (h:Ad l):(yY (val l)).length≤2*l.length:=by
 refine Aft _ _ (Nat.lt_of_lt_of_le (Be h) ?_)
 rw[Nat.pow_mul]
 exact Nat.pow_le_pow_left (by decide) _
theorem Ait:(Af (10 ^ 9)).length≤1:=Bp (by decide)
theorem Ajj:(10:Nat) ^ 9=B9:=by decide
theorem Fa (v:Nat) (a b:Bool):Ad (LS.of (Af v) a b).l:=Ab v
theorem Agp {N v:Nat} {S:List Nat} {o:Bool} {K:LA→LA→Bool→O R} (b:Ad S) (c:val S=10 ^ 9) {s:LS} (d:Ad s.l) (e:val s.l=v) (f:fit (s.l.length+5) N) :
  Ly N (B6 false s) o [(.bool false),(.imm (List.take ((Af (10 ^ 9)).length*1) (Aa S)) (Af (10 ^ 9)).length 1 false true)] true K=K (Bg ((v/B9:Nat):Int)) (Bg ((v%B9:Nat):Int)) true:=by
 rw[A5 b c,vO,ro d (Fa _ _ _) (by rw[wh];simp only[LS.l];rw[Ac];decide) (f.le (by have:=Ait;simp only[LS.l];omega)),wh,wh,e]
 simp only[LS.l]
 rw[Ac,Ajj];rfl
theorem po {N v:Nat} {o:Bool} {K:Int→Bool→O R} (c:v≤9223372036854775807) (b:fit 3 N):Ph N (Bg (v:Int)) o K=K (v:Int) true:=by
 have:(Af v).length≤2:=Bp (by omega)
 rw[WP,vT (Fa _ _ _) (b.le (by simp only[LS.l];omega)) (by rw[wh];simp only[LS.l];rw[Ac];omega),wh]
 simp only[LS.l]
 rw[Ac]
theorem ve {N v:Nat} {o:Bool} {K:Int→O R} (b:fit ((Af v).length) N):Jx N (Bg (v:Int)) o K=K (v:Int).sign:=by
 rw[WP,Iz (Fa _ _ _) b,wh]
 simp only[LS.l]
 rw[Ac]
theorem Aew {v:Nat}:decide ((v:Int).sign>0)=decide (0<v):=by
 rw[decide_eq_decide]
 cases v with
 | zero=>simp
 | succ v=>simp
theorem Aiu {l:List Nat} {j:Nat} {i:Int} (b:i=(j:Int)) (h:j<l.length) {f:Int→O R}:Bw .i64 (List.drop (0+((Int.toNat i)*1)) (gI l)) f=f (l[j]:Nat):=by subst b;exact Aj6 h
theorem Ab6 {N:Nat} {G:List Nat} {K:List UInt8→O R} (hG:∀ g ∈ G,g<B9) (s:G.length≤2000000000):∀ (b m:Nat),1≤m→m≤G.length→G.length - m<b →
  M7 N K G.length (gI G) b (G.length:Int) (m:Int) (Qh (G.drop (G.length - m))).length (Bj (Qh (G.drop (G.length - m))))=K (Qh G):=by
 intro b
 induction b with
 | zero=>intro m _ _ h;omega
 | succ b k =>
  intro m i t u
  have hT:=pm (G.drop (G.length - m)) (fun g d=>hG g (List.mem_of_mem_drop d))
  rw[List.length_drop] at hT
  rw[M7];unfold Wl
  by_cases e:m<G.length
  ·rw[T6 e,ct]
   have j:IntKind.wrap .i64 ((IntKind.wrap .i64 (((G.length:Nat):Int) - 1)) - (m:Int))=((G.length - m - 1:Nat):Int):=by
    rw[show IntKind.wrap .i64 (((G.length:Nat):Int) - 1)=((G.length - 1:Nat):Int) by rw[i64 (by omega)];omega,i64 (by omega)];omega
   have c:G.length - m - 1<G.length:=by omega
   rw[show Aj (IntKind.wrap .i64 ((IntKind.wrap .i64 (((G.length:Nat):Int) - 1)) - (m:Int))) G.length=true by rw[j];unfold Aj;simp;omega,ct,Aiu j c]
   have d:=hG _ (List.getElem_mem c)
   have hB:B9=1000000000:=rfl
   have l:=HV d
   rw[pn (by omega),show decide (((m:Nat):Int)>0)=true by simp;omega,ct]
   rw[show IntKind.wrap .i64 (9 - (((Hx G[G.length - m - 1]).length:Nat):Int))=((9 - (Hx G[G.length - m - 1]).length:Nat):Int) by rw[i64 (by omega)];omega]
   have n:G.drop (G.length - (m+1))=G[G.length - m - 1]::G.drop (G.length - m):=by
    rw[show G.length - (m+1)=G.length - m - 1 by omega,List.drop_eq_getElem_cons c,show G.length - m - 1+1=G.length - m by omega]
   have f:Qh (G.drop (G.length - (m+1)))=Qh (G.drop (G.length - m))++Ab3 G[G.length - m - 1]:=by
    rw[n]
    cases q:G.drop (G.length - m) with
    | nil=>have:=congrArg List.length q;rw[List.length_drop] at this;simp at this;omega
    | cons x y=>rw[Qh]
   rw[gN (by omega),zZ (by rw[List.length_replicate];omega),zZ (by rw[List.length_append,List.length_replicate];omega),List.append_assoc,show List.replicate (9 - (Hx G[G.length - m - 1]).length) 48++Hx G[G.length - m - 1]=Ab3 G[G.length - m - 1] from rfl,←f,wS (by omega)]
   exact k (m+1) (by omega) (by omega) (by omega)
  ·have e:m=G.length:=by omega
   subst e
   rw[BV (by omega),cf]
   rw[Nat.sub_self,List.drop_zero] at hT ⊢
   rw[Afr (by
    cases hG':G with
    | nil=>rw[hG'] at i;simp at i
    | cons g r =>
     cases r with
     | nil=>exact Sa g
     | cons h r =>
      rw[Qh,Ab3];simp[Sa]) (by omega)]
theorem Ab7 (g:Nat):Qh [g]=Hx g:=rfl
theorem Ab8 {N:Nat} {G:List Nat} {K:List UInt8→O R} (hG:∀ g ∈ G,g<B9) (d:G≠[]) (f:G.length≤2000000000) (hN:G.length+2≤N):M8 N K G.length (gI G) N (G.length:Int)=K (Qh G):=by
 have k:=List.length_pos_iff.2 d
 obtain⟨n,rfl⟩:∃ n,N=n+1:=⟨N - 1,by omega⟩
 rw[M8];unfold Wm
 have c:IntKind.wrap .i64 ((IntKind.wrap .i64 (((G.length:Nat):Int) - 1)) - 0)=((G.length - 1:Nat):Int):=by
  rw[show IntKind.wrap .i64 (((G.length:Nat):Int) - 1)=((G.length - 1:Nat):Int) by rw[i64 (by omega)];omega,i64 (by omega)];omega
 have b:G.length - 1<G.length:=by omega
 have i:=hG _ (List.getElem_mem b)
 have hB:B9=1000000000:=rfl
 have j:=HV i
 rw[show decide ((0:Int)<((G.length:Nat):Int))=true by simp;omega,ct,show Aj (IntKind.wrap .i64 ((IntKind.wrap .i64 (((G.length:Nat):Int) - 1)) - 0)) G.length=true by rw[c];unfold Aj;simp;omega,ct,Aiu c b,pn (by omega),Afs (by omega)]
 have e:G.drop (G.length - 1)=[G[G.length - 1]]:=by
  rw[List.drop_eq_getElem_cons b,List.drop_eq_nil_of_le (by omega)]
 have:=Ab6 (R:=R) (N:=n+1) (K:=K) hG f n 1 (by omega) (by omega) (by omega)
 rw[e,Ab7] at this
 exact this
theorem Ab9 {N a:Nat} {S:List Nat} {i:Bool} {e:Nat} {l:LA} {K:List UInt8→O R} (m:Ad S) (n:val S=10 ^ 9) (q:0<a) (t:(yY a).length≤2000000000) (hN:(yY a).length+2≤N) (d:fit ((Af a).length+5) N) :
  ∀ (b v:Nat) (G:List Nat),v≤a→G≠[]→G++yY v=yY a→(yY v).length<b→M9 N K false (Af (10 ^ 9)).length (Aa S) i e l b G.length (Bg (v:Int)) (gI G)=K (Hx a):=by
 intro b
 induction b with
 | zero=>intro v G _ _ _ h;omega
 | succ b u =>
  intro v G f hG0 hG j
  have x:=A4 f
  rw[M9];unfold Wn
  have k:=congrArg List.length hG
  rw[List.length_append] at k
  rw[f4,ct,Abx,ve (d.le (by omega)),Aew]
  rcases Nat.eq_zero_or_pos v with c | c
  ·subst c
   rw[XG,List.append_nil] at hG
   have y:=List.length_pos_iff.2 hG0
   rw[show decide (0<0)=false by decide,cf,show(((G.length:Nat):Int)==0)=false by simp;omega,cf]
   rw[hG] at hG0 ⊢
   exact(Ab8 (Ahr a) hG0 t hN).trans (by rw[Ab4 a q])
  ·rw[decide_eq_true c,ct,ct,WP,Agp m n (s:=.of (Af v) false false) (Fa _ _ _) (Ac v) (d.le (by simp only[LS.l];omega)),Aeq,ct,Aeq,ct,f4,ct,Abx]
   have hB:B9=1000000000:=rfl
   have z:v%B9<B9:=Nat.mod_lt _ (by decide)
   rw[po (by omega) (d.le (by omega)),show((Nat.ble (G.length+1) 140737488355328)&&(Nat.ble ((G.length+1)*8) 140737488355328))=true by simp;omega,ct,f4,ct,Abx,Aio,ct,←WP,Ail,Afq,Ahs]
   have e:(G++[v%B9])++yY (v/B9)=yY a:=by rw[List.append_assoc,←hG,Vt c];rfl
   have:=u (v/B9) (G++[v%B9]) (by have:=Nat.div_le_self v B9;omega) (by simp) e (by rw[Vt c,List.length_cons] at j;omega)
   rw[List.length_append] at this
   exact this
theorem vf {N:Nat} {n:Bool} {s:LS} {u:Bool} {K:List UInt8→O R} (d:Ad s.l) (b:fit (2*s.l.length+40) N):Rp N (B6 n s) u K=K (Hx (Ao n s).natAbs):=by
 have hN:=b.1;have hN2:=b.2
 obtain⟨S,j,k,q⟩:=pk (R:=R) (N:=N) (n:=9) (b.le (by omega))
 rw[OK];unfold AO
 refine Eq.trans (q _) ?_
 rw[KX,ct,mV,Ab0 d (b.le (by omega))]
 have e:=Bn n s
 have f:=Aev d
 have i:=(A3 d).2
 rw[←e] at f i
 generalize (Ao n s).natAbs=a at *
 obtain⟨m,rfl⟩:∃ m,N=m+1:=⟨N - 1,by omega⟩
 show J7 (m+1) K false _ false _ _ _ (m+1)=_
 rw[J7];unfold Wo
 rw[A5 (Ab a) (Ac a),vO,Iz (Fa _ _ _) (b.le (by show(Af a).length≤_;omega)),wh,show val (LS.of (Af a) false true).l=a from Ac a,Aew]
 rcases Nat.eq_zero_or_pos a with c | c
 ·subst c
  rw[show decide (0<0)=false by decide,cf,Lq (by omega)];rfl
 ·have hB:B9=1000000000:=rfl
  have t:a%B9<B9:=Nat.mod_lt _ (by decide)
  rw[decide_eq_true c,ct,Agp j k (s:=.of (Af a) false true) (Fa _ _ _) (Ac a) (b.le (by show(Af a).length+5≤_;omega)),Aeq,ct,Aeq,ct,f4,ct,Abx,po (by omega) (b.le (by omega)),f4,ct,Abx,Aeq,ct]
  exact Ab9 (R:=R) (G:=[a%B9]) j k c (by omega) (by omega) (b.le (by omega)) m (a/B9) (Nat.div_le_self _ _) (by simp) (by rw[Vt c];rfl) (by
   have:=congrArg List.length (Vt c)
   rw[List.length_cons] at this;omega)
end
end Gx

namespace Gx
open Go Go.Proofs
section
variable {R:Type}
theorem y4 {v k:Nat} (h:v<10 ^ k):(Hx v).length≤k+1:=by
 have:=(zP (u:=v) (k:=k+1) (by omega)).2 (Nat.lt_of_lt_of_le h (Nat.pow_le_pow_right (by omega) (by omega)))
 exact this
theorem Afu (k:Nat):4294967296 ^ k≤10 ^ (10*k):=by
 rw[Nat.pow_mul];exact Nat.pow_le_pow_left (by decide) _
theorem HW (v:Nat):(Hx v).length≤10*(Af v).length+1:=y4 (Nat.lt_of_lt_of_le (rj (Nat.le_refl _)) (Afu _))
def OM (c:Nat) (s:List UInt8):List UInt8:=List.replicate (c+1 - s.length) 48++s
def K_ (z:Int) (s:List UInt8):List UInt8:=if z<0 then 45::s else s
def Ajs (c:Nat) (s:List UInt8):List UInt8:=if c=0 then s else (OM c s).take ((OM c s).length - c)++[46]++(OM c s).drop ((OM c s).length - c)
def pt (z:Int) (c:Nat):List UInt8:=K_ z (Ajs c (Hx z.natAbs))
theorem Aca (c:Nat) (s:List UInt8):c+1≤(OM c s).length∧(OM c s).length≤c+1+s.length:=by
 unfold OM;rw[List.length_append,List.length_replicate];omega
theorem Yp {a b:Nat} (h:a≤b):Nat.ble a b=true:=by simpa using h
theorem Agq {N:Nat} {n:Bool} {s:LS} {u:Bool} {c:Nat} {b:List UInt8} {K:List UInt8→O R} (d:Ad s.l) (f:fit s.l.length N) (j:c≤b.length) (k:b.length≤100000000000):Ht N K (c:Int) u (B6 n s) b=K (K_ (Ao n s) (b.take (b.length - c)++[46]++b.drop (b.length - c))):=by
 have i:IntKind.wrap .i64 ((((b.length):Nat):Int) - (c:Int))=((b.length - c:Nat):Int):=by rw[i64 (by omega)];omega
 unfold Ht
 rw[i]
 rw[show((decide ((0:Int)≤(0:Int)))&&((decide (0≤((b.length - c:Nat):Int)))&&((decide (((b.length - c:Nat):Int)≤(((b.length):Nat):Int)))&&(decide ((((b.length):Nat):Int)≤(((b.length):Nat):Int))))))=true by simp,ct]
 rw[Int.toNat_natCast,Yp (by rw[List.length_take];omega),ct]
 rw[show((decide (0≤((b.length - c:Nat):Int)))&&((decide (((b.length - c:Nat):Int)≤(((b.length):Nat):Int)))&&((decide ((((b.length):Nat):Int)≤(((b.length):Nat):Int)))&&(decide ((((b.length):Nat):Int)≤(((b.length):Nat):Int))))))=true by simp,ct]
 rw[List.take_of_length_le (l:=List.drop (b.length - c) b) (by rw[List.length_drop];omega)]
 rw[Yp (by rw[List.length_append,List.length_take,List.length_drop,List.length_singleton];omega),ct,KX,ct,mV,Iz d f]
 unfold K_
 by_cases h:Ao n s<0
 ·rw[show decide ((Ao n s).sign<0)=true by rw[decide_eq_true_eq];exact Int.sign_neg_iff.2 h,ct,if_pos h,Yp (by rw[List.length_append,List.length_append,List.length_take,List.length_drop,List.length_singleton];omega),ct];rfl
 ·rw[show decide ((Ao n s).sign<0)=false by rw[decide_eq_false_iff_not];intro e;exact h (Int.sign_neg_iff.1 e),cf,if_neg h]
theorem lY {N:Nat} {n:Bool} {s:LS} {u:Bool} {c:Nat} {K:List UInt8→O R} (i:Ad s.l) (t:c≤1000000000) (d:fit (2*s.l.length+40) N):J8 N (B6 n s) u (c:Int) K=K (pt (Ao n s) c):=by
 have hN:=d.1;have hN2:=d.2
 have v:(Hx (Ao n s).natAbs).length≤10*s.l.length+1:=by
  have k:=HW (Ao n s).natAbs
  have m:=(A3 i).2
  rw[←Bn n s] at m;omega
 have x:=List.length_pos_iff.2 (Sa (Ao n s).natAbs)
 rw[Yj];unfold O2
 rw[KX,ct,mV,vf i d]
 unfold pt Ajs
 generalize Hx (Ao n s).natAbs=f at *
 have q:=Aca c f
 by_cases j:c=0
 ·subst j
  rw[show decide (((0:Nat):Int)>0)=false by decide,cf,ct,Iz i (d.le (by omega)),if_pos rfl]
  unfold K_
  by_cases h:Ao n s<0
  ·rw[show decide ((Ao n s).sign<0)=true by rw[decide_eq_true_eq];exact Int.sign_neg_iff.2 h,ct,if_pos h,Yp (by omega),ct];rfl
  ·rw[show decide ((Ao n s).sign<0)=false by rw[decide_eq_false_iff_not];intro e;exact h (Int.sign_neg_iff.1 e),cf,if_neg h]
 ·rw[show decide (((c:Nat):Int)>0)=true by simp;omega,ct,if_neg j]
  by_cases k:f.length≤c
  ·rw[show decide ((((f.length):Nat):Int)≤(c:Int))=true by simp;omega,ct]
   rw[show IntKind.wrap .i64 ((IntKind.wrap .i64 (((c:Nat):Int)+1)) - (((f.length):Nat):Int))=((c+1 - f.length:Nat):Int) by rw[wS (by omega),i64 (by omega)];omega]
   rw[gN (by omega),Yp (by rw[List.length_replicate];omega),ct]
   exact Agq (b:=OM c f) i (d.le (by omega)) (by omega) (by omega)
  ·rw[show decide ((((f.length):Nat):Int)≤(c:Int))=false by simp;omega,cf]
   have e:OM c f=f:=by unfold OM;rw[show c+1 - f.length=0 by omega];rfl
   rw[e]
   exact Agq (b:=f) i (d.le (by omega)) (by omega) (by omega)
def Ea (z:Int):List UInt8:=K_ z (Hx z.natAbs)
theorem lZ (z:Int):(Ea z).length≤10*(Af z.natAbs).length+2:=by
 have:=HW z.natAbs
 unfold Ea K_;split<;>simp<;>omega
theorem HX {N:Nat} {n:Bool} {s:LS} {u:Bool} {K:List UInt8→O R} (b:Ad s.l) (d:fit (2*s.l.length+40) N):Ed N (B6 n s) u K=K (Ea (Ao n s)):=by
 rw[Yl];unfold Wp
 rw[KX,ct,mV]
 exact lY (c:=0) b (by omega) d
def Bu (q:Rat):List UInt8:=if q.den=1 then Ea q.num else Ea q.num++[47]++Hx q.den
theorem Afv {N v:Nat} {a b u:Bool} {K:List UInt8→O R} (c:fit (2*(Af v).length+40) N):Ed N (B6 false (.of (Af v) a b)) u K=K (Hx v):=by
 have:=HX (R:=R) (n:=false) (s:=.of (Af v) a b) (u:=u) (K:=K) (Fa v a b) (by show fit (2*(Af v).length+40) N;exact c)
 rw[this,wh,show val (LS.of (Af v) a b).l=v from Ac v]
 unfold Ea K_
 rw[if_neg (by omega),Int.natAbs_natCast]
theorem Afw {d:RatD} {q:Rat} (h:d.can q):Ao d.neg d.ns=q.num:=by
 unfold Ao
 rw[h.1,h.2.1,Ac]
 by_cases b:q.num<0
 ·rw[decide_eq_true b,if_pos rfl];omega
 ·rw[decide_eq_false b,if_neg (by simp)];omega
theorem l0 {N:Nat} {x:RatD} {o:Bool} {K:List UInt8→O R} (i:x.ok) (c:fit (4*x.m+60) N):J9 N x.av o K=K (Bu x.q):=by
 have A:=c.1;have B:=c.2
 obtain⟨d,b,k⟩:=RP (R:=R) (N:=N) (o:=o) i (c.le (by omega))
 obtain⟨S,a1,a2,a3⟩:=F5 (R:=R) (N:=N) (v:=1) (by omega) (by omega)
 have n:=eK x i
 rw[←b.m] at n
 have s:d.ns.l.length≤d.m:=Nat.le_max_left _ _
 have t:d.ds.l.length≤d.m:=Nat.le_max_right _ _
 have e:=lZ x.q.num
 have f:=HW x.q.den
 rw[←b.2.1] at e
 rw[←b.2.2] at f
 rw[Yn];unfold Wq
 rw[Tk,ct,I0,k,show((Nat.beq (List.length d.av) 3)&&(true&&(!false)))=true by rfl,ct,show setCells x.av 0 d.av=d.av by rfl,bT,a3,A5 a1 a2]
 have u:([.bool false,.imm (Aa d.ds.l) d.ds.l.length 1 false (o||false)]:LA)=B6 false (.of (Af x.q.den) false (o||false)):=by rw[b.2.2];rfl
 rw[u,vO,nS (Fa _ _ _) (Fa _ _ _) (c.le (by
  have:(Af (1:Int).natAbs).length≤1:=Bp (by decide)
  show(Af x.q.den).length+(Af (1:Int).natAbs).length≤_
  rw[←b.2.2];omega)),wh,show val (LS.of (Af x.q.den) false (o||false)).l=x.q.den from Ac _]
 rw[show Ao (decide ((1:Int)<0)) (LS.of (Af (1:Int).natAbs) false true)=1 from Mz]
 have y:Nat.ble 2 (List.length d.av)=true:=rfl
 have z:List.take 2 d.av=B6 d.neg d.ns:=rfl
 have j:∀ K:List UInt8→O R,Ed N (B6 d.neg d.ns) (o||false) K=K (Ea x.q.num):=fun K=>by
  rw[HX b.ok.1 (c.le (by omega)),Afw b]
 rw[y,ct,z,j]
 unfold Bu
 by_cases h:x.q.den=1
 ·rw[if_pos h,h,show((kq ((1:Nat):Int) 1)==0)=true by decide,ct]
 ·have:kq (x.q.den:Int) 1≠0:=by
   have:=x.q.den_pos
   unfold kq;rw[if_neg (by omega),if_pos (by omega)];decide
  rw[if_neg h,show((kq ((x.q.den:Nat):Int) 1)==0)=false by simpa using this,cf,ct,j,Yp (by omega),ct,Afv (c.le (by rw[←b.2.2];omega)),Yp (by rw[List.length_append,List.length_singleton];omega),ct]
end
end Gx

namespace Gx
open Go Go.Proofs
open IntKind (wrap)
set_option maxRecDepth 100000
noncomputable section
variable {R:Type} (N:Nat)
def l4 (r0:LA→O R):O R :=
 (B5 N 10 (fun b=>(cond ((Nat.beq 0 0)&&((Nat.beq (b.length) 2)&&(Nat.beq 2 2))) (cond (Nat.ble 2 (b.length)) (r0 (b.take 2)) none) none)))
def KM:=(Ag (@l4 R)).1
theorem eY:@KM R=@l4 R:=(Ag _).2
def Acb:D8:=[(32,E2 N)]
def l5 (F:KF R):LA→O R:=(fun c=>F (.pagg c false) [])
theorem l6 (F:KF R):Cd (Acb N) Hl N 142 [] [] F=(KM N (l5 F)):=by
 rw[eY]
 kernel_rfl
def eZ (a:LA) (h:Ah) (k:KF R):O R :=
 match a,h with
 | [],[]=>(KM N (l5 k))
 | _,_=>none
theorem l7:An N 142 @eZ:=by
 intro R Q a h k j;unfold eZ;split;exact As (l6 ..) (l6 ..) ⟨E3 N,trivial⟩;exact Av
def l8:=At (l7 N)
def l9:=Cg (l7 N)
def z6 (N:Nat) (b:LA) (d:Bool) (c:LA) (e:Bool) (r0:LA→O R):O R :=
 (Bw .i64 b fun f=>(Bw .i64 c fun g=>(Bw .i64 (b.drop 1) fun i=>(Bw .i64 (c.drop 1) fun l=>(Bw .i64 (b.drop 2) fun m=>(Bw .i64 (c.drop 2) fun n=>(Bw .i64 (b.drop 3) fun o=>(Bw .i64 (c.drop 3) fun p=>(r0 [(.int .i64 (wrap .i64 (f+g))),(.int .i64 (wrap .i64 (i+l))),(.int .i64 (wrap .i64 (m+n))),(.int .i64 (wrap .i64 (o+p)))])))))))))
def bZ:=(Ag (@z6 R)).1
theorem l_:@bZ R=@z6 R:=(Ag _).2
def pp (F:KF R):LA→O R:=(fun q=>F (.pagg q false) [])
theorem pq (b:LA) (d:Bool) (c:LA) (e:Bool) (F:KF R):Cd [] Hl N 34 [(.pagg b d),(.pagg c e)] [] F=(bZ N b d c e (pp F)):=by
 rw[l_]
 kernel_rfl
def ld (a:LA) (h:Ah) (k:KF R):O R :=
 match a,h with
 | [(.pagg b d),(.pagg c e)],[]=>(bZ N b d c e (pp k))
 | _,_=>none
theorem pu:An N 34 @ld:=by
 intro R Q a h k j;unfold ld;split;exact As (pq ..) (pq ..) trivial;exact Av
def Acc:=At (pu N)
def Acd:=Cg (pu N)
def vg (N:Nat) (b:LA) (d:Bool) (c:LA) (e:Bool) (r0:LA→O R):O R :=
 (Bw .i64 b fun f=>(Bw .i64 c fun g=>(Bw .i64 (b.drop 1) fun i=>(Bw .i64 (c.drop 1) fun l=>(Bw .i64 (b.drop 2) fun m=>(Bw .i64 (c.drop 2) fun n=>(Bw .i64 (b.drop 3) fun o=>(Bw .i64 (c.drop 3) fun p=>(r0 [(.int .i64 (wrap .i64 (f+g))),(.int .i64 (wrap .i64 (i+l))),(.int .i64 (wrap .i64 (m+n))),(.int .i64 (wrap .i64 (o+p)))])))))))))
def KN:=(Ag (@vg R)).1
theorem e_:@KN R=@vg R:=(Ag _).2
def lf (F:KF R):LA→O R:=(fun q=>F (.pagg q false) [])
theorem lh (b:LA) (d:Bool) (c:LA) (e:Bool) (F:KF R):Cd [] Hl N 35 [(.pagg b d),(.pagg c e)] [] F=(KN N b d c e (lf F)):=by
 rw[e_]
 kernel_rfl
def ee (a:LA) (h:Ah) (k:KF R):O R :=
 match a,h with
 | [(.pagg b d),(.pagg c e)],[]=>(KN N b d c e (lf k))
 | _,_=>none
theorem li:An N 35 @ee:=by
 intro R Q a h k j;unfold ee;split;exact As (lh ..) (lh ..) trivial;exact Av
def y5:=At (li N)
def y6:=Cg (li N)
def z7 (N:Nat) (b:LA) (d:Bool) (c:LA) (e:Bool) (r0:LA→O R):O R :=
 (Bw .i64 b fun f=>(Bw .i64 c fun g=>(Bw .i64 (b.drop 1) fun i=>(Bw .i64 (c.drop 1) fun l=>(Bw .i64 (b.drop 2) fun m=>(Bw .i64 (c.drop 2) fun n=>(Bw .i64 (b.drop 3) fun o=>(Bw .i64 (c.drop 3) fun p=>(r0 [(.int .i64 (wrap .i64 (f - g))),(.int .i64 (wrap .i64 (i - l))),(.int .i64 (wrap .i64 (m - n))),(.int .i64 (wrap .i64 (o - p)))])))))))))
def b6:=(Ag (@z7 R)).1
theorem lj:@b6 R=@z7 R:=(Ag _).2
def pv (F:KF R):LA→O R:=(fun q=>F (.pagg q false) [])
theorem pw (b:LA) (d:Bool) (c:LA) (e:Bool) (F:KF R):Cd [] Hl N 36 [(.pagg b d),(.pagg c e)] [] F=(b6 N b d c e (pv F)):=by
 rw[lj]
 kernel_rfl
def lk (a:LA) (h:Ah) (k:KF R):O R :=
 match a,h with
 | [(.pagg b d),(.pagg c e)],[]=>(b6 N b d c e (pv k))
 | _,_=>none
theorem pz:An N 36 @lk:=by
 intro R Q a h k j;unfold lk;split;exact As (pw ..) (pw ..) trivial;exact Av
def Ace:=At (pz N)
def Acf:=Cg (pz N)
end
end Gx

namespace Gx
open Go Go.Proofs
section
variable {R:Type}
theorem vh:∀ (s:List UInt8) (b k:Nat),b<10 ^ k→s.length+k≤18→s.all Ay=true→Lib.parseUint10 b s=.ok (b*10 ^ s.length+Bx s)
 | [],b,_,_,_,_=>by simp[Lib.parseUint10,Bx]
 | c::r,b,k,m,l,e=>by
  simp only[List.all_cons,Bool.and_eq_true] at e
  have j:=e.1
  simp[Ay] at j
  simp only[List.length_cons] at l
  have d:10 ^ (k+1)≤10 ^ 18:=Nat.pow_le_pow_right (by omega) (by omega)
  rw[Nat.pow_succ] at d
  have f:b*10+(c.toNat - 48)<10 ^ k*10:=by omega
  have i:(10:Nat) ^ 18=1000000000000000000:=by decide
  rw[i] at d
  rw[Lib.parseUint10,if_pos j,if_neg (by omega),if_neg (by omega),vh r (b*10+(c.toNat - 48)) (k+1) (by rw[Nat.pow_succ];exact f) (by omega) e.2,Xg,List.length_cons,Nat.pow_succ,Nat.add_mul]
  congr 1
  rw[show b*10*10 ^ r.length=b*(10 ^ r.length*10) by rw[Nat.mul_assoc,Nat.mul_comm 10]]
  omega
theorem Acg {N:Nat} {s:List UInt8} {K:Int→O R} (b:s.all Ay=true) (d:s≠[]) (e:s.length≤18):Qr N s K=K (Bx s:Int):=by
 have f:=K3 b
 have i:10 ^ s.length≤10 ^ 18:=Nat.pow_le_pow_right (by omega) e
 have j:(10:Nat) ^ 18=1000000000000000000:=by decide
 have key:Lib.atoiAll s=.ok (Bx s:Int):=by
  cases s with
  | nil=>exact absurd rfl d
  | cons c r =>
   have k:Ay c=true:=by simp only[List.all_cons,Bool.and_eq_true] at b;exact b.1
   simp[Ay] at k
   rw[Lib.atoiAll_plain c r (by omega) (by omega),Lib.parseMag,if_neg d,vh (c::r) 0 0 (by decide) (by omega) b,Nat.zero_mul,Nat.zero_add,Lib.signless,if_neg (by omega)]
 rw[Jr];unfold Kn
 rw[Yp (by omega),ct,key]
theorem Afx (k:Nat):10 ^ k<4294967296 ^ (k+1):=Aeu k
theorem HY {v k:Nat} (h:v<10 ^ k):(Af v).length≤k+1:=Bp (Nat.lt_trans h (Afx k))
theorem ef {N:Nat} {c:Bool} {q:Nat} {S9:List Nat} {K:LA→O R} (X:Ad S9) (Y:val S9=10 ^ q) (hq:q=9):∀ (b j v:Nat) (g:List UInt8) (S:List Nat),g.length<b→g.all Ay=true→v<10 ^ j→(v=0∨g.length%9=0)→fit (j+g.length+20) N→Ad S→val S=v →
  Fu N K c false (Af (10 ^ q)).length (Aa S9) b g false (Af v).length (Aa S)=K (Bg (if c then -((v*10 ^ g.length+Bx g:Nat):Int) else ((v*10 ^ g.length+Bx g:Nat):Int))):=by
 intro b
 induction b with
 | zero=>intro j v g S h;omega
 | succ b ih =>
  intro j v g S hl y A k i hS hSv
  have f1:=i.1;have f2:=i.2
  have B:(Af (10 ^ q)).length≤1:=by rw[hq];exact Ait
  have hdv:=HY A
  rw[Fu];unfold Wg
  cases m:g with
  | nil =>
   rw[show(!(([]:List UInt8)==[]))=false by rfl,cf]
   rw[show v*10 ^ ([]:List UInt8).length+Bx []=v by simp[Bx]]
   cases c
   ·rw[cf,A5 hS hSv,if_neg (by simp)]
    congr 1
   ·rw[ct,A5 hS hSv,vO,Ab1 (Fa _ _ _) (i.le (by show(Af v).length≤_;omega)),wh,show val (LS.of (Af v) false true).l=v from Ac v,Int.natAbs_natCast,Aeo,if_pos rfl]
    congr 1
    unfold Bg
    rw[Int.natAbs_neg,Int.natAbs_natCast];rfl
  | cons d r =>
   rw[←m]
   have n:g≠[]:=by rw[m];simp
   have G:=List.length_pos_iff.2 n
   rw[show(!(g==[]))=true by simp[n],ct]
   have step:∀ o:Nat,1≤o→o≤9→o≤g.length→(g.length - o)%9=0→(v=0∨o=q)→M5 N (Fu N K c false (Af (10 ^ q)).length (Aa S9) b) K c false (Af (10 ^ q)).length (Aa S9) g (o:Int) false (Af v).length (Aa S)=K (Bg (if c then -((v*10 ^ g.length+Bx g:Nat):Int) else ((v*10 ^ g.length+Bx g:Nat):Int))):=by
    intro o o1 o9 ol om oz
    have I:(g.take o).all Ay=true:=by
     rw[List.all_eq_true] at y ⊢;exact fun x C=>y x (List.mem_of_mem_take C)
    have f:(g.take o).length=o:=by rw[List.length_take];omega
    have s:(g.drop o).length=g.length - o:=List.length_drop ..
    have t:=K3 I
    rw[f] at t
    have z:10 ^ o≤10 ^ q:=Nat.pow_le_pow_right (by omega) (by omega)
    have e9:10 ^ q=1000000000:=by rw[hq]
    obtain⟨S1,a1,a2,a3⟩:=Aet (R:=R) (N:=N) (s1:=.of (Af v) false true) (s2:=.of (Af (10 ^ q)) false true) (o1:=true) (o2:=true) (Fa _ _ _) (Fa _ _ _) (i.le (by have:=B;show(Af v).length+(Af (10 ^ q)).length≤_;omega))
    rw[show val (LS.of (Af v) false true).l=v from Ac v,show val (LS.of (Af (10 ^ q)) false true).l=10 ^ q from Ac _] at a2 a3
    obtain⟨S2,b1,L,M⟩:=F5 (R:=R) (N:=N) (v:=(Bx (g.take o):Int)) (by omega) (by omega)
    rw[Int.natAbs_natCast] at L M
    have hm:v*10 ^ q<10 ^ (j+q):=by rw[Nat.pow_add];exact Nat.mul_lt_mul_of_pos_right A (Nat.pow_pos (by omega))
    have hdm:=HY hm
    have hdx:(Af (Bx (g.take o))).length≤1:=Bp (by omega)
    obtain⟨S3,c1,T,U⟩:=Abu (R:=R) (N:=N) (n1:=false) (n2:=false) (s1:=.of (Af (v*10 ^ q)) false true) (s2:=.of (Af (Bx (g.take o))) false true) (o1:=true) (o2:=true) (Fa _ _ _) (Fa _ _ _) (i.le (by show(Af (v*10 ^ q)).length+(Af (Bx (g.take o))).length+1≤_;omega))
    rw[wh,wh,show val (LS.of (Af (v*10 ^ q)) false true).l=v*10 ^ q from Ac _,show val (LS.of (Af (Bx (g.take o))) false true).l=Bx (g.take o) from Ac _,Wa,Int.natAbs_natCast] at T U
    unfold M5
    rw[show((decide ((0:Int)≤(0:Int)))&&((decide (0≤(o:Int)))&&((decide ((o:Int)≤(((g.length):Nat):Int)))&&(decide ((((g.length):Nat):Int)≤(((g.length):Nat):Int))))))=true by simp;omega,ct,Int.toNat_natCast]
    rw[Acg I (by intro e;rw[e] at f;simp at f;omega) (by omega)]
    rw[A5 hS hSv,A5 X Y,vO,vO,a3,M,A5 a1 a2,A5 b1 L,vO,show decide (((Bx (g.take o):Nat):Int)<0)=false by simp,vO,U]
    rw[show decide (((v*10 ^ q+Bx (g.take o):Nat):Int)<0)=false by rw[decide_eq_false_iff_not];omega]
    rw[show((decide (0≤(o:Int)))&&((decide ((o:Int)≤(((g.length):Nat):Int)))&&((decide ((((g.length):Nat):Int)≤(((g.length):Nat):Int)))&&(decide ((((g.length):Nat):Int)≤(((g.length):Nat):Int))))))=true by simp;omega,ct]
    rw[List.take_of_length_le (l:=g.drop o) (by omega)]
    have D:v*10 ^ q+Bx (g.take o)<10 ^ (j+q):=by
     rcases oz with oz | oz
     ·subst oz;rw[Nat.zero_mul,Nat.zero_add]
      have:10 ^ q≤10 ^ (j+q):=Nat.pow_le_pow_right (by omega) (by omega)
      omega
     ·have:(v+1)*10 ^ q≤10 ^ j*10 ^ q:=Nat.mul_le_mul_right _ A
      rw[Nat.add_mul,Nat.one_mul] at this
      rw[Nat.pow_add];omega
    have F:v*10 ^ q+Bx (g.take o)<10 ^ (j+o):=by
     rcases oz with oz | oz
     ·subst oz;rw[Nat.zero_mul,Nat.zero_add]
      have:10 ^ o≤10 ^ (j+o):=Nat.pow_le_pow_right (by omega) (by omega)
      omega
     ·rw[show j+o=j+q by rw[oz]];exact D
    rw[ih (j+o) (v*10 ^ q+Bx (g.take o)) (g.drop o) S3 (by omega) (by rw[List.all_eq_true] at y ⊢;exact fun x C=>y x (List.mem_of_mem_drop C)) F (.inr (by rw[s];exact om)) (i.le (by omega)) c1 T]
    have e:(v*10 ^ q+Bx (g.take o))*10 ^ (g.drop o).length+Bx (g.drop o)=v*10 ^ g.length+Bx g:=by
     have V:=Pb (g.take o) (g.drop o)
     rw[List.take_append_drop] at V
     rw[V,Nat.add_mul,Nat.add_assoc]
     congr 1
     rcases oz with oz | oz
     ·subst oz;simp
     ·rw[Nat.mul_assoc,←Nat.pow_add,s];congr 2;omega
    rw[e]
   have u:Int.tmod ((g.length:Nat):Int) 9=((g.length%9:Nat):Int):=rfl
   rw[u]
   by_cases z:g.length%9=0
   ·rw[z,show((((0:Nat):Int))==0)=true by rfl,ct]
    exact step 9 (by omega) (by omega) (by omega) (by omega) (.inr hq.symm)
   ·rw[mU z,cf]
    exact step (g.length%9) (by omega) (by omega) (Nat.mod_le _ _) (by omega) (.inl (by rcases k with k | k;exact k;exact absurd k z))
def I9 (s:List UInt8):Int:=match s with
 | 45::r=>-((Bx r:Nat):Int)
 | s=>((Bx s:Nat):Int)
def Na (s:List UInt8):Bool:=match s with
 | 45::r=>r.all Ay
 | s=>s.all Ay
theorem eg {N:Nat} {s:List UInt8} {K:LA→O R} (d:Na s=true) (b:fit (s.length+30) N):Of N s K=K (Bg (I9 s)):=by
 have j:=b.1;have m:=b.2
 obtain⟨S0,a1,a2,a3⟩:=F5 (R:=R) (N:=N) (v:=0) (by omega) (by omega)
 obtain⟨S,e,f,i⟩:=pk (R:=R) (N:=N) (n:=9) (b.le (by omega))
 rw[OH];unfold AM
 by_cases h:s.head?=some 45
 ·obtain⟨r,rfl⟩:∃ r,s=45::r:=by
   cases s with
   | nil=>simp at h
   | cons c r=>simp at h;exact⟨r,by rw[h]⟩
  rw[Wi,a3]
  refine Eq.trans (i _) ?_
  have:=ef (R:=R) (N:=N) (c:=true) (K:=K) e f rfl N 0 0 r S0 (by rw[List.length_cons] at j;omega) d (by decide) (.inl rfl) (b.le (by rw[List.length_cons];omega)) a1 a2
  rw[Nat.zero_mul,Nat.zero_add] at this
  exact this
 ·have k:I9 s=((Bx s:Nat):Int):=by
   unfold I9
   split
   ·simp at h
   ·rfl
  have l:s.all Ay=true:=by
   rw[←d];unfold Na
   split
   ·simp at h
   ·rfl
  rw[Ts h,a3]
  refine Eq.trans (i _) ?_
  have:=ef (R:=R) (N:=N) (c:=false) (K:=K) e f rfl N 0 0 s S0 (by omega) l (by decide) (.inl rfl) (b.le (by omega)) a1 a2
  rw[Nat.zero_mul,Nat.zero_add] at this
  rw[k]
  exact this
theorem Yq {s:List UInt8} (h:Cj s=true):s.all Ay=true:=by
 simp only[Cj,KW,Bool.and_eq_true] at h;exact h.1.1
theorem Ka {s:List UInt8} (h:Yh s=true):Na s=true:=by
 by_cases b:s.head?=some 45
 ·obtain⟨r,rfl⟩:∃ r,s=45::r:=by
   cases s with
   | nil=>simp at b
   | cons c r=>simp at b;exact⟨r,by rw[b]⟩
  have h:(Cj r&&!(r==[48]))=true:=h
  simp only[Bool.and_eq_true] at h;exact Yq h.1
 ·have d:Yh s=Cj s:=by
   unfold Yh;split
   ·simp at b
   ·rfl
  have e:Na s=s.all Ay:=by
   unfold Na;split
   ·simp at b
   ·rfl
  rw[e];rw[d] at h;exact Yq h
theorem b7 {s:List UInt8} (h:s.all Ay=true):∀ c ∈ s,c.toNat<128:=by
 intro c b
 have:=List.all_eq_true.1 h c b
 simp[Ay] at this;omega
theorem lm {s:List UInt8} (h:Na s=true):∀ c ∈ s,c.toNat<128:=by
 unfold Na at h
 split at h
 ·intro c b
  rcases List.mem_cons.1 b with rfl | b
  ·decide
  ·exact b7 h c b
 ·exact b7 h
theorem Aex (u:Nat):Yh (Hx u)=true:=by
 have b:=Xh u
 unfold Yh
 split
 ·rename_i r c
  have:=Yq b
  rw[c] at this
  simp only[List.all_cons,Bool.and_eq_true] at this
  exact absurd this.1 (by decide)
 ·exact b
theorem y7 (u:Nat):I9 (Hx u)=(u:Int):=by
 unfold I9
 split
 ·rename_i r b
  have:=Yq (Xh u)
  rw[b] at this
  simp only[List.all_cons,Bool.and_eq_true] at this
  exact absurd this.1 (by decide)
 ·rw[D9]
theorem Gm (z:Int):Yh (Ea z)=true:=by
 unfold Ea K_
 by_cases h:z<0
 ·rw[if_pos h]
  show(Cj (Hx z.natAbs)&&!(Hx z.natAbs==[48]))=true
  rw[Xh,Bool.true_and]
  simp only[Bool.not_eq_true',beq_eq_false_iff_ne]
  intro e
  have:=congrArg Bx e
  rw[D9] at this
  have:z.natAbs=0:=this
  omega
 ·rw[if_neg h];exact Aex _
theorem eh (z:Int):I9 (Ea z)=z:=by
 unfold Ea K_
 by_cases h:z<0
 ·rw[if_pos h]
  show -((Bx (Hx z.natAbs):Nat):Int)=z
  rw[D9];omega
 ·rw[if_neg h,y7];omega
end
end Gx

namespace Gx
open Go Go.Proofs
section
variable {R:Type}
theorem AP (c b:UInt8) (l:List UInt8):Lib.index (b::l) [c]=if c=b then 0 else if Lib.index l [c]=-1 then -1 else Lib.index l [c]+1:=by
 rw[Lib.index]
 have f:([c].isPrefixOf (b::l)=true)↔c=b:=by simp[List.isPrefixOf]
 by_cases h:c=b
 ·rw[if_pos (f.2 h),if_pos h]
 ·rw[if_neg (fun e=>h (f.1 e)),if_neg h]
  by_cases d:Lib.index l [c]=-1
  ·rw[d];rfl
  ·rw[if_neg (by simpa using d),if_neg d]
theorem XH (c:UInt8):∀ s:List UInt8,c ∉ s→Lib.index s [c]=-1
 | [],_=>rfl
 | b::l,h=>by
  rw[AP,if_neg (fun e=>h (by simp[e])),XH c l (fun e=>h (by simp[e])),if_pos rfl]
theorem ln (c:UInt8) (b:List UInt8):∀ a:List UInt8,c ∉ a→Lib.index (a++c::b) [c]=(a.length:Int)
 | [],_=>by rw[List.nil_append,AP,if_pos rfl];rfl
 | d::l,h=>by
  have:=ln c b l (fun e=>h (by simp[e]))
  rw[List.cons_append,AP,if_neg (fun e=>h (by simp[e])),this,if_neg (by omega),List.length_cons];omega
theorem Aht {c:UInt8} {s:List UInt8} (h:c ∉ s):Lib.cut s [c]=(s,[],false):=by
 unfold Lib.cut;rw[XH c s h,if_neg (by omega)]
theorem Aey {c:UInt8} {a b:List UInt8} (h:c ∉ a):Lib.cut (a++c::b) [c]=(a,b,true):=by
 unfold Lib.cut;rw[ln c b a h,if_pos (by omega),Int.toNat_natCast]
 rw[List.take_left,List.length_singleton,←List.drop_drop,List.drop_left];rfl
theorem Ahu {N:Nat} {s t:List UInt8} {K:List UInt8→List UInt8→Bool→O R} (h:s.length≤4294967280):strings_Cut N s t K=K (Lib.cut s t).1 (Lib.cut s t).2.1 (Lib.cut s t).2.2:=by
 rw[K4];unfold Mj;rw[Yp h,ct]
theorem KO {c:UInt8} (h:Ay c=false) {s:List UInt8} (b:s.all Ay=true):c ∉ s:=by
 intro d;rw[List.all_eq_true.1 b c d] at h;cases h
theorem RV {c:UInt8} (h:Ay c=false) (f:c≠45) {s:List UInt8} (b:Na s=true):c ∉ s:=by
 unfold Na at b
 split at b
 ·intro d
  rcases List.mem_cons.1 d with e | d
  ·exact f e
  ·exact KO h b d
 ·exact KO h b
theorem qA {N:Nat} {s:List UInt8} {K:List UInt8→List UInt8→Bool→O R} (b:Yh s=true) (c:s.length<N):M2 N s K=K s [49] true:=by
 rw[Q4];unfold Ro
 rw[O1 c,b,ct]
theorem y8 {N:Nat} {a b:List UInt8} {K:List UInt8→List UInt8→Bool→O R} (d:Yh a=true) (i:Cj b=true) (j:(a++47::b).length≤4294967280) (k:(a++47::b).length<N):M2 N (a++47::b) K=K a b true:=by
 have l:Yh (a++47::b)=false:=by
  rw[←Bool.not_eq_true];intro e
  exact RV (c:=47) (by decide) (by decide) (Ka e) (by simp)
 have f:(a++47::b).length=a.length+(b.length+1):=by simp
 rw[Q4];unfold Ro
 rw[O1 k,l,cf,Ahu j,Aey (RV (by decide) (by decide) (Ka d))]
 dsimp only
 rw[ct,O1 (by omega),d,show(true==true)=true by rfl,ct,Q6 (by omega),i];rfl
theorem Ach {N:Nat} {e:Bool} {d c:List UInt8} {K:List UInt8→List UInt8→Bool→O R} (k:Cj d=true) (l:KW c=true) (F:d.length+c.length≤1000000000) (G:d.length+c.length+10<N):M2 N ((if e then [45] else [])++(d++46::c)) K=K ((if e then [45] else [])++(d++c)) (49::List.replicate c.length 48) true:=by
 have f:=Yq k
 have m:c.all Ay=true:=by simp only[KW,Bool.and_eq_true] at l;exact l.1
 have i:Ay 46=false:=by decide
 have u:Yh ((if e then [45] else [])++(d++46::c))=false:=by
  rw[←Bool.not_eq_true];intro v
  exact RV (c:=46) i (by decide) (Ka v) (by simp)
 have n:(47:UInt8) ∉ ((if e then [45] else [])++(d++46::c)):=by
  have z:=KO (c:=47) (by decide) f
  have A:=KO (c:=47) (by decide) m
  cases e<;>simp[z,A]
 have B:((if e then [45] else [])++(d++46::c):List UInt8).length≤d.length+c.length+2:=by cases e<;>simp<;>omega
 have q:d≠[]:=by intro h;subst h;simp[Cj,KW] at k
 have fin:L5 N K e d c ((if e then [45] else [])++(d++46::c))=K ((if e then [45] else [])++(d++c)) (49::List.replicate c.length 48) true:=by
  unfold L5
  rw[Yp (by omega),ct]
  cases e
  ·rw[cf,gN (by omega),Yp (by rw[List.length_replicate];omega),ct];rfl
  ·rw[ct,Yp (by rw[List.length_append];omega),ct,gN (by omega),Yp (by rw[List.length_replicate];omega),ct];rfl
 rw[Q4];unfold Ro
 rw[O1 (by omega),u,cf,Ahu (by omega),Aht n]
 dsimp only
 rw[cf]
 have go:∀ b:Bool,b=e→strings_Cut N (d++46::c) [46] (fun d' c' w=>I7 N d' fun r=>cond ((!r)==false) (Gu N c' fun s=>cond (cond false true (!s)) (K [] [] false) (L5 N K b d' c' ((if e then [45] else [])++(d++46::c)))) (K [] [] false))=K ((if e then [45] else [])++(d++c)) (49::List.replicate c.length 48) true:=by
  intro b C
  subst C
  have t:(d++46::c).length=d.length+(c.length+1):=by simp
  rw[Ahu (by omega),Aey (KO i f)]
  dsimp only
  rw[Q6 (by omega),k,show((!true)==false)=true by rfl,ct,OJ (by omega),l,show(cond false true (!true))=false by rfl,cf,fin]
 cases e
 ·have D:((if false=true then [45] else [])++(d++46::c):List UInt8).head?≠some 45:=by
   cases j:d with
   | nil=>exact absurd j q
   | cons x y =>
    rw[j] at f
    simp only[List.all_cons,Bool.and_eq_true] at f
    intro h
    simp at h
    rw[h] at f
    exact absurd f.1 (by decide)
  rw[Ts D]
  exact go false rfl
 ·exact(Wi (b:=d++46::c) (c:=45)).trans (go true rfl)
theorem Aez {N:Nat} {a:Int} {b:Nat} (n:0<b) (c:fit (4*((Af a.natAbs).length+(Af b).length)+10) N):∃ d:RatD,d.can (mkRat a b)∧∀ K:LA→Bool→O R,a_ N (Bg a) false (Bg (b:Int)) false K=K d.av true:=by
 let x:RatD:=⟨decide (a<0),.of (Af a.natAbs) false false,.of (Af b) false false⟩
 have f:x.ok:=⟨Ab _,Ab _⟩
 have hq:x.q=mkRat a b:=by
  show mkRat (Ao (decide (a<0)) (.of (Af a.natAbs) false false)) (val (Af b))=_
  rw[Mz,Ac]
 have s:x.m≤(Af a.natAbs).length+(Af b).length:=Nat.max_le.2 ⟨by show(Af a.natAbs).length≤_;omega,by show(Af b).length≤_;omega⟩
 obtain⟨d,e,i⟩:=RP (R:=R) (N:=N) (x:=x) (o:=(false||(false||false))) f (c.le (by omega))
 rw[hq] at e
 refine⟨d,e,fun K=>?_⟩
 rw[RH];unfold gJ
 rw[Ai3,Aip,Ahl,ct,Ai3,Aip,Ahl,ct]
 have j:([(.bool (decide ((b:Int)<0))),(.imm (Aa (Af (b:Int).natAbs)) (Af (b:Int).natAbs).length 1 false false)]:LA)=Bg (b:Int):=rfl
 rw[j,ve (c.le (by omega))]
 have k:((b:Int).sign==0)=false:=by
  rw[beq_eq_false_iff_ne];intro h;have:=Int.sign_eq_zero_iff_zero.1 h;omega
 rw[k,cf]
 have l:([(.bool (!(decide (a<0)==decide ((b:Int)<0)))),(.imm (Aa (Af a.natAbs)) (Af a.natAbs).length 1 false false),(.imm (Aa (Af (b:Int).natAbs)) (Af (b:Int).natAbs).length 1 false false)]:LA)=x.av:=by
  rw[show decide ((b:Int)<0)=false by rw[decide_eq_false_iff_not];omega,Int.natAbs_natCast,show(!(decide (a<0)==false))=decide (a<0) by cases decide (a<0)<;>rfl];rfl
 rw[l,i];rfl
theorem AQ {N:Nat} {s n d:List UInt8} (l:∀ K:List UInt8→List UInt8→Bool→O R,M2 N s K=K n d true) (q:Na n=true) (m:d.all Ay=true) (f:0<Bx d) (y:∀ c ∈ s,c.toNat<128) (i:fit (8*(s.length+n.length+d.length)+60) N) :
  ∃ x:RatD,x.can (mkRat (I9 n) (Bx d))∧∀ K:LA→Int→O R,Ep N s K=if 4096<Wj s then K [(.bool false),.nsl,.nsl] 8 else K x.av 0:=by
 have A:=i.1;have B:=i.2
 have e:∀ t:List UInt8,Na t=true→(Af (I9 t).natAbs).length≤t.length+1:=by
  intro t k
  unfold Na at k
  unfold I9
  split at k
  ·have:=HY (K3 k)
   rw[Int.natAbs_neg,Int.natAbs_natCast,List.length_cons];omega
  ·have:=HY (K3 k)
   rw[Int.natAbs_natCast];omega
 have j:d.head?≠some 45:=by
  cases d with
  | nil=>simp
  | cons c r =>
   intro h
   simp at h;subst h
   simp only[List.all_cons,Bool.and_eq_true] at m
   exact absurd m.1 (by decide)
 have u:I9 d=((Bx d:Nat):Int):=by
  unfold I9;split
  ·simp at j
  ·rfl
 have v:Na d=true:=by
  unfold Na;split
  ·simp at j
  ·exact m
 have C:=e n q
 have z:=e d v
 rw[u,Int.natAbs_natCast] at z
 obtain⟨x,x1,x2⟩:=Aez (R:=R) (N:=N) (a:=I9 n) (b:=Bx d) f (i.le (by omega))
 refine⟨x,x1,fun K=>?_⟩
 rw[CO];unfold AN
 rw[l,show(!true)=false by rfl,cf,ry y (by omega) (by omega)]
 by_cases h:4096<Wj s
 ·rw[decide_eq_true h,ct,if_pos h]
 ·rw[decide_eq_false h,cf,eg q (i.le (by omega)),eg v (i.le (by omega)),u,x2,if_neg h];rfl
end
end Gx

namespace Gx
open Go Go.Proofs
section
variable {R:Type}
theorem Ajt (v:Nat) (a b:Bool):val (LS.of (Af v) a b).l=v:=Ac v
theorem Aj7 (v:Nat) (a b:Bool):(LS.of (Af v) a b).l.length=(Af v).length:=rfl
end
end Gx

namespace Gx
open Go Go.Proofs
section
variable {R:Type}
theorem z8 {N:Nat} (p:Nat) (b:p≤9223372036854775807) (hN:4≤N):∃ S,Ad S∧val S=p∧∀ K:Bool→Nat→LA→O R,B3 N (p:Int) K=K false (Af p).length (Aa S):=by
 obtain⟨S,a1,a2,a3⟩:=F5 (R:=R) (N:=N) (v:=(p:Int)) (by omega) hN
 rw[Int.natAbs_natCast] at a2 a3
 exact⟨S,a1,a2,fun K=>by rw[a3,decide_eq_false (by omega)]⟩
end
end Gx

namespace Gx
open Go Go.Proofs
section
variable {R:Type}
theorem Aiv (x:RatD):((Nat.beq 0 0)&&((Nat.beq (List.length x.av) 3)&&(Nat.beq 3 3)))=true:=rfl
theorem sF {b:Nat} {z:Int} (c:b≠0) (d:z.natAbs<4294967296) (h:b<4294967296):qm (mkRat z b)≤1:=Ago z b 1 (by omega) (by omega) c
theorem Aiw {N:Nat} {d:RatD} {p:Rat} {w:Int} {o o':Bool} {K:Bool→O R} (h:d.can p):Oc N (B6 d.neg d.ns) o (Bg w) o' K=Oc N (Bg p.num) o (Bg w) o' K:=by
 rw[We];unfold AA
 simp only[Gn,Gc,Aiq,h.1,h.2.1]
 rfl
theorem XI {N:Nat} {d:RatD} {p q:Rat} {o o':Bool} {K:Bool→O R} (h:d.can p) (b:fit (qm p) N):Di N d.av o (cq q) o' K=K (decide (p=q)):=by
 have hq:=Ahp (R:=R) (N:=N) (p:=p) (q:=q) (o:=o) (o':=o') (K:=K) b
 rw[←hq,Wf];unfold AB
 rw[show Nat.ble 2 (List.length d.av)=true by rfl,ct,WO,ct,WO,ct,show List.take 2 d.av=B6 d.neg d.ns by rfl,AK,AK,Aiw h,bT,Ai4,Ai4,h.2.2]
 rfl
end
end Gx

namespace Gx
open Go Go.Proofs
open IntKind (wrap)
set_option maxRecDepth 100000
noncomputable section
variable {R:Type} (N:Nat)
def vj (N:Nat) (b:LA) (d:Bool) (c:LA) (e:Bool) (r0:LA→O R):O R :=
 (Bw .i64 b fun f=>(Bw .i64 c fun g=>(Bw .i64 (b.drop 1) fun i=>(Bw .i64 (c.drop 1) fun l=>(Bw .i64 (b.drop 2) fun m=>(Bw .i64 (c.drop 2) fun n=>(Bw .i64 (b.drop 3) fun o=>(Bw .i64 (c.drop 3) fun p=>(r0 [(.int .i64 (wrap .i64 (f - g))),(.int .i64 (wrap .i64 (i - l))),(.int .i64 (wrap .i64 (m - n))),(.int .i64 (wrap .i64 (o - p)))])))))))))
def KP:=(Ag (@vj R)).1
theorem ek:@KP R=@vj R:=(Ag _).2
def lp (F:KF R):LA→O R:=(fun q=>F (.pagg q false) [])
theorem lt (b:LA) (d:Bool) (c:LA) (e:Bool) (F:KF R):Cd [] Hl N 37 [(.pagg b d),(.pagg c e)] [] F=(KP N b d c e (lp F)):=by
 rw[ek]
 kernel_rfl
def en (a:LA) (h:Ah) (k:KF R):O R :=
 match a,h with
 | [(.pagg b d),(.pagg c e)],[]=>(KP N b d c e (lp k))
 | _,_=>none
theorem lu:An N 37 @en:=by
 intro R Q a h k j;unfold en;split;exact As (lt ..) (lt ..) trivial;exact Av
def y9:=At (lu N)
def y_:=Cg (lu N)
def Kw (N:Nat) (k0:List UInt8→Int→O R) (r0:List UInt8→O R) (c:LA) (b:Nat) (d e:Bool) (l:List UInt8) (i:Int):O R :=
 (cond (Aj i b) (Bw .u8 (c.drop ((i.toNat)*1)) fun m=>(cond (Aj i b) (Bw .u8 (c.drop ((i.toNat)*1)) fun o=>(cond ((decide (0≤(Int.tmod m 2)))&&((decide ((Int.tmod m 2)≤(wrap .u8 ((Int.tmod o 2)+1))))&&((decide ((wrap .u8 ((Int.tmod o 2)+1))≤2))&&(decide ((2:Int)≤(2:Int)))))) (cond (Aj (wrap .i64 (i+1)) b) (Bw .u8 (c.drop (((wrap .i64 (i+1)).toNat)*1)) fun q=>(cond (Aj (Int.tmod (wrap .i64 q) 12) 12) (Ag3 (List.drop (0+(((Int.tmod (wrap .i64 q) 12).toNat)*1)) [(.str ([77,87]:List UInt8)),(.str ([104]:List UInt8)),(.str ([69,85,82]:List UInt8)),(.str ([71,87,104]:List UInt8)),(.str ([37]:List UInt8)),(.str ([109,105,110]:List UInt8)),(.str ([107,87]:List UInt8)),(.str ([112,117]:List UInt8)),(.str ([99,116]:List UInt8)),(.str ([109,114,97,100]:List UInt8)),(.str ([100]:List UInt8)),(.str ([107,69,85,82]:List UInt8))]) fun p=>(cond (Nat.ble ((List.length (List.take (((wrap .u8 ((Int.tmod o 2)+1)).toNat) - ((Int.tmod m 2).toNat)) (List.drop ((Int.tmod m 2).toNat) ([42,47]:List UInt8))))+(p.length)) 140737488355328) (cond (Nat.ble ((l.length)+(List.length ((List.take (((wrap .u8 ((Int.tmod o 2)+1)).toNat) - ((Int.tmod m 2).toNat)) (List.drop ((Int.tmod m 2).toNat) ([42,47]:List UInt8)))++p))) 140737488355328) (k0 (l++((List.take (((wrap .u8 ((Int.tmod o 2)+1)).toNat) - ((Int.tmod m 2).toNat)) (List.drop ((Int.tmod m 2).toNat) ([42,47]:List UInt8)))++p)) (wrap .i64 (i+2))) none) none)) none)) none) none)) none)) none)
def Ja (N:Nat) (r0:List UInt8→O R) (c:LA) (b:Nat) (d e:Bool) (k0:List UInt8→Int→O R) (q1:List UInt8→Int→O R) (f:List UInt8) (g:Int):O R :=
 (cond ((decide ((wrap .i64 (g+1))<((b:Nat):Int)))==true) (cond (cond true (decide (g<12)) false) (q1 f g) (r0 f)) (r0 f))
def Dn (r0:List UInt8→O R) (c:LA) (b:Nat) (d e:Bool):Nat→List UInt8→Int→O R
 | 0,_,_=>none
 | n+1,f,g=>(Ja N r0 c b d e (Dn r0 c b d e n) (fun l i=>(Kw N (Dn r0 c b d e n) r0 c b d e l i)) f g)
def Vu (N:Nat) (r0:List UInt8→O R) (q0:List UInt8→Int→O R) (c:LA) (b:Nat) (d e:Bool):O R :=
 (q0 ([77,87,104]:List UInt8) 0)
def Oh:=(Ag (fun (N:Nat) (c:LA) (b:Nat) (d e:Bool) (r0:List UInt8→O R)=>(Vu N r0 (fun f g=>(Dn N r0 c b d e N f g)) c b d e))).1
theorem HZ (c b d e r0):(@Oh R N c b d e r0)=(Vu N r0 (fun f g=>(Dn N r0 c b d e N f g)) c b d e):=by rw[Oh,(Ag _).2]
def ON:Hints:={ H:=(hS hL (hS hL (hS hL (hS (hS hL (hS (hP [0,3,4,5] (hJ [0,3,4,5] hL hL)) hL)) hL)))) }
def OO (F:KF R):=Ov Tryz.f38 ON [] [] N F
def F7 (F:KF R):List UInt8→O R:=(fun r=>F (.str r) [])
def n9 (c:LA) (b:Nat) (d e:Bool) (l:List UInt8) (i:Int):St:=⟨[(0,(.imm c b 1 d e)),(3,(.own 300000 0 12)),(4,(.str l)),(5,(iv i))],(hq [(bQ 1 [(.str ([77,87]:List UInt8)),(.str ([104]:List UInt8)),(.str ([69,85,82]:List UInt8)),(.str ([71,87,104]:List UInt8)),(.str ([37]:List UInt8)),(.str ([109,105,110]:List UInt8)),(.str ([107,87]:List UInt8)),(.str ([112,117]:List UInt8)),(.str ([99,116]:List UInt8)),(.str ([109,114,97,100]:List UInt8)),(.str ([100]:List UInt8)),(.str ([107,69,85,82]:List UInt8))])])⟩
def n_ (F:KF R) (Q0:St→O R):=OO N F [1,1,1,0,1,0,0,1] [Q0]
def OP (c:LA) (b:Nat) (d e:Bool) (f:List UInt8) (g:Int):St:=⟨[(0,(.imm c b 1 d e)),(3,(.own 300000 0 12)),(4,(.str f)),(5,(iv g))],(hq [(bQ 1 [(.str ([77,87]:List UInt8)),(.str ([104]:List UInt8)),(.str ([69,85,82]:List UInt8)),(.str ([71,87,104]:List UInt8)),(.str ([37]:List UInt8)),(.str ([109,105,110]:List UInt8)),(.str ([107,87]:List UInt8)),(.str ([112,117]:List UInt8)),(.str ([99,116]:List UInt8)),(.str ([109,114,97,100]:List UInt8)),(.str ([100]:List UInt8)),(.str ([107,69,85,82]:List UInt8))])])⟩
def OQ (F:KF R):=OO N F [1,1,1,0,1,0] []
theorem b8 (Q0:St→O R) (F:KF R) (c:LA) (b:Nat) (d e:Bool):∀ (l:List UInt8) (i:Int),Cm (n_ N F Q0) (n9 c b d e l i)=(Kw N (fun f g=>Q0 (OP c b d e f g)) (F7 F) c b d e l i):=by
 intro l i
 kernel_rfl
theorem Yr (F:KF R) (c:LA) (b:Nat) (d e:Bool):∀ (n:Nat) (f:List UInt8) (g:Int),Au (OQ N F) n (OP c b d e f g)=(Dn N (F7 F) c b d e n f g)
 | 0,_,_=>by kernel_rfl
 | n+1,f,g=>have e0:=(funext fun f=>funext fun g=>(Yr F c b d e n f g))
  Eq.trans (by kernel_rfl) (uB (Ja N (F7 F) c b d e · · f g) e0 (funext fun l=>funext fun i=>(A2 ..).trans ((b8 N (Au (OQ N F) n) F c b d e l i).trans (Da (Kw N · (F7 F) c b d e l i) e0))):_)
theorem OR (c:LA) (b:Nat) (d e:Bool) (F:KF R):Cd [] ON N 38 [(.imm c b 1 d e)] [] F=(Oh N c b d e (F7 F)):=by
 rw[HZ]
 exact Eq.trans (by kernel_rfl) (Da (Vu N (F7 F) · c b d e) (funext fun f=>funext fun g=>(Ap ..).trans (Yr N F c b d e N f g)):_)
def H_ (a:LA) (h:Ah) (k:KF R):O R :=
 match a,h with
 | [(.imm c b 1 d e)],[]=>(Oh N c b d e (F7 k))
 | _,_=>none
theorem OS:An N 38 @H_:=by
 intro R Q a h k j;unfold H_;split;exact As (OR ..) (OR ..) trivial;exact Av
def na:=At (OS N)
def nc:=Cg (OS N)
def Vv (N:Nat) (k0:Nat→Int→Bool→Bool→Int→LA→O R) (r0:Nat→Int→LA→O R) (b:List UInt8) (c:Int) (y:Nat) (z:Bool) (aa:LA):O R :=
 (cond ((decide (c<(((b.length):Nat):Int)))==true) (cond (Aj c (b.length)) (k0 y (wrap .i64 (c+1)) (cond true (((UInt8.toNat (List.getD b (c.toNat) 0):Nat):Int)==47) false) z (wrap .i64 (c+1)) aa) none) (k0 y (wrap .i64 (c+1)) false z (wrap .i64 (c+1)) aa))
def AR (N:Nat) (k0:Nat→Int→Bool→Bool→Int→LA→O R) (r0:Nat→Int→LA→O R) (b:List UInt8) (c:Int) (q3:Nat→Bool→LA→O R) (m:Nat) (t:Int) (w x:Bool) (u:LA):O R :=
 (cond (c==t) (r0 0 2 []) (cond (decide (((m:Nat):Int)<8)) (cond ((decide (0≤t))&&((decide (t≤c))&&((decide (c≤(((b.length):Nat):Int)))&&(decide ((((b.length):Nat):Int)≤(((b.length):Nat):Int)))))) (cond ((Nat.ble (m+1) 140737488355328)&&(Nat.ble ((m+1)*24) 140737488355328)) (q3 (m+1) x ((u.take (m*2))++[(.str (List.take ((c.toNat) - (t.toNat)) (List.drop (t.toNat) b))),(.bool w)])) none) none) (q3 m true u)))
def Ps (k0:Nat→Int→Bool→Bool→Int→LA→O R) (r0:Nat→Int→LA→O R) (b:List UInt8) (c:Int) (m:Nat) (t:Int) (w x:Bool) (u:LA):O R:=(AR N k0 r0 b c (fun y z aa=>(Vv N k0 r0 b c y z aa)) m t w x u)
def AS (N:Nat) (k0:Nat→Int→Bool→Bool→Int→LA→O R) (r0:Nat→Int→LA→O R) (b:List UInt8) (q2:Nat→Int→Bool→Bool→LA→O R) (o:Nat) (p:Int) (q r:Bool) (c:Int) (v:Bool) (s:LA):O R :=
 (cond v (cond (Aj c (b.length)) (cond ((((UInt8.toNat (List.getD b (c.toNat) 0):Nat):Int) != 37)==true) (cond ((decide (((UInt8.toNat (List.getD b (c.toNat) 0):Nat):Int)<97))==false) (cond ((cond true (cond false true (decide (((UInt8.toNat (List.getD b (c.toNat) 0):Nat):Int)>122))) false)==true) (cond ((decide (((UInt8.toNat (List.getD b (c.toNat) 0):Nat):Int)<65))==false) (cond (cond true (cond false true (decide (((UInt8.toNat (List.getD b (c.toNat) 0):Nat):Int)>90))) false) (r0 0 2 []) (k0 o p q r (wrap .i64 (c+1)) s)) (r0 0 2 [])) (k0 o p q r (wrap .i64 (c+1)) s)) (cond ((decide (((UInt8.toNat (List.getD b (c.toNat) 0):Nat):Int)<65))==false) (cond (cond true (cond false true (decide (((UInt8.toNat (List.getD b (c.toNat) 0):Nat):Int)>90))) false) (r0 0 2 []) (k0 o p q r (wrap .i64 (c+1)) s)) (r0 0 2 []))) (k0 o p q r (wrap .i64 (c+1)) s)) none) (q2 o p q r s))
def Pt (k0:Nat→Int→Bool→Bool→Int→LA→O R) (r0:Nat→Int→LA→O R) (b:List UInt8) (o:Nat) (p:Int) (q r:Bool) (c:Int) (v:Bool) (s:LA):O R:=(AS N k0 r0 b (fun m t w x u=>(Ps N k0 r0 b c m t w x u)) o p q r c v s)
def Nb (N:Nat) (r0:Nat→Int→LA→O R) (b:List UInt8) (k0:Nat→Int→Bool→Bool→Int→LA→O R) (q1:Nat→Int→Bool→Bool→Int→Bool→LA→O R) (e:Nat) (i:Int) (l f:Bool) (d:Int) (g:LA):O R :=
 (cond (decide (d≤(((b.length):Nat):Int))) (cond ((decide (d<(((b.length):Nat):Int)))==true) (cond (Aj d (b.length)) (cond ((cond true (((UInt8.toNat (List.getD b (d.toNat) 0):Nat):Int) != 42) false)==true) (cond (Aj d (b.length)) (q1 e i l f d (cond true (((UInt8.toNat (List.getD b (d.toNat) 0):Nat):Int) != 47) false) g) none) (q1 e i l f d false g)) none) (q1 e i l f d false g)) (cond f (r0 0 8 []) (r0 e 0 g)))
def A9 (r0:Nat→Int→LA→O R) (b:List UInt8):Nat→Nat→Int→Bool→Bool→Int→LA→O R
 | 0,_,_,_,_,_,_=>none
 | n+1,e,i,l,f,d,g=>(Nb N r0 b (A9 r0 b n) (fun o p q r c v s=>(Pt N (A9 r0 b n) r0 b o p q r c v s)) e i l f d g)
def KQ (N:Nat) (r0:Nat→Int→LA→O R) (q0:Nat→Int→Bool→Bool→Int→LA→O R) (b:List UInt8):O R :=
 (q0 0 0 false false 0 [])
def Ys:=(Ag (fun (N:Nat) (b:List UInt8) (r0:Nat→Int→LA→O R)=>(KQ N r0 (fun e i l f d g=>(A9 N r0 b N e i l f d g)) b))).1
theorem XJ (b r0):(@Ys R N b r0)=(KQ N r0 (fun e i l f d g=>(A9 N r0 b N e i l f d g)) b):=by rw[Ys,(Ag _).2]
def eo:Hints:={ H:=(hS hL (hS hL (hS hL (hS (hS hL (hS (hP [0,4,5,6,7,8] (hS hL (hS (hS (hJ [0,4,5,6,7,8] (hJ [0,4,5,6,7,8,31] hL hL) (hS hL (hJ [0,4,7,8] hL hL))) hL) hL))) hL)) hL)))),nils:=[(2,2),(4,2)],modes:=[(2,2),(0,0)] }
def Vw (F:KF R):=Ov Tryz.f90 eo [] [] N F
def Dr (F:KF R):Nat→Int→LA→O R:=(fun ab ac ad=>F (.tup [(.own 300000 0 ab),(iv ac)]) (hq [(bQ 2 ad)]))
def vq (b:List UInt8) (c:Int) (y:Nat) (z:Bool) (aa:LA):St:=⟨[(0,(.str b)),(4,(.own 300000 0 y)),(7,(.bool z)),(8,(iv c))],(hq [(bQ 2 aa)])⟩
def vr (F:KF R) (Q0:St→O R):=Vw N F [1,1,1,0,1,0,0,1,0,0,1,1,1] [Q0]
def vt (b:List UInt8) (c:Int) (m:Nat) (t:Int) (w x:Bool) (u:LA):St:=⟨[(0,(.str b)),(4,(.own 300000 0 m)),(5,(iv t)),(6,(.bool w)),(7,(.bool x)),(8,(iv c))],(hq [(bQ 2 u)])⟩
def vu (F:KF R) (Q0:St→O R):=Vw N F [1,1,1,0,1,0,0,1,0,0,1] [Q0]
def vw (b:List UInt8) (o:Nat) (p:Int) (q r:Bool) (c:Int) (v:Bool) (s:LA):St:=⟨[(0,(.str b)),(4,(.own 300000 0 o)),(5,(iv p)),(6,(.bool q)),(7,(.bool r)),(8,(iv c)),(31,(.bool v))],(hq [(bQ 2 s)])⟩
def vz (F:KF R) (Q0:St→O R):=Vw N F [1,1,1,0,1,0,0,1,0,0,0,1] [Q0]
def L6 (b:List UInt8) (e:Nat) (i:Int) (l f:Bool) (d:Int) (g:LA):St:=⟨[(0,(.str b)),(4,(.own 300000 0 e)),(5,(iv i)),(6,(.bool l)),(7,(.bool f)),(8,(iv d))],(hq [(bQ 2 g)])⟩
def ep (F:KF R):=Vw N F [1,1,1,0,1,0] []
theorem lv (Q0:St→O R) (F:KF R) (b:List UInt8) (c:Int):∀ (y:Nat) (z:Bool) (aa:LA),Cm (vr N F Q0) (vq b c y z aa)=(Vv N (fun e i l f d g=>Q0 (L6 b e i l f d g)) (Dr F) b c y z aa):=by
 intro y z aa
 kernel_rfl
theorem lw (Q0:St→O R) (F:KF R) (b:List UInt8) (c:Int):∀ (m:Nat) (t:Int) (w x:Bool) (u:LA),Cm (vu N F Q0) (vt b c m t w x u)=(Ps N (fun e i l f d g=>Q0 (L6 b e i l f d g)) (Dr F) b c m t w x u):=by
 intro m t w x u
 exact Eq.trans (by kernel_rfl) (Da (AR N (fun e i l f d g=>Q0 (L6 b e i l f d g)) (Dr F) b c · m t w x u) (funext fun y=>funext fun z=>funext fun aa=>(A2 ..).trans (lv N Q0 F b c y z aa)):_)
theorem mA (Q0:St→O R) (F:KF R) (b:List UInt8):∀ (o:Nat) (p:Int) (q r:Bool) (c:Int) (v:Bool) (s:LA),Cm (vz N F Q0) (vw b o p q r c v s)=(Pt N (fun e i l f d g=>Q0 (L6 b e i l f d g)) (Dr F) b o p q r c v s):=by
 intro o p q r c v s
 exact Eq.trans (by kernel_rfl) (Da (AS N (fun e i l f d g=>Q0 (L6 b e i l f d g)) (Dr F) b · o p q r c v s) (funext fun m=>funext fun t=>funext fun w=>funext fun x=>funext fun u=>(A2 ..).trans (lw N Q0 F b c m t w x u)):_)
theorem H' (F:KF R) (b:List UInt8):∀ (n e:Nat) (i:Int) (l f:Bool) (d:Int) (g:LA),Au (ep N F) n (L6 b e i l f d g)=(A9 N (Dr F) b n e i l f d g)
 | 0,_,_,_,_,_,_=>by kernel_rfl
 | n+1,e,i,l,f,d,g=>have e0:=(funext fun e=>funext fun i=>funext fun l=>funext fun f=>funext fun d=>funext fun g=>(H' F b n e i l f d g))
  Eq.trans (by kernel_rfl) (uB (Nb N (Dr F) b · · e i l f d g) e0 (funext fun o=>funext fun p=>funext fun q=>funext fun r=>funext fun c=>funext fun v=>funext fun s=>(A2 ..).trans ((mA N (Au (ep N F) n) F b o p q r c v s).trans (Da (Pt N · (Dr F) b o p q r c v s) e0))):_)
theorem er (b:List UInt8) (F:KF R):Cd [] eo N 90 [(.str b)] [] F=(Ys N b (Dr F)):=by
 rw[XJ]
 exact Eq.trans (by kernel_rfl) (Da (KQ N (Dr F) · b) (funext fun e=>funext fun i=>funext fun l=>funext fun f=>funext fun d=>funext fun g=>(Ap ..).trans (H' N F b N e i l f d g)):_)
def XK (a:LA) (h:Ah) (k:KF R):O R :=
 match a,h with
 | [(.str b)],[]=>(Ys N b (Dr k))
 | _,_=>none
theorem ew:An N 90 @XK:=by
 intro R Q a h k j;unfold XK;split;exact As (er ..) (er ..) trivial;exact Av
def wB:=At (ew N)
def wC:=Cg (ew N)
def RW (N:Nat) (b:List UInt8) (r0:LA→LA→Bool→O R):O R :=
 (cond (b==([107,87]:List UInt8)) (r0 [(.int .i64 1),(.int .i64 1000)] [(.int .i64 1),(.int .i64 0),(.int .i64 0),(.int .i64 0)] true) (cond (b==([77,87]:List UInt8)) (r0 [(.int .i64 1),(.int .i64 1)] [(.int .i64 1),(.int .i64 0),(.int .i64 0),(.int .i64 0)] true) (cond (b==([71,87]:List UInt8)) (r0 [(.int .i64 1000),(.int .i64 1)] [(.int .i64 1),(.int .i64 0),(.int .i64 0),(.int .i64 0)] true) (cond (b==([109,105,110]:List UInt8)) (r0 [(.int .i64 1),(.int .i64 60)] [(.int .i64 0),(.int .i64 1),(.int .i64 0),(.int .i64 0)] true) (cond (b==([104]:List UInt8)) (r0 [(.int .i64 1),(.int .i64 1)] [(.int .i64 0),(.int .i64 1),(.int .i64 0),(.int .i64 0)] true) (cond (b==([100]:List UInt8)) (r0 [(.int .i64 24),(.int .i64 1)] [(.int .i64 0),(.int .i64 1),(.int .i64 0),(.int .i64 0)] true) (cond (b==([107,87,104]:List UInt8)) (r0 [(.int .i64 1),(.int .i64 1000)] [(.int .i64 1),(.int .i64 1),(.int .i64 0),(.int .i64 0)] true) (cond (b==([77,87,104]:List UInt8)) (r0 [(.int .i64 1),(.int .i64 1)] [(.int .i64 1),(.int .i64 1),(.int .i64 0),(.int .i64 0)] true) (cond (b==([71,87,104]:List UInt8)) (r0 [(.int .i64 1000),(.int .i64 1)] [(.int .i64 1),(.int .i64 1),(.int .i64 0),(.int .i64 0)] true) (cond (b==([99,116]:List UInt8)) (r0 [(.int .i64 1),(.int .i64 100)] [(.int .i64 0),(.int .i64 0),(.int .i64 1),(.int .i64 0)] true) (cond (b==([69,85,82]:List UInt8)) (r0 [(.int .i64 1),(.int .i64 1)] [(.int .i64 0),(.int .i64 0),(.int .i64 1),(.int .i64 0)] true) (cond (b==([107,69,85,82]:List UInt8)) (r0 [(.int .i64 1000),(.int .i64 1)] [(.int .i64 0),(.int .i64 0),(.int .i64 1),(.int .i64 0)] true) (cond (b==([109,114,97,100]:List UInt8)) (r0 [(.int .i64 1),(.int .i64 1000)] [(.int .i64 0),(.int .i64 0),(.int .i64 0),(.int .i64 1)] true) (cond (b==([114,97,100]:List UInt8)) (r0 [(.int .i64 1),(.int .i64 1)] [(.int .i64 0),(.int .i64 0),(.int .i64 0),(.int .i64 1)] true) (cond (b==([37]:List UInt8)) (r0 [(.int .i64 1),(.int .i64 100)] [(.int .i64 0),(.int .i64 0),(.int .i64 0),(.int .i64 0)] true) (cond (b==([112,117]:List UInt8)) (r0 [(.int .i64 1),(.int .i64 1)] [(.int .i64 0),(.int .i64 0),(.int .i64 0),(.int .i64 0)] true) (r0 [(.int .i64 0),(.int .i64 0)] [(.int .i64 0),(.int .i64 0),(.int .i64 0),(.int .i64 0)] false)))))))))))))))))
def Yt:=(Ag (@RW R)).1
theorem OT:@Yt R=@RW R:=(Ag _).2
def XL (F:KF R):LA→LA→Bool→O R:=(fun c d e=>F (.tup [(.pagg c false),(.pagg d false),(.bool e)]) [])
theorem XM (b:List UInt8) (F:KF R):Cd [] Adu N 92 [(.str b)] [] F=(Yt N b (XL F)):=by
 rw[OT]
 kernel_rfl
def OU (a:LA) (h:Ah) (k:KF R):O R :=
 match a,h with
 | [(.str b)],[]=>(Yt N b (XL k))
 | _,_=>none
theorem XN:An N 92 @OU:=by
 intro R Q a h k j;unfold OU;split;exact As (XM ..) (XM ..) trivial;exact Av
def sG:=At (XN N)
def sH:=Cg (XN N)
def Vx (r0:LA→LA→Int→O R) (f:Nat) (e:LA) (k0:Int→Int→LA→LA→O R) (g d:Int) (b c:LA):O R :=
 (cond (decide (d<g)) (cond (Aj d f) (cond (Nat.ble 2 ((e.drop (0+((d.toNat)*2))).length)) (cond ((Nat.beq 0 0)&&((Nat.beq (((e.drop (0+((d.toNat)*2))).take 2).length) 2)&&(Nat.beq 2 2))) (Ag3 ((e.drop (0+((d.toNat)*2))).take 2) fun w=>(Yt N w (fun l m x=>(cond ((Nat.beq (l.length) 2)&&((Nat.ble 2 2)&&(!false))) (cond ((Nat.beq (m.length) 4)&&((Nat.ble 4 4)&&(!false))) (cond (!x) (r0 [(.bool false),.nsl,.nsl] [(.int .i64 0),(.int .i64 0),(.int .i64 0),(.int .i64 0)] 12) (Pa (((e.drop (0+((d.toNat)*2))).take 2).drop 1) fun y=>(cond y (Bw .i64 ((setCells [(.int .i64 0),(.int .i64 0)] 0 l).drop 1) fun o=>(Bw .i64 (setCells [(.int .i64 0),(.int .i64 0)] 0 l) fun p=>(cond ((Nat.beq 1 1)&&((Nat.ble 1 ((setCells [(.int .i64 0),(.int .i64 0)] 0 l).length))&&(!false))) (cond ((Nat.beq 1 1)&&((Nat.ble 2 (((setCells [(.int .i64 0),(.int .i64 0)] 0 l).set 0 (.int .i64 o)).length))&&(!false))) (cond (Nat.ble 4 (c.length)) (cond (Nat.ble 4 ((setCells [(.int .i64 0),(.int .i64 0),(.int .i64 0),(.int .i64 0)] 0 m).length)) (b6 N (c.take 4) false ((setCells [(.int .i64 0),(.int .i64 0),(.int .i64 0),(.int .i64 0)] 0 m).take 4) false (fun q=>(cond ((Nat.beq (q.length) 4)&&((Nat.ble 4 (c.length))&&(!false))) (cond (Nat.ble 3 (b.length)) (cond (Nat.ble 2 ((((setCells [(.int .i64 0),(.int .i64 0)] 0 l).set 0 (.int .i64 o)).set 1 (.int .i64 p)).length)) (Lz N ((((setCells [(.int .i64 0),(.int .i64 0)] 0 l).set 0 (.int .i64 o)).set 1 (.int .i64 p)).take 2) false (fun z=>(Z8 N (b.take 3) false z false (fun r=>(cond ((Nat.beq (r.length) 3)&&((Nat.ble 3 (b.length))&&(!false))) (k0 g (wrap .i64 (d+1)) (setCells b 0 r) (setCells c 0 q)) none))))) none) none) none))) none) none) none) none))) (cond (Nat.ble 4 (c.length)) (cond (Nat.ble 4 ((setCells [(.int .i64 0),(.int .i64 0),(.int .i64 0),(.int .i64 0)] 0 m).length)) (bZ N (c.take 4) false ((setCells [(.int .i64 0),(.int .i64 0),(.int .i64 0),(.int .i64 0)] 0 m).take 4) false (fun s=>(cond ((Nat.beq (s.length) 4)&&((Nat.ble 4 (c.length))&&(!false))) (cond (Nat.ble 3 (b.length)) (cond (Nat.ble 2 ((setCells [(.int .i64 0),(.int .i64 0)] 0 l).length)) (Lz N ((setCells [(.int .i64 0),(.int .i64 0)] 0 l).take 2) false (fun aa=>(Z8 N (b.take 3) false aa false (fun t=>(cond ((Nat.beq (t.length) 3)&&((Nat.ble 3 (b.length))&&(!false))) (k0 g (wrap .i64 (d+1)) (setCells b 0 t) (setCells c 0 s)) none))))) none) none) none))) none) none)))) none) none)))) none) none) none) (cond (Nat.ble 3 (b.length)) (cond (Nat.ble 4 (c.length)) (cond ((Nat.beq 0 0)&&((Nat.beq ((b.take 3).length) 3)&&(Nat.beq 3 3))) (cond ((Nat.beq ((c.take 4).length) 4)&&((Nat.ble 4 4)&&(!false))) (cond (Nat.ble 3 ((b.take 3).length)) (cond (Nat.ble 4 ((setCells [(.int .i64 0),(.int .i64 0),(.int .i64 0),(.int .i64 0)] 0 (c.take 4)).length)) (r0 ((b.take 3).take 3) ((setCells [(.int .i64 0),(.int .i64 0),(.int .i64 0),(.int .i64 0)] 0 (c.take 4)).take 4) 0) none) none) none) none) none) none))
def Lm (r0:LA→LA→Int→O R) (f:Nat) (e:LA):Nat→Int→Int→LA→LA→O R
 | 0,_,_,_,_=>none
 | n+1,g,d,b,c=>(Vx N r0 f e (Lm r0 f e n) g d b c)
def IA (r0:LA→LA→Int→O R) (q0:Nat→LA→Int→Int→LA→LA→O R) (i:List UInt8):O R :=
 (Ys N i (fun f u e=>(cond (u != 0) (r0 [(.bool false),.nsl,.nsl] [(.int .i64 0),(.int .i64 0),(.int .i64 0),(.int .i64 0)] u) (Od N 1 (fun v=>(cond ((Nat.beq 0 0)&&((Nat.beq (v.length) 3)&&(Nat.beq 3 3))) (q0 f e ((f:Nat):Int) 0 v [(.int .i64 0),(.int .i64 0),(.int .i64 0),(.int .i64 0)]) none))))))
def Ee:=(Ag (fun (N:Nat) (i:List UInt8) (r0:LA→LA→Int→O R)=>(IA N r0 (fun f e g d b c=>(Lm N r0 f e N g d b c)) i))).1
theorem IB (i r0):(@Ee R N i r0)=(IA N r0 (fun f e g d b c=>(Lm N r0 f e N g d b c)) i):=by rw[Ee,(Ag _).2]
def mB:Hints:={ H:=(hS hL (hS hL (hS hL (hS hL (hS (hS hL (hS (hP [2,3,7,8,26,27,28] hL) hL)) hL))))),modes:=[(3,0),(3,0),(0,0)] }
def qB:D8:=[(90,wB N),(91,NY N),(92,sG N),(36,Ace N),(93,ku N),(76,bH N),(34,Acc N)]
def ya (F:KF R):=Ov Tryz.f39 mB (qB N) [] N F
def Tt (F:KF R):LA→LA→Int→O R:=(fun ab ac ad=>F (.tup [(.pagg ab false),(.pagg ac false),(iv ad)]) [])
def yb (f:Nat) (e:LA) (g d:Int) (b c:LA):St:=⟨[(2,(op 0)),(3,(op 1)),(7,(op 2)),(8,(op 3)),(26,(.own 300004 0 f)),(27,(iv g)),(28,(iv d))],(hq [(bN 0 [(.bool false),.nsl,.nsl]),(bQ 0 [(iv 0),(iv 0),(iv 0),(iv 0)]),(bQ 0 b),(bQ 0 c),(bQ 2 e)])⟩
def yc (F:KF R):=ya N F [1,1,1,1,0,1,0] []
theorem OV (F:KF R) (f:Nat) (e:LA):∀ (n:Nat) (g d:Int) (b c:LA),Au (yc N F) n (yb f e g d b c)=(Lm N (Tt F) f e n g d b c)
 | 0,_,_,_,_=>by kernel_rfl
 | n+1,g,d,b,c=>Eq.trans (by kernel_rfl) (Da (Vx N (Tt F) f e · g d b c) (funext fun g=>funext fun d=>funext fun b=>funext fun c=>(OV F f e n g d b c)):_)
theorem mC (i:List UInt8) (F:KF R):Cd (qB N) mB N 39 [(.str i)] [] F=(Ee N i (Tt F)):=by
 rw[IB]
 exact Eq.trans (by kernel_rfl) (Da (IA N (Tt F) · i) (funext fun f=>funext fun e=>funext fun g=>funext fun d=>funext fun b=>funext fun c=>(Ap ..).trans (OV N F f e N g d b c)):_)
def ex (a:LA) (h:Ah) (k:KF R):O R :=
 match a,h with
 | [(.str i)],[]=>(Ee N i (Tt k))
 | _,_=>none
theorem mD:An N 39 @ex:=by
 intro R Q a h k j;unfold ex;split;exact As (mC ..) (mC ..) ⟨wC N,NZ N,sH N,Acf N,kv N,bI N,Acd N,trivial⟩;exact Av
def AT:=At (mD N)
def AU:=Cg (mD N)
def Kx (N:Nat) (r0:Int→O R) (b:List UInt8) (k1:Int→O R) (d:Int):O R :=
 (cond ((decide (d>0))==true) (cond (Aj (wrap .i64 (d - 1)) (b.length)) (cond (cond true (((UInt8.toNat (List.getD b ((wrap .i64 (d - 1)).toNat) 0):Nat):Int)==47) false) (k1 (wrap .i64 (d - 1))) (r0 d)) none) (r0 d))
def Ef (r0:Int→O R) (b:List UInt8):Nat→Int→O R
 | 0,_=>none
 | n+1,d=>(Kx N r0 b (Ef r0 b n) d)
def Wr (N:Nat) (r0:Int→O R) (b:List UInt8) (k0:Int→O R) (q1:Int→O R) (c:Int):O R :=
 (cond ((decide (c<(((b.length):Nat):Int)))==true) (cond (Aj c (b.length)) (cond ((decide (((UInt8.toNat (List.getD b (c.toNat) 0):Nat):Int)≥48))==true) (cond (Aj c (b.length)) (cond ((cond true (decide (((UInt8.toNat (List.getD b (c.toNat) 0):Nat):Int)≤57)) false)==false) (cond (Aj c (b.length)) (cond ((cond false true (((UInt8.toNat (List.getD b (c.toNat) 0):Nat):Int)==45))==false) (cond (Aj c (b.length)) (cond ((cond false true (((UInt8.toNat (List.getD b (c.toNat) 0):Nat):Int)==46))==false) (cond (Aj c (b.length)) (cond (cond true (cond false true (((UInt8.toNat (List.getD b (c.toNat) 0):Nat):Int)==47)) false) (k0 (wrap .i64 (c+1))) (q1 c)) none) (k0 (wrap .i64 (c+1)))) none) (k0 (wrap .i64 (c+1)))) none) (k0 (wrap .i64 (c+1)))) none) (cond (Aj c (b.length)) (cond ((cond false true (((UInt8.toNat (List.getD b (c.toNat) 0):Nat):Int)==45))==false) (cond (Aj c (b.length)) (cond ((cond false true (((UInt8.toNat (List.getD b (c.toNat) 0):Nat):Int)==46))==false) (cond (Aj c (b.length)) (cond (cond true (cond false true (((UInt8.toNat (List.getD b (c.toNat) 0):Nat):Int)==47)) false) (k0 (wrap .i64 (c+1))) (q1 c)) none) (k0 (wrap .i64 (c+1)))) none) (k0 (wrap .i64 (c+1)))) none)) none) (q1 c))
def Eg (r0:Int→O R) (b:List UInt8):Nat→Int→O R
 | 0,_=>none
 | n+1,c=>(Wr N r0 b (Eg r0 b n) (fun d=>(Ef N r0 b N d)) c)
def AW (N:Nat) (r0:Int→O R) (q0:Int→O R) (b:List UInt8):O R :=
 (q0 0)
def Rq:=(Ag (fun (N:Nat) (b:List UInt8) (r0:Int→O R)=>(AW N r0 (fun c=>(Eg N r0 b N c)) b))).1
theorem OW (b r0):(@Rq R N b r0)=(AW N r0 (fun c=>(Eg N r0 b N c)) b):=by rw[Rq,(Ag _).2]
def XO:Hints:={ H:=(hS hL (hS hL (hS (hS (hP [0,3] hL) hL) (hS (hS (hP [0,3] hL) hL) hL)))) }
def XP (F:KF R):=Ov Tryz.f119 XO [] [] N F
def He (F:KF R):Int→O R:=(fun e=>F (iv e) [])
def sI (b:List UInt8) (d:Int):St:=⟨[(0,(.str b)),(3,(iv d))],[]⟩
def sJ (F:KF R):=XP N F [1,1,1,0,0] []
def sK (b:List UInt8) (c:Int):St:=⟨[(0,(.str b)),(3,(iv c))],[]⟩
def sL (F:KF R):=XP N F [1,1,0,0] []
theorem DI (F:KF R) (b:List UInt8):∀ (n:Nat) (d:Int),Au (sJ N F) n (sI b d)=(Ef N (He F) b n d)
 | 0,_=>by kernel_rfl
 | n+1,d=>Eq.trans (by kernel_rfl) (Da (Kx N (He F) b · d) (funext fun d=>(DI F b n d)):_)
theorem DJ (F:KF R) (b:List UInt8):∀ (n:Nat) (c:Int),Au (sL N F) n (sK b c)=(Eg N (He F) b n c)
 | 0,_=>by kernel_rfl
 | n+1,c=>Eq.trans (by kernel_rfl) (uB (Wr N (He F) b · · c) (funext fun c=>(DJ F b n c)) (funext fun d=>(Ap ..).trans (DI N F b N d)):_)
theorem XQ (b:List UInt8) (F:KF R):Cd [] XO N 119 [(.str b)] [] F=(Rq N b (He F)):=by
 rw[OW]
 exact Eq.trans (by kernel_rfl) (Da (AW N (He F) · b) (funext fun c=>(Ap ..).trans (DJ N F b N c)):_)
def OX (a:LA) (h:Ah) (k:KF R):O R :=
 match a,h with
 | [(.str b)],[]=>(Rq N b (He k))
 | _,_=>none
theorem XR:An N 119 @OX:=by
 intro R Q a h k j;unfold OX;split;exact As (XQ ..) (XQ ..) trivial;exact Av
def sM:=At (XR N)
def sN:=Cg (XR N)
def Vy (r0:LA→LA→Int→O R) (d:LA) (e:List UInt8):O R :=
 (Ee N e (fun g f l=>(cond ((Nat.beq 0 0)&&((Nat.beq (g.length) 3)&&(Nat.beq 3 3))) (cond ((Nat.beq (f.length) 4)&&((Nat.ble 4 4)&&(!false))) (cond (l != 0) (r0 [(.bool false),.nsl,.nsl] [(.int .i64 0),(.int .i64 0),(.int .i64 0),(.int .i64 0)] l) (cond (Nat.ble 3 (d.length)) (cond (Nat.ble 3 (g.length)) (Z8 N (d.take 3) false (g.take 3) false (fun i=>(cond (Nat.ble 4 ((setCells [(.int .i64 0),(.int .i64 0),(.int .i64 0),(.int .i64 0)] 0 f).length)) (cond ((Nat.beq 0 0)&&((Nat.beq (i.length) 3)&&(Nat.beq 3 3))) (cond ((Nat.beq (((setCells [(.int .i64 0),(.int .i64 0),(.int .i64 0),(.int .i64 0)] 0 f).take 4).length) 4)&&((Nat.ble 4 4)&&(!false))) (cond (Nat.ble 3 (i.length)) (cond (Nat.ble 4 ((setCells [(.int .i64 0),(.int .i64 0),(.int .i64 0),(.int .i64 0)] 0 ((setCells [(.int .i64 0),(.int .i64 0),(.int .i64 0),(.int .i64 0)] 0 f).take 4)).length)) (r0 (i.take 3) ((setCells [(.int .i64 0),(.int .i64 0),(.int .i64 0),(.int .i64 0)] 0 ((setCells [(.int .i64 0),(.int .i64 0),(.int .i64 0),(.int .i64 0)] 0 f).take 4)).take 4) 0) none) none) none) none) none))) none) none)) none) none)))
def KR (r0:LA→LA→Int→O R) (q0:LA→List UInt8→O R) (b:List UInt8):O R :=
 (Rq N b (fun c=>(cond ((decide ((0:Int)≤(0:Int)))&&((decide (0≤c))&&((decide (c≤(((b.length):Nat):Int)))&&(decide ((((b.length):Nat):Int)≤(((b.length):Nat):Int)))))) (Ep N (List.take (c.toNat) b) (fun d m=>(cond ((Nat.beq 0 0)&&((Nat.beq (d.length) 3)&&(Nat.beq 3 3))) (cond (m != 0) (r0 [(.bool false),.nsl,.nsl] [(.int .i64 0),(.int .i64 0),(.int .i64 0),(.int .i64 0)] m) (cond ((decide (0≤c))&&((decide (c≤(((b.length):Nat):Int)))&&((decide ((((b.length):Nat):Int)≤(((b.length):Nat):Int)))&&(decide ((((b.length):Nat):Int)≤(((b.length):Nat):Int)))))) (cond ((List.take ((b.length) - (c.toNat)) (List.drop (c.toNat) b))==([]:List UInt8)) (cond (Nat.ble 3 (d.length)) (cond ((Nat.beq 0 0)&&((Nat.beq ((d.take 3).length) 3)&&(Nat.beq 3 3))) (cond (Nat.ble 3 ((d.take 3).length)) (r0 ((d.take 3).take 3) [(.int .i64 0),(.int .i64 0),(.int .i64 0),(.int .i64 0)] 0) none) none) none) (cond ((List.take ((b.length) - (c.toNat)) (List.drop (c.toNat) b))==([32]:List UInt8)) (r0 [(.bool false),.nsl,.nsl] [(.int .i64 0),(.int .i64 0),(.int .i64 0),(.int .i64 0)] 2) (cond (Aj 0 (List.length (List.take ((b.length) - (c.toNat)) (List.drop (c.toNat) b)))) (cond (((UInt8.toNat (List.getD (List.take ((b.length) - (c.toNat)) (List.drop (c.toNat) b)) 0 0):Nat):Int)==32) (cond ((decide ((0:Int)≤(1:Int)))&&((decide (1≤(((List.length (List.take ((b.length) - (c.toNat)) (List.drop (c.toNat) b))):Nat):Int)))&&((decide ((((List.length (List.take ((b.length) - (c.toNat)) (List.drop (c.toNat) b))):Nat):Int)≤(((List.length (List.take ((b.length) - (c.toNat)) (List.drop (c.toNat) b))):Nat):Int)))&&(decide ((((List.length (List.take ((b.length) - (c.toNat)) (List.drop (c.toNat) b))):Nat):Int)≤(((List.length (List.take ((b.length) - (c.toNat)) (List.drop (c.toNat) b))):Nat):Int)))))) (q0 d (List.take ((List.length (List.take ((b.length) - (c.toNat)) (List.drop (c.toNat) b))) - 1) (List.drop 1 (List.take ((b.length) - (c.toNat)) (List.drop (c.toNat) b))))) none) (q0 d (List.take ((b.length) - (c.toNat)) (List.drop (c.toNat) b)))) none))) none)) none))) none)))
def Jb:=(Ag (fun (N:Nat) (b:List UInt8) (r0:LA→LA→Int→O R)=>(KR N r0 (fun d e=>(Vy N r0 d e)) b))).1
theorem XS (b r0):(@Jb R N b r0)=(KR N r0 (fun d e=>(Vy N r0 d e)) b):=by rw[Jb,(Ag _).2]
def ey:Hints:={ H:=(hS hL (hS hL (hS hL (hS hL (hS hL (hS hL (hS hL (hJ [2,3,6,8] hL hL)))))))),modes:=[(3,0),(3,0),(0,0)] }
def mE:D8:=[(119,sM N),(24,lS N),(39,AT N),(76,bH N)]
def wD (F:KF R):=Ov Tryz.f56 ey (mE N) [] N F
def Vz (F:KF R):LA→LA→Int→O R:=(fun n o p=>F (.tup [(.pagg n false),(.pagg o false),(iv p)]) [])
def wE (d:LA) (e:List UInt8):St:=⟨[(2,(op 0)),(3,(op 1)),(6,(op 2)),(8,(.str e))],(hq [(bN 0 [(.bool false),.nsl,.nsl]),(bQ 0 [(iv 0),(iv 0),(iv 0),(iv 0)]),(bQ 0 d)])⟩
def wF (F:KF R):=wD N F [1,1,1,1,1,1,1,1] []
theorem mF (F:KF R) (d:LA):∀ (e:List UInt8),Cm (wF N F) (wE d e)=(Vy N (Vz F) d e):=by
 intro e
 kernel_rfl
theorem ez (b:List UInt8) (F:KF R):Cd (mE N) ey N 56 [(.str b)] [] F=(Jb N b (Vz F)):=by
 rw[XS]
 exact Eq.trans (by kernel_rfl) (Da (KR N (Vz F) · b) (funext fun d=>funext fun e=>(A2 ..).trans (mF N F d e)):_)
def XT (a:LA) (h:Ah) (k:KF R):O R :=
 match a,h with
 | [(.str b)],[]=>(Jb N b (Vz k))
 | _,_=>none
theorem fA:An N 56 @XT:=by
 intro R Q a h k j;unfold XT;split;exact As (ez ..) (ez ..) ⟨sN N,lT N,AU N,bI N,trivial⟩;exact Av
def IC:=At (fA N)
def ID:=Cg (fA N)
def sO (d e:List UInt8) (r0:LA→Int→O R):O R :=
 (Jb N d (fun g b l=>(cond ((Nat.beq 0 0)&&((Nat.beq (g.length) 3)&&(Nat.beq 3 3))) (cond ((Nat.beq (b.length) 4)&&((Nat.ble 4 4)&&(!false))) (cond (l != 0) (r0 [(.bool false),.nsl,.nsl] l) (Ee N e (fun i c m=>(cond ((Nat.beq 0 0)&&((Nat.beq (i.length) 3)&&(Nat.beq 3 3))) (cond ((Nat.beq (c.length) 4)&&((Nat.ble 4 4)&&(!false))) (cond (m != 0) (r0 [(.bool false),.nsl,.nsl] m) (cond (Nat.ble 4 ((setCells [(.int .i64 0),(.int .i64 0),(.int .i64 0),(.int .i64 0)] 0 b).length)) (cond (Nat.ble 4 ((setCells [(.int .i64 0),(.int .i64 0),(.int .i64 0),(.int .i64 0)] 0 c).length)) (cond ((Nat.ble 1 4)&&((Nat.beq (((setCells [(.int .i64 0),(.int .i64 0),(.int .i64 0),(.int .i64 0)] 0 b).take 4).length) 4)&&((Nat.beq (((setCells [(.int .i64 0),(.int .i64 0),(.int .i64 0),(.int .i64 0)] 0 c).take 4).length) 4)&&(true&&(!false))))) (Bw .i64 ((setCells [(.int .i64 0),(.int .i64 0),(.int .i64 0),(.int .i64 0)] 0 b).take 4) fun n=>(Bw .i64 ((setCells [(.int .i64 0),(.int .i64 0),(.int .i64 0),(.int .i64 0)] 0 c).take 4) fun o=>(Bw .i64 (((setCells [(.int .i64 0),(.int .i64 0),(.int .i64 0),(.int .i64 0)] 0 b).take 4).drop 1) fun p=>(Bw .i64 (((setCells [(.int .i64 0),(.int .i64 0),(.int .i64 0),(.int .i64 0)] 0 c).take 4).drop 1) fun q=>(Bw .i64 (((setCells [(.int .i64 0),(.int .i64 0),(.int .i64 0),(.int .i64 0)] 0 b).take 4).drop 2) fun r=>(Bw .i64 (((setCells [(.int .i64 0),(.int .i64 0),(.int .i64 0),(.int .i64 0)] 0 c).take 4).drop 2) fun s=>(Bw .i64 (((setCells [(.int .i64 0),(.int .i64 0),(.int .i64 0),(.int .i64 0)] 0 b).take 4).drop 3) fun t=>(Bw .i64 (((setCells [(.int .i64 0),(.int .i64 0),(.int .i64 0),(.int .i64 0)] 0 c).take 4).drop 3) fun u=>(cond (!((n==o)&&((p==q)&&((r==s)&&((t==u)&&true))))) (r0 [(.bool false),.nsl,.nsl] 15) (cond (Nat.ble 3 (g.length)) (cond (Nat.ble 3 (i.length)) (RO N (g.take 3) false (i.take 3) false (fun f v=>(cond ((Nat.beq 0 0)&&((Nat.beq (f.length) 3)&&(Nat.beq 3 3))) (cond (!v) (r0 [(.bool false),.nsl,.nsl] 5) (cond (Nat.ble 3 (f.length)) (cond ((Nat.beq 0 0)&&((Nat.beq ((f.take 3).length) 3)&&(Nat.beq 3 3))) (cond (Nat.ble 3 ((f.take 3).length)) (r0 ((f.take 3).take 3) 0) none) none) none)) none))) none) none)))))))))) none) none) none)) none) none)))) none) none)))
def IE:=(Ag (@sO R)).1
theorem b9:@IE R=@sO R:=(Ag _).2
def Afy:D8:=[(56,IC N),(39,AT N),(118,pf N)]
def wG (F:KF R):LA→Int→O R:=(fun w x=>F (.tup [(.pagg w false),(iv x)]) [])
theorem wH (d e:List UInt8) (F:KF R):Cd (Afy N) oO N 57 [(.str d),(.str e)] [] F=(IE N d e (wG F)):=by
 rw[b9]
 kernel_rfl
def qC (a:LA) (h:Ah) (k:KF R):O R :=
 match a,h with
 | [(.str d),(.str e)],[]=>(IE N d e (wG k))
 | _,_=>none
theorem wI:An N 57 @qC:=by
 intro R Q a h k j;unfold qC;split;exact As (wH ..) (wH ..) ⟨ID N,AU N,pg N,trivial⟩;exact Av
def wJ:=At (wI N)
def wK:=Cg (wI N)
end
end Gx

namespace Gx
open Go Go.Proofs
section
variable {R:Type}
def Agr (c:UInt8):Bool:=decide (c.toNat≠42)&&(decide (c.toNat≠47)&&(decide (c.toNat=37)||((decide (97≤c.toNat)&&decide (c.toNat≤122))||(decide (65≤c.toNat)&&decide (c.toNat≤90)))))
theorem Fk {d n:Nat} (h:d<n):Aj (d:Int) n=true:=by unfold Aj;simp;omega
theorem O3 {pre post:List UInt8} {c:UInt8}:List.getD (pre++c::post) pre.length 0=c:=by simp
theorem cc (a:Bool):cond true a false=a:=by cases a<;>rfl
theorem Afz (a:Bool):cond false true a=a:=by cases a<;>rfl
theorem Ai5 (a:Bool):(a==true)=a:=by cases a<;>rfl
theorem yd {N n e:Nat} {b pre post:List UInt8} {c:UInt8} {i:Int} {l f:Bool} {g:LA} {K:Nat→Int→LA→O R} (k:b=pre++c::post) (m:Agr c=true) (s:b.length≤1000000000) :
  A9 N K b (n+1) e i l f (pre.length:Int) g=A9 N K b n e i l f ((pre.length+1:Nat):Int) g:=by
 have d:pre.length<b.length:=by rw[k];simp
 have q:List.getD b ((pre.length:Int)).toNat 0=c:=by rw[Int.toNat_natCast,k];exact O3
 simp only[Agr,Bool.and_eq_true,Bool.or_eq_true,decide_eq_true_eq] at m
 rw[A9];unfold Nb
 rw[q,show decide ((pre.length:Int)≤(((b.length):Nat):Int))=true by simp;omega,ct,T6 d,Fk d,ct,cc,cc,Ai5,Ai5,ct,ct]
 rw[show((((c.toNat):Nat):Int) != 42)=true by rw[bne_iff_ne];omega,ct,show((((c.toNat):Nat):Int) != 47)=true by rw[bne_iff_ne];omega]
 unfold Pt AS
 dsimp only
 rw[q,ct,Fk d,ct,wS (by omega),Ai5,cc,cc,Afz,Afz,Ai5]
 by_cases j:c.toNat=37
 ·rw[show((((c.toNat):Nat):Int) != 37)=false by rw[j];rfl,cf]
 ·rw[show((((c.toNat):Nat):Int) != 37)=true by rw[bne_iff_ne];omega,ct]
  rcases m.2.2 with h | h | h
  ·exact absurd h j
  ·rw[show(decide ((((c.toNat):Nat):Int)<97)==false)=true by simp;omega,ct,show decide ((((c.toNat):Nat):Int)>122)=false by simp;omega,cf]
  ·rw[show(decide ((((c.toNat):Nat):Int)<97)==false)=false by simp;omega,cf,show(decide ((((c.toNat):Nat):Int)<65)==false)=true by simp;omega,ct,show decide ((((c.toNat):Nat):Int)>90)=false by simp;omega,cf]
theorem IF {N e:Nat} {b:List UInt8} {i:Int} {l f:Bool} {g:LA} {K:Nat→Int→LA→O R} (j:b.length≤1000000000):∀ (w pre post:List UInt8) (n:Nat),b=pre++(w++post)→w.all Agr=true →
  A9 N K b (n+w.length) e i l f (pre.length:Int) g=A9 N K b n e i l f ((pre.length+w.length:Nat):Int) g
 | [],pre,post,n,_,_=>rfl
 | c::w,pre,post,n,k,d=>by
  simp only[List.all_cons,Bool.and_eq_true] at d
  have m:=IF (N:=N) (e:=e) (i:=i) (l:=l) (f:=f) (g:=g) (K:=K) j w (pre++[c]) post n (by rw[k];simp) d.2
  rw[List.length_append,List.length_singleton] at m
  rw[List.length_cons,←Nat.add_assoc,yd (post:=w++post) (by rw[k];simp) d.1 j,m,Nat.add_assoc,Nat.add_comm 1]
def pc (P:List (Bool×List UInt8)):LA:=P.flatMap fun p=>[.str p.2,.bool p.1]
theorem Ae0 (P:List (Bool×List UInt8)):(pc P).length=P.length*2:=by
 induction P with
 | nil=>rfl
 | cons p P b=>unfold pc at *;rw[List.flatMap_cons,List.length_append,b];simp;omega
theorem Af0 (P:List (Bool×List UInt8)):(pc P).take (P.length*2)=pc P:=List.take_of_length_le (by rw[Ae0];omega)
theorem Ahv (P:List (Bool×List UInt8)) (o:Bool) (w:List UInt8):pc P++[.str w,.bool o]=pc (P++[(o,w)]):=by unfold pc;rw[List.flatMap_append];rfl
def tl (U:List (Bool×List UInt8)):List UInt8:=U.flatMap fun p=>(if p.1 then 47 else 42)::p.2
def XU (U:List (Bool×List UInt8)):Prop:=∀ p ∈ U,p.2≠[]∧p.2.all Agr=true
theorem Ae1 {pre w post:List UInt8}:List.take (pre.length+w.length - pre.length) (List.drop pre.length (pre++(w++post)))=w:=by
 rw[List.drop_left,Nat.add_sub_cancel_left,List.take_left]
def z_:List UInt8→Bool
 | c::_=>c==47
 | []=>false
theorem wL {N n:Nat} {b pre w:List UInt8} {o f:Bool} {P:List (Bool×List UInt8)} {D7:List UInt8} {K:Nat→Int→LA→O R} (i:b=pre++(w++D7)) (s:w≠[]) (x:b.length≤1000000000) (j:D7=[]∨(∃ r,D7=42::r)∨∃ r,D7=47::r) (hP:P.length≤8) :
  A9 N K b (n+1) P.length (pre.length:Int) o f ((pre.length+w.length:Nat):Int) (pc P) =
   A9 N K b n (if P.length<8 then P++[(o,w)] else P).length ((pre.length+w.length+1:Nat):Int) (z_ D7) (if P.length<8 then f else true) ((pre.length+w.length+1:Nat):Int) (pc (if P.length<8 then P++[(o,w)] else P)):=by
 have t:=List.length_pos_iff.2 s
 have d:b.length=pre.length+w.length+D7.length:=by rw[i];simp;omega
 have q:∀ (y:Nat) (z:Bool) (aa:LA),Vv N (A9 N K b n) K b ((pre.length+w.length:Nat):Int) y z aa=A9 N K b n y ((pre.length+w.length+1:Nat):Int) (z_ D7) z ((pre.length+w.length+1:Nat):Int) aa:=by
  intro y z aa
  unfold Vv
  rw[wS (by omega)]
  cases D7 with
  | nil=>rw[BV (by simp at d;omega)];rfl
  | cons c r =>
   have e:pre.length+w.length<b.length:=by rw[d,List.length_cons];omega
   have k:List.getD b (((pre.length+w.length:Nat):Int)).toNat 0=c:=by
    rw[Int.toNat_natCast,i,←List.append_assoc,show pre.length+w.length=(pre++w).length by simp];exact O3
   rw[T6 e,show(true==true)=true by rfl,ct,Fk e,ct,k,cc]
   congr 1
   show _=(c==47)
   rw[Bool.eq_iff_iff];simp only[beq_iff_eq]
   constructor
   ·intro h;apply UInt8.toNat_inj.1;have:c.toNat=47:=by omega
    rw[this];rfl
   ·intro h;rw[h];rfl
 have m:Ps N (A9 N K b n) K b ((pre.length+w.length:Nat):Int) P.length (pre.length:Int) o f (pc P)=A9 N K b n (if P.length<8 then P++[(o,w)] else P).length ((pre.length+w.length+1:Nat):Int) (z_ D7) (if P.length<8 then f else true) ((pre.length+w.length+1:Nat):Int) (pc (if P.length<8 then P++[(o,w)] else P)):=by
  unfold Ps AR
  dsimp only
  rw[show(((pre.length+w.length:Nat):Int)==(pre.length:Int))=false by rw[beq_eq_false_iff_ne];omega,cf]
  by_cases l:P.length<8
  ·rw[show decide (((P.length:Nat):Int)<8)=true by simp;omega,ct,if_pos l,if_pos l]
   rw[show((decide ((0:Int)≤(pre.length:Int)))&&((decide ((pre.length:Int)≤((pre.length+w.length:Nat):Int)))&&((decide (((pre.length+w.length:Nat):Int)≤(((b.length):Nat):Int)))&&(decide ((((b.length):Nat):Int)≤(((b.length):Nat):Int))))))=true by simp;omega,ct]
   rw[show((Nat.ble (P.length+1) 140737488355328)&&(Nat.ble ((P.length+1)*24) 140737488355328))=true by simp;omega,ct,q,Af0,Int.toNat_natCast,Int.toNat_natCast,i,Ae1,Ahv,←i,List.length_append,List.length_singleton]
  ·rw[show decide (((P.length:Nat):Int)<8)=false by simp;omega,cf,q,if_neg l,if_neg l]
 rw[A9];unfold Nb
 rw[show decide (((pre.length+w.length:Nat):Int)≤(((b.length):Nat):Int))=true by simp;omega,ct]
 have fin:∀ v,v=false→Pt N (A9 N K b n) K b P.length (pre.length:Int) o f ((pre.length+w.length:Nat):Int) v (pc P)=Ps N (A9 N K b n) K b ((pre.length+w.length:Nat):Int) P.length (pre.length:Int) o f (pc P):=by
  intro v u;subst u;rfl
 rcases j with h | ⟨r,h⟩ | ⟨r,h⟩
 ·subst h
  rw[BV (by simp at d;omega),show(false==true)=false by rfl,cf]
  exact(fin false rfl).trans m
 all_goals
  subst h
  have e:pre.length+w.length<b.length:=by rw[d,List.length_cons];omega
  rw[T6 e,show(true==true)=true by rfl,ct,Fk e,ct]
 ·have k:List.getD b (((pre.length+w.length:Nat):Int)).toNat 0=42:=by
   rw[Int.toNat_natCast,i,←List.append_assoc,show pre.length+w.length=(pre++w).length by simp];exact O3
  rw[k]
  exact(fin false rfl).trans m
 ·have k:List.getD b (((pre.length+w.length:Nat):Int)).toNat 0=47:=by
   rw[Int.toNat_natCast,i,←List.append_assoc,show pre.length+w.length=(pre++w).length by simp];exact O3
  rw[k]
  exact(fin false rfl).trans m
end
end Gx

namespace Gx
open Go Go.Proofs
section
variable {R:Type}
theorem gO (o:Bool) (w:List UInt8) (U:List (Bool×List UInt8)):tl ((o,w)::U)=(if o then 47 else 42)::(w++tl U):=by unfold tl;rw[List.flatMap_cons];rfl
theorem ye {N:Nat} {b:List UInt8} {K:Nat→Int→LA→O R} (j:b.length≤1000000000):∀ (U:List (Bool×List UInt8)) (pre w:List UInt8) (o f:Bool) (P:List (Bool×List UInt8)) (n:Nat),b=pre++(w++tl U)→XU ((o,w)::U)→P.length≤8 →
  A9 N K b (n+(w++tl U).length+2) P.length (pre.length:Int) o f (pre.length:Int) (pc P)=cond (f||decide (8<(P++(o,w)::U).length)) (K 0 8 []) (K (P++(o,w)::U).length 0 (pc (P++(o,w)::U))):=by
 intro U
 induction U with
 | nil =>
  intro pre w o f P n c hU hP
  have i:=hU (o,w) (by simp)
  have q:tl []=[]:=rfl
  rw[q] at c ⊢
  rw[List.append_nil,show n+w.length+2=(n+2)+w.length by omega,IF j w pre [] (n+2) c i.2,wL (D7:=[]) c i.1 j (.inl rfl) hP,A9]
  unfold Nb
  have m:b.length=pre.length+w.length:=by rw[c];simp
  rw[show decide (((pre.length+w.length+1:Nat):Int)≤(((b.length):Nat):Int))=false by simp;omega,cf]
  by_cases d:P.length<8
  ·rw[if_pos d,if_pos d,List.length_append,List.length_singleton,show decide (8<P.length+1)=false by simp;omega,Bool.or_false]
  ·rw[if_neg d,if_neg d,List.length_append,List.length_singleton,show decide (8<P.length+1)=true by simp;omega,Bool.or_true];rfl
 | cons p U s =>
  obtain⟨o2,e⟩:=p
  intro pre w o f P n c hU hP
  have i:=hU (o,w) (by simp)
  rw[gO] at c ⊢
  have t:z_ ((if o2=true then 47 else 42)::(e++tl U))=o2:=by cases o2<;>rfl
  have k:b=(pre++w++[if o2=true then 47 else 42])++(e++tl U):=by rw[c];simp
  have l:((pre++w++[if o2=true then 47 else 42]):List UInt8).length=pre.length+w.length+1:=by simp;omega
  rw[show n+(w++(if o2=true then 47 else 42)::(e++tl U)).length+2=(n+(e++tl U).length+2+1)+w.length by rw[List.length_append,List.length_cons];omega]
  rw[IF j w pre _ _ c i.2,wL (D7:=(if o2=true then 47 else 42)::(e++tl U)) c i.1 j (by cases o2;exact .inr (.inl ⟨_,rfl⟩);exact .inr (.inr ⟨_,rfl⟩)) hP,t]
  have key:=s (pre++w++[if o2=true then 47 else 42]) e o2 (if P.length<8 then f else true) (if P.length<8 then P++[(o,w)] else P) n k (fun x u=>hU x (List.mem_cons_of_mem _ u)) (by
   by_cases h:P.length<8
   ·rw[if_pos h,List.length_append,List.length_singleton];omega
   ·rw[if_neg h];exact hP)
  rw[l] at key
  rw[key]
  by_cases d:P.length<8
  ·rw[if_pos d,if_pos d,List.append_assoc];rfl
  ·rw[if_neg d,if_neg d]
   rw[show decide (8<(P++(o,w)::(o2,e)::U).length)=true by simp;omega,Bool.or_true];rfl
theorem wM {N:Nat} {w:List UInt8} {U:List (Bool×List UInt8)} {K:Nat→Int→LA→O R} (hU:XU ((false,w)::U)) (c:(w++tl U).length≤1000000000) (hN:(w++tl U).length+2≤N):Ys N (w++tl U) K=cond (decide (8<U.length+1)) (K 0 8 []) (K (U.length+1) 0 (pc ((false,w)::U))):=by
 rw[XJ];unfold KQ
 have:=ye (R:=R) (N:=N) (b:=w++tl U) (K:=K) c U [] w false false [] (N - (w++tl U).length - 2) rfl hU (by simp)
 rw[show N - (w++tl U).length - 2+(w++tl U).length+2=N by omega] at this
 exact this
end
end Gx

namespace Gx
open Go Go.Proofs
section
variable {R:Type}
structure Sy where
 w:List UInt8
 n:Nat
 d:Nat
 a:Int
 b:Int
 c:Int
 e:Int
def IG:List Sy:=[⟨[77,87,104],1,1,1,1,0,0⟩,⟨[77,87],1,1,1,0,0,0⟩,⟨[104],1,1,0,1,0,0⟩,⟨[69,85,82],1,1,0,0,1,0⟩,⟨[71,87,104],1000,1,1,1,0,0⟩,⟨[37],1,100,0,0,0,0⟩,⟨[109,105,110],1,60,0,1,0,0⟩,⟨[107,87],1,1000,1,0,0,0⟩,⟨[112,117],1,1,0,0,0,0⟩,⟨[99,116],1,100,0,0,1,0⟩,⟨[109,114,97,100],1,1000,0,0,0,1⟩,⟨[100],24,1,0,1,0,0⟩,⟨[107,69,85,82],1000,1,0,0,1,0⟩]
def Sy.dims (s:Sy):LA:=[.int .i64 s.a,.int .i64 s.b,.int .i64 s.c,.int .i64 s.e]
theorem Ae2 {N:Nat} {s:Sy} (b:s ∈ IG) {K:LA→LA→Bool→O R}:Yt N s.w K=K [.int .i64 (s.n:Int),.int .i64 (s.d:Int)] s.dims true:=by
 rw[OT];unfold RW
 simp only[IG,List.mem_cons,List.not_mem_nil,or_false] at b
 rcases b with rfl | rfl | rfl | rfl | rfl | rfl | rfl | rfl | rfl | rfl | rfl | rfl | rfl<;>rfl
theorem A6 {s:Sy} (f:s ∈ IG):s.w≠[]∧s.w.all Agr=true∧s.w.length≤4∧1≤s.n∧s.n≤1000∧1≤s.d∧s.d≤1000∧(0≤s.a∧s.a≤1)∧(0≤s.b∧s.b≤1)∧(0≤s.c∧s.c≤1)∧(0≤s.e∧s.e≤1):=by
 simp only[IG,List.mem_cons,List.not_mem_nil,or_false] at f
 rcases f with rfl | rfl | rfl | rfl | rfl | rfl | rfl | rfl | rfl | rfl | rfl | rfl | rfl<;>decide
abbrev Un:=List (Bool×Sy)
def H8 (U:Un):Prop:=∀ p ∈ U,p.2 ∈ IG
def qD (p:Bool×Sy):Rat:=if p.1 then mkRat p.2.d p.2.n else mkRat p.2.n p.2.d
def Bv (U:Un):Rat:=U.foldl (fun q p=>q*qD p) 1
theorem Aci (U:Un):∀ q:Rat,U.foldl (fun q p=>q*qD p) q=q*Bv U:=by
 unfold Bv
 induction U with
 | nil=>intro q;exact(Rat.mul_one q).symm
 | cons p U b=>intro q;rw[List.foldl_cons,List.foldl_cons,b,b (1*qD p),Rat.one_mul,Rat.mul_assoc]
theorem wN (U V:Un):Bv (U++V)=Bv U*Bv V:=by
 unfold Bv;rw[List.foldl_append];exact Aci V _
def ds (f:Sy→Int) (U:Un):Int:=(U.map fun p=>if p.1 then -f p.2 else f p.2).sum
theorem C6 (f:Sy→Int) (U V:Un):ds f (U++V)=ds f U+ds f V:=by unfold ds;rw[List.map_append,List.sum_append]
theorem Eb {f:Sy→Int} {U:Un} (h:∀ p ∈ U,0≤f p.2∧f p.2≤1):-(U.length:Int)≤ds f U∧ds f U≤(U.length:Int):=by
 induction U with
 | nil=>simp[ds]
 | cons p U b =>
  have d:=b fun x c=>h x (List.mem_cons_of_mem _ c)
  have i:=h p (by simp)
  have e:ds f (p::U)=(if p.1 then -f p.2 else f p.2)+ds f U:=by unfold ds;rw[List.map_cons,List.sum_cons]
  rw[e,List.length_cons]
  split<;>omega
def uw (U:Un):List (Bool×List UInt8):=U.map fun p=>(p.1,p.2.w)
def Hu (U:Un):LA:=[.int .i64 (ds Sy.a U),.int .i64 (ds Sy.b U),.int .i64 (ds Sy.c U),.int .i64 (ds Sy.e U)]
theorem Acj (A B:List (Bool×List UInt8)):pc (A++B)=pc A++pc B:=by unfold pc;rw[List.flatMap_append]
theorem nd {N n d:Nat} (z:n≤1000) (A:1≤d) (f:d≤1000) (b:fit 100 N):∃ x:RatD,x.can (mkRat n d)∧∀ K:LA→O R,Lz N [.int .i64 (n:Int),.int .i64 (d:Int)] false K=K x.av:=by
 have B:=b.1
 obtain⟨S1,a1,a2,a3⟩:=z8 (R:=R) (N:=N) n (by omega) (by omega)
 obtain⟨S2,i,j,k⟩:=z8 (R:=R) (N:=N) d (by omega) (by omega)
 have c:(Af n).length≤1:=Bp (by omega)
 have e:(Af d).length≤1:=Bp (by omega)
 let x:RatD:=⟨false,.of (Af n) false true,.of (Af d) false true⟩
 have s:x.ok:=⟨Ab _,Ab _⟩
 have hq:x.q=mkRat n d:=by
  show mkRat (Ao false (.of (Af n) false true)) (val (Af d))=_
  rw[wh,Ajt,Ac]
 have C:x.m≤1:=Nat.max_le.2 ⟨c,e⟩
 obtain⟨y,y1,y2⟩:=RP (R:=R) (N:=N) (x:=x) (o:=(true||(true||false))) s (b.le (by omega))
 rw[hq] at y1
 refine⟨y,y1,fun K=>?_⟩
 rw[CH];unfold AH
 show B3 N (n:Int) _=_
 rw[a3]
 show B3 N (d:Int) _=_
 rw[k,A5 a1 a2,A5 i j,RH];unfold gJ
 rw[vO,vO,Gn,Gc,show Nat.beq (List.length (B6 false (.of (Af n) false true))) 2=true by rfl,ct,Gn,Gc,show Nat.beq (List.length (B6 false (.of (Af d) false true))) 2=true by rfl,ct]
 have t:([(.bool false),(.imm (Aa (LS.of (Af d) false true).l) (LS.of (Af d) false true).l.length 1 false true)]:LA)=B6 false (.of (Af d) false true):=rfl
 rw[t,Iz (Fa _ _ _) (b.le (by rw[Aj7];omega)),wh,Ajt]
 have u:((d:Int).sign==0)=false:=by
  rw[beq_eq_false_iff_ne];intro h;have:=Int.sign_eq_zero_iff_zero.1 h;omega
 rw[u,cf]
 have v:([(.bool (!(false==false))),(.imm (Aa (LS.of (Af n) false true).l) (LS.of (Af n) false true).l.length 1 false true),(.imm (Aa (LS.of (Af d) false true).l) (LS.of (Af d) false true).l.length 1 false true)]:LA)=x.av:=rfl
 rw[v]
 refine Eq.trans (y2 _) ?_
 rfl
end
end Gx

namespace Gx
open Go Go.Proofs
section
variable {R:Type}
theorem Aju {N:Nat} {a b c d e f c' d':Int} {K:LA→O R}:bZ N [.int .i64 a,.int .i64 b,.int .i64 c,.int .i64 d] false [.int .i64 e,.int .i64 f,.int .i64 c',.int .i64 d'] false K=K [.int .i64 (IntKind.wrap .i64 (a+e)),.int .i64 (IntKind.wrap .i64 (b+f)),.int .i64 (IntKind.wrap .i64 (c+c')),.int .i64 (IntKind.wrap .i64 (d+d'))]:=by
 rw[l_];rfl
theorem Ajv {N:Nat} {a b c d e f c' d':Int} {K:LA→O R}:b6 N [.int .i64 a,.int .i64 b,.int .i64 c,.int .i64 d] false [.int .i64 e,.int .i64 f,.int .i64 c',.int .i64 d'] false K=K [.int .i64 (IntKind.wrap .i64 (a - e)),.int .i64 (IntKind.wrap .i64 (b - f)),.int .i64 (IntKind.wrap .i64 (c - c')),.int .i64 (IntKind.wrap .i64 (d - d'))]:=by
 rw[lj];rfl
theorem wO {P:Un} {p:Bool×Sy} {D7:Un} (h:H8 (P++p::D7)):H8 P∧p.2 ∈ IG:=⟨fun x b=>h x (by simp[b]),h p (by simp)⟩
theorem Ack {N:Nat} {P:Un} {s:Sy} (hP:H8 P) (j:s ∈ IG) (k:P.length≤100) {K:LA→O R}:bZ N (Hu P) false s.dims false K=K (Hu (P++[(false,s)])):=by
 have h:=A6 j
 have ba:=Eb (f:=Sy.a) (U:=P) fun p d=>(A6 (hP p d)).2.2.2.2.2.2.2.1
 have bb:=Eb (f:=Sy.b) (U:=P) fun p d=>(A6 (hP p d)).2.2.2.2.2.2.2.2.1
 have bc:=Eb (f:=Sy.c) (U:=P) fun p d=>(A6 (hP p d)).2.2.2.2.2.2.2.2.2.1
 have be:=Eb (f:=Sy.e) (U:=P) fun p d=>(A6 (hP p d)).2.2.2.2.2.2.2.2.2.2
 have i:∀ f:Sy→Int,ds f [(false,s)]=f s:=fun f=>by simp[ds]
 refine Aju.trans ?_
 unfold Hu
 rw[C6,C6,C6,C6,i,i,i,i,i64 (by omega),i64 (by omega),i64 (by omega),i64 (by omega)]
theorem Acl {N:Nat} {P:Un} {s:Sy} (hP:H8 P) (j:s ∈ IG) (k:P.length≤100) {K:LA→O R}:b6 N (Hu P) false s.dims false K=K (Hu (P++[(true,s)])):=by
 have h:=A6 j
 have ba:=Eb (f:=Sy.a) (U:=P) fun p d=>(A6 (hP p d)).2.2.2.2.2.2.2.1
 have bb:=Eb (f:=Sy.b) (U:=P) fun p d=>(A6 (hP p d)).2.2.2.2.2.2.2.2.1
 have bc:=Eb (f:=Sy.c) (U:=P) fun p d=>(A6 (hP p d)).2.2.2.2.2.2.2.2.2.1
 have be:=Eb (f:=Sy.e) (U:=P) fun p d=>(A6 (hP p d)).2.2.2.2.2.2.2.2.2.2
 have i:∀ f:Sy→Int,ds f [(true,s)]=-f s:=fun f=>by simp[ds]
 refine Ajv.trans ?_
 unfold Hu
 rw[C6,C6,C6,C6,i,i,i,i,i64 (by omega),i64 (by omega),i64 (by omega),i64 (by omega)];rfl
theorem XV {n d:Nat} (c:n≤1000) (e:1≤d) (b:d≤1000):qm (mkRat n d)≤1:=sF (by omega) (by omega) (by omega)
theorem Rr (P:Un) (p:Bool×Sy):Bv (P++[p])=Bv P*qD p:=by rw[wN];unfold Bv;rw[List.foldl_cons,List.foldl_nil,Rat.one_mul]
theorem Acm {N:Nat} {U:Un} (hU:H8 U) (C:U.length≤100) (l:fit 10000 N):∀ (D7 P:Un),P++D7=U→∀ (b:Nat) (d:RatD),D7.length<b→d.can (Bv P)→qm (Bv P)≤P.length+1 →
  ∃ x:RatD,x.can (Bv U)∧∀ K:LA→LA→Int→O R,Lm N K U.length (pc (uw U)) b (U.length:Int) (P.length:Int) d.av (Hu P)=K x.av (Hu U) 0:=by
 intro D7
 induction D7 with
 | nil =>
  intro P hP b d c i hq
  rw[List.append_nil] at hP
  subst hP
  cases b with
  | zero=>simp at c
  | succ b =>
   refine⟨d,i,fun K=>?_⟩
   rw[Lm];unfold Vx
   rw[BV (Nat.le_refl _),cf];rfl
 | cons p D7 t =>
  intro P hP b d c i hq
  obtain⟨o,s⟩:=p
  cases b with
  | zero=>simp at c
  | succ b =>
   have f:=wO (by rw[hP];exact hU:H8 (P++(o,s)::D7))
   have j:s ∈ IG:=f.2
   have u:=A6 j
   have hPl:P.length+D7.length+1=U.length:=by rw[←hP];simp;omega
   have hE:List.drop (0+((P.length:Int)).toNat*2) (pc (uw U))=.str s.w::.bool o::pc (uw D7):=by
    rw[Int.toNat_natCast,Nat.zero_add,←hP]
    unfold uw
    rw[List.map_append,Acj,show P.length*2=(pc (List.map (fun p:Bool×Sy=>(p.1,p.2.w)) P)).length by rw[Ae0,List.length_map],List.drop_left]
    rfl
   obtain⟨y,y1,y2⟩:=nd (R:=R) (N:=N) (n:=if o then s.d else s.n) (d:=if o then s.n else s.d) (by split<;>omega) (by split<;>omega) (by split<;>omega) (l.le (by omega))
   have e:mkRat ((if o then s.d else s.n:Nat):Int) (if o then s.n else s.d)=qD (o,s):=by cases o<;>rfl
   have v:qm (qD (o,s))≤1:=by rw[←e];exact XV (by split<;>omega) (by split<;>omega) (by split<;>omega)
   rw[e] at y1
   have A:d.m=qm (Bv P):=i.m
   have B:y.m=qm (qD (o,s)):=y1.m
   obtain⟨z,z1,z2⟩:=bU (R:=R) (N:=N) (x:=d) (y:=y) (o:=false) (o':=false) i.ok y1.ok (l.le (by omega))
   rw[i.q,y1.q,←Rr] at z1
   have k:qm (Bv (P++[(o,s)]))≤(P++[(o,s)]).length+1:=by
    rw[Rr,List.length_append,List.length_singleton]
    have:=bX (Bv P) (qD (o,s))
    omega
   obtain⟨x,x1,x2⟩:=t (P++[(o,s)]) (by rw[List.append_assoc];exact hP) b z (by simp at c;omega) z1 k
   refine⟨x,x1,fun K=>?_⟩
   rw[←x2 K,List.length_append,List.length_singleton,Lm];unfold Vx
   rw[T6 (show P.length<U.length by omega),ct,Fk (show P.length<U.length by omega),ct,hE,wS (by omega)]
   refine(Ae2 (N:=N) j).trans ?_
   cases o
   ·exact(Ack (N:=N) f.1 j (by omega)).trans ((y2 _).trans (z2 _))
   ·exact(Acl (N:=N) f.1 j (by omega)).trans ((y2 _).trans (z2 _))
end
end Gx

namespace Gx
open Go Go.Proofs
section
variable {R:Type}
theorem yf {l:List UInt8} {j:Nat} (h:j<l.length) {f:Int→O R}:Bw .u8 (List.drop (((j:Nat):Int).toNat*1) (Bj l)) f=f ((l[j].toNat:Nat):Int):=by
 rw[Nat.mul_one,Int.toNat_natCast]
 have e:List.drop j (Bj l)=.int .u8 ((l[j].toNat:Nat):Int)::Bj (List.drop (j+1) l):=by
  unfold Bj;rw[←List.map_drop,List.drop_eq_getElem_cons h];rfl
 rw[e];rfl
theorem Acn {i:Nat} (h:i<12):∃ s ∈ IG,∀ f:List UInt8→O R,Ag3 (List.drop (0+(((i:Nat):Int).toNat*1)) [(.str ([77,87]:List UInt8)),(.str ([104]:List UInt8)),(.str ([69,85,82]:List UInt8)),(.str ([71,87,104]:List UInt8)),(.str ([37]:List UInt8)),(.str ([109,105,110]:List UInt8)),(.str ([107,87]:List UInt8)),(.str ([112,117]:List UInt8)),(.str ([99,116]:List UInt8)),(.str ([109,114,97,100]:List UInt8)),(.str ([100]:List UInt8)),(.str ([107,69,85,82]:List UInt8))]) f=f s.w:=by
 have b:∀ (k:Nat) (c:k<IG.length),IG[k] ∈ IG:=fun k c=>List.getElem_mem c
 rcases i with _ | _ | _ | _ | _ | _ | _ | _ | _ | _ | _ | _ | i
 ·exact⟨_,b 1 (by decide),fun _=>rfl⟩
 ·exact⟨_,b 2 (by decide),fun _=>rfl⟩
 ·exact⟨_,b 3 (by decide),fun _=>rfl⟩
 ·exact⟨_,b 4 (by decide),fun _=>rfl⟩
 ·exact⟨_,b 5 (by decide),fun _=>rfl⟩
 ·exact⟨_,b 6 (by decide),fun _=>rfl⟩
 ·exact⟨_,b 7 (by decide),fun _=>rfl⟩
 ·exact⟨_,b 8 (by decide),fun _=>rfl⟩
 ·exact⟨_,b 9 (by decide),fun _=>rfl⟩
 ·exact⟨_,b 10 (by decide),fun _=>rfl⟩
 ·exact⟨_,b 11 (by decide),fun _=>rfl⟩
 ·exact⟨_,b 12 (by decide),fun _=>rfl⟩
 ·omega
theorem Aco {N i:Nat} {l:List UInt8} {t:List UInt8} (h:i+1<l.length) (y:i<12) (z:t.length≤1000):∃ (o:Bool) (s:Sy),s ∈ IG∧∀ (d:List UInt8→Int→O R) (K:List UInt8→O R),Kw N d K (Bj l) l.length false false t (i:Int)=d (t++(if o then 47 else 42)::s.w) ((i+2:Nat):Int):=by
 have A:=(l[i+1]).toNat_lt
 obtain⟨s,m,q⟩:=Acn (R:=R) (i:=(l[i+1]).toNat%12) (Nat.mod_lt _ (by omega))
 have u:=(A6 m).2.2.1
 refine⟨decide ((l[i]).toNat%2=1),s,m,fun d K=>?_⟩
 unfold Kw
 rw[Fk (show i<l.length by omega),ct,yf (show i<l.length by omega),ct,yf (show i<l.length by omega)]
 have v:IntKind.wrap .i64 ((i:Int)+1)=((i+1:Nat):Int):=wS (by omega)
 rw[v,Fk h,yf h]
 have f:IntKind.wrap .i64 (((l[i+1]).toNat:Nat):Int)=(((l[i+1]).toNat:Nat):Int):=i64 (by omega)
 rw[f,show Int.tmod ((((l[i+1]).toNat:Nat):Int)) 12=(((l[i+1]).toNat%12:Nat):Int) from rfl,Fk (show(l[i+1]).toNat%12<12 from Nat.mod_lt _ (by omega)),ct,ct]
 have n:Int.tmod ((l[i].toNat:Nat):Int) 2=(((l[i]).toNat%2:Nat):Int):=rfl
 have b:(l[i]).toNat%2=0∨(l[i]).toNat%2=1:=by omega
 have j:((decide (0≤(Int.tmod ((l[i].toNat:Nat):Int) 2)))&&((decide ((Int.tmod ((l[i].toNat:Nat):Int) 2)≤(IntKind.wrap .u8 ((Int.tmod ((l[i].toNat:Nat):Int) 2)+1))))&&((decide ((IntKind.wrap .u8 ((Int.tmod ((l[i].toNat:Nat):Int) 2)+1))≤2))&&(decide ((2:Int)≤(2:Int))))))=true:=by
  rw[n];rcases b with e | e<;>rw[e]<;>decide
 rw[j,ct]
 refine(q _).trans ?_
 rw[n]
 have k:IntKind.wrap .i64 ((i:Int)+2)=((i+2:Nat):Int):=by rw[i64 (by omega)];omega
 rw[k]
 have c:∀ x:UInt8,([x]++s.w:List UInt8)=x::s.w:=fun _=>rfl
 rcases b with e | e
 ·rw[e,show(List.take (((IntKind.wrap .u8 ((((0:Nat):Int))+1)).toNat) - ((((0:Nat):Int)).toNat)) (List.drop ((((0:Nat):Int)).toNat) ([42,47]:List UInt8)))=[42] by decide,c,Yp (by simp;omega),ct,Yp (by rw[List.length_cons];omega),ct];rfl
 ·rw[e,show(List.take (((IntKind.wrap .u8 ((((1:Nat):Int))+1)).toNat) - ((((1:Nat):Int)).toNat)) (List.drop ((((1:Nat):Int)).toNat) ([42,47]:List UInt8)))=[47] by decide,c,Yp (by simp;omega),ct,Yp (by rw[List.length_cons];omega),ct];rfl
end
end Gx

namespace Gx
open Go Go.Proofs
section
variable {R:Type}
def Kj:Sy:=⟨[77,87,104],1,1,1,1,0,0⟩
theorem AX:Kj ∈ IG:=by unfold IG Kj;exact List.mem_cons_self
def Hv (U:Un):List UInt8:=Kj.w++tl (uw U)
theorem Acp (A B:List (Bool×List UInt8)):tl (A++B)=tl A++tl B:=by unfold tl;rw[List.flatMap_append]
theorem Acq (A B:Un):uw (A++B)=uw A++uw B:=by unfold uw;rw[List.map_append]
theorem Acr (U:Un) (o:Bool) (s:Sy):Hv (U++[(o,s)])=Hv U++(if o then 47 else 42)::s.w:=by
 unfold Hv
 rw[Acq,Acp,←List.append_assoc]
 congr 1
 show tl [(o,s.w)]=_
 rw[gO];simp[tl]
theorem yg {U:Un} (h:H8 U):(tl (uw U)).length≤5*U.length:=by
 induction U with
 | nil=>simp[uw,tl]
 | cons p U b =>
  have d:=b fun x c=>h x (List.mem_cons_of_mem _ c)
  have f:=(A6 (h p (by simp))).2.2.1
  have e:uw (p::U)=(p.1,p.2.w)::uw U:=rfl
  rw[e,gO,List.length_cons,List.length_append,List.length_cons];omega
theorem IH {U:Un} (h:H8 U):(Hv U).length≤5*U.length+3:=by
 have:=yg h
 unfold Hv;rw[List.length_append]
 have:Kj.w.length=3:=rfl
 omega
theorem Af1 {N:Nat} {l:List UInt8}:∀ (b:Nat) (U:Un),H8 U→U.length≤6→7 - U.length<b→∃ V,H8 V∧V.length≤6∧∀ K:List UInt8→O R,Dn N K (Bj l) l.length false false b (Hv U) ((2*U.length:Nat):Int)=K (Hv V):=by
 intro b
 induction b with
 | zero=>intro U _ _ h;omega
 | succ b j =>
  intro U hU hU6 n
  have f:=IH hU
  by_cases d:2*U.length+1<l.length
  ·by_cases k:2*U.length<12
   ·obtain⟨o,s,m,e⟩:=Aco (R:=R) (N:=N) (i:=2*U.length) (l:=l) (t:=Hv U) d k (by omega)
    rw[←Acr,show 2*U.length+2=2*(U++[(o,s)]).length by rw[List.length_append,List.length_singleton];omega] at e
    obtain⟨V,v1,v2,v3⟩:=j (U++[(o,s)]) (fun x c=>by
     rcases List.mem_append.1 c with c | c
     ·exact hU x c
     ·rw[List.mem_singleton.1 c];exact m) (by rw[List.length_append,List.length_singleton];omega) (by rw[List.length_append,List.length_singleton];omega)
    refine⟨V,v1,v2,fun K=>?_⟩
    rw[Dn];unfold Ja
    rw[wS (by omega),T6 d,show(true==true)=true by rfl,ct,show cond true (decide (((2*U.length:Nat):Int)<12)) false=true by simp;omega,ct]
    exact(e _ _).trans (v3 K)
   ·refine⟨U,hU,hU6,fun K=>?_⟩
    rw[Dn];unfold Ja
    rw[wS (by omega),T6 d,show(true==true)=true by rfl,ct,show cond true (decide (((2*U.length:Nat):Int)<12)) false=false by simp;omega,cf]
  ·refine⟨U,hU,hU6,fun K=>?_⟩
   rw[Dn];unfold Ja
   rw[wS (by omega),BV (by omega),show(false==true)=false by rfl,cf]
theorem yh {N:Nat} {l:List UInt8} (hN:10≤N):∃ V,H8 V∧V.length≤6∧∀ K:List UInt8→O R,Oh N (Bj l) l.length false false K=K (Hv V):=by
 obtain⟨V,v1,v2,v3⟩:=Af1 (R:=R) (N:=N) (l:=l) N [] (fun _ h=>by cases h) (by simp) (by simp;omega)
 refine⟨V,v1,v2,fun K=>?_⟩
 rw[HZ];unfold Vu
 exact v3 K
theorem Ags {U:Un} (h:H8 U) (o:Bool) {s:Sy} (c:s ∈ IG):XU ((o,s.w)::uw U):=by
 intro p b
 rcases List.mem_cons.1 b with rfl | b
 ·exact⟨(A6 c).1,(A6 c).2.1⟩
 ·obtain⟨x,d,rfl⟩:=List.mem_map.1 b
  exact⟨(A6 (h x d)).1,(A6 (h x d)).2.1⟩
theorem KS {N:Nat} {s0:Sy} {U:Un} (c:s0 ∈ IG) (hU:H8 U) (s:U.length≤50) (l:fit 10000 N):(8<U.length+1∧∀ K:LA→LA→Int→O R,Ee N (s0.w++tl (uw U)) K=K [(.bool false),.nsl,.nsl] [(.int .i64 0),(.int .i64 0),(.int .i64 0),(.int .i64 0)] 8)∨(U.length+1≤8∧∃ x:RatD,x.can (Bv ((false,s0)::U))∧∀ K:LA→LA→Int→O R,Ee N (s0.w++tl (uw U)) K=K x.av (Hu ((false,s0)::U)) 0):=by
 have t:=l.1
 have m:(s0.w++tl (uw U)).length≤5*U.length+4:=by
  have u:=yg hU
  have y:=(A6 c).2.2.1
  rw[List.length_append];omega
 have b:=fun K:Nat→Int→LA→O R=>wM (R:=R) (N:=N) (w:=s0.w) (U:=uw U) (K:=K) (Ags hU false c) (by omega) (by omega)
 have e:(uw U).length=U.length:=by unfold uw;rw[List.length_map]
 rw[e] at b
 by_cases f:8<U.length+1
 ·left
  refine⟨f,fun K=>?_⟩
  rw[IB];unfold IA
  refine(b _).trans ?_
  rw[decide_eq_true f,ct];rfl
 ·right
  refine⟨by omega,?_⟩
  have i:H8 ((false,s0)::U):=fun x j=>by
   rcases List.mem_cons.1 j with rfl | j
   ·exact c
   ·exact hU x j
  obtain⟨d,n,q⟩:=nU (R:=R) (N:=N) (v:=1) (by omega) (by omega)
  have k:qm (Bv [])≤([]:Un).length+1:=by
   have:Bv []=((1:Int):Rat):=rfl
   rw[this,KJ]
   have:(Af (1:Int).natAbs).length=1:=Ah8
   rw[this];exact Nat.le_refl _
  obtain⟨x,x1,x2⟩:=Acm (R:=R) (N:=N) i (by rw[List.length_cons];omega) l ((false,s0)::U) [] rfl N d (by rw[List.length_cons];omega) n k
  refine⟨x,x1,fun K=>?_⟩
  rw[IB];unfold IA
  refine(b _).trans ?_
  rw[decide_eq_false f,cf,show((0:Int) != 0)=false by decide,cf,q,show((Nat.beq 0 0)&&((Nat.beq (d.av.length) 3)&&(Nat.beq 3 3)))=true by rfl,ct]
  exact x2 K
end
end Gx

namespace Gx
open Go Go.Proofs
section
variable {R:Type}
theorem mG {N:Nat} {U:Un} (hU:H8 U) (b:U.length≤50) (c:fit 10000 N):(8<U.length+1∧∀ K:LA→LA→Int→O R,Ee N (Hv U) K=K [(.bool false),.nsl,.nsl] [(.int .i64 0),(.int .i64 0),(.int .i64 0),(.int .i64 0)] 8)∨(U.length+1≤8∧∃ x:RatD,x.can (Bv ((false,Kj)::U))∧∀ K:LA→LA→Int→O R,Ee N (Hv U) K=K x.av (Hu ((false,Kj)::U)) 0):=KS AX hU b c
theorem XW {U:Un} (h:H8 U):qm (Bv U)≤U.length+1:=by
 have gen:∀ (V P:Un),H8 V→qm (Bv P)≤P.length+1→qm (Bv (P++V))≤(P++V).length+1:=by
  intro V
  induction V with
  | nil=>intro P _ hP;rw[List.append_nil];exact hP
  | cons p V b =>
   intro P hV hP
   have e:=A6 (hV p (by simp))
   have hq:qm (qD p)≤1:=by
    unfold qD;split
    ·exact XV (by omega) (by omega) (by omega)
    ·exact XV (by omega) (by omega) (by omega)
   have:=b (P++[p]) (fun x c=>hV x (List.mem_cons_of_mem _ c)) (by
    rw[Rr,List.length_append,List.length_singleton]
    have:=bX (Bv P) (qD p);omega)
   rw[List.append_assoc] at this;exact this
 have d:qm (Bv [])≤([]:Un).length+1:=by
  have:Bv []=((1:Int):Rat):=rfl
  rw[this,KJ]
  have:(Af (1:Int).natAbs).length=1:=Ah8
  rw[this];exact Nat.le_refl _
 exact gen U [] h d
theorem Agt {y:RatD} {q:Rat} (h:y.can q) (k:q≠0):(⟨y.neg,y.ds,y.ns⟩:RatD).q=q⁻¹:=by
 have m:=q.den_pos
 have t:q.num≠0:=fun e=>k (Rat.num_eq_zero.1 e)
 have hdR:(q.den:Rat)≠0:=Rat.ne_of_gt (Rat.natCast_pos.2 m)
 have n:=Afn q
 have s:(⟨y.neg,y.ds,y.ns⟩:RatD).q=mkRat (if q.num<0 then -(q.den:Int) else (q.den:Int)) q.num.natAbs:=by
  show mkRat (Ao y.neg y.ds) (val y.ns.l)=_
  unfold Ao
  rw[h.1,h.2.1,h.2.2,Ac,Ac]
  by_cases c:q.num<0
  ·rw[decide_eq_true c,if_pos c,if_pos rfl]
  ·rw[decide_eq_false c,if_neg c,if_neg (by simp)]
 have b:(q.num.natAbs:Rat)≠0:=Rat.ne_of_gt (Rat.natCast_pos.2 (by omega))
 have u:mkRat (if q.num<0 then -(q.den:Int) else (q.den:Int)) q.num.natAbs*q=1:=by
  rw[Rat.mkRat_eq_div]
  by_cases c:q.num<0
  ·rw[if_pos c]
   have f:(q.num.natAbs:Rat)=-(q.num:Rat):=by
    have i:(q.num.natAbs:Int)=-q.num:=by omega
    have d:((q.num.natAbs:Int):Rat)=((-q.num:Int):Rat):=by rw[i]
    rw[Rat.intCast_neg] at d
    exact d
   have j:((-(q.den:Int):Int):Rat)=-(q.den:Rat):=by rw[Rat.intCast_neg];rfl
   rw[j]
   rw[f] at b ⊢
   rw[Rat.div_def]
   have:=Rat.mul_inv_cancel _ b
   grind
  ·rw[if_neg c]
   have f:(q.num.natAbs:Rat)=(q.num:Rat):=by
    have i:(q.num.natAbs:Int)=q.num:=by omega
    have d:((q.num.natAbs:Int):Rat)=(q.num:Rat):=by rw[i]
    exact d
   have j:(((q.den:Int):Int):Rat)=(q.den:Rat):=rfl
   rw[j]
   rw[f] at b ⊢
   rw[Rat.div_def]
   have:=Rat.mul_inv_cancel _ b
   grind
 rw[s]
 have:=Rat.mul_inv_cancel q k
 grind
theorem qE {N:Nat} {x y:RatD} {p q:Rat} {o:Bool} (t:x.ok) (u:x.q=p) (b:y.can q) (k:q≠0) (n:fit (8*(x.m+y.m)+40) N):∃ d:RatD,d.can (p/q)∧∀ K:LA→Bool→O R,RO N x.av o y.av false K=K d.av true:=by
 let c:RatD:=⟨y.neg,.of y.ds.l false false,.of y.ns.l false false⟩
 have i:c.m=y.m:=by show max _ _=max _ _;exact Nat.max_comm _ _
 have j:c.q=q⁻¹:=Agt b k
 obtain⟨d,s,v⟩:=bU (R:=R) (N:=N) (x:=x) (y:=c) (o:=o) (o':=(false||(false||false))) t ⟨b.ok.2,b.ok.1⟩ (by rw[i];exact n)
 rw[j,u,←Rat.div_def] at s
 refine⟨d,s,fun K=>?_⟩
 have z:(q.num.sign==0)=false:=by
  rw[beq_eq_false_iff_ne];intro e
  exact k (Rat.num_eq_zero.1 (Int.sign_eq_zero_iff_zero.1 e))
 rw[lB];unfold ri
 rw[Tk,ct,I0,yQ b.ok (n.le (by omega)),b.q,z,cf,Tk,ct,I0]
 show Pa y.av _=_
 have A:∀ f:Bool→O R,Pa y.av f=f y.neg:=fun f=>rfl
 rw[A,bT,Afi]
 have e:([(.bool y.neg),(.imm (Aa y.ds.l) y.ds.l.length 1 false false),(.imm (Aa y.ns.l) y.ns.l.length 1 false false)]:LA)=c.av:=rfl
 rw[e,v];rfl
end
end Gx

namespace Gx
open Go Go.Proofs
section
variable {R:Type}
def DK (c:UInt8):Bool:=Ay c||(decide (c.toNat=45)||(decide (c.toNat=46)||decide (c.toNat=47)))
theorem Agu {a:Nat} {k:Nat}:(((a:Nat):Int)==(k:Int))=decide (a=k):=by
 rw[Bool.eq_iff_iff];simp;omega
theorem qF {N n:Nat} {b pre post:List UInt8} {c:UInt8} {K:Int→O R} (j:b=pre++c::post) (q:b.length≤1000000000) :
  Eg N K b (n+1) (pre.length:Int)=cond (DK c) (Eg N K b n ((pre.length+1:Nat):Int)) (Ef N K b N (pre.length:Int)):=by
 have f:pre.length<b.length:=by rw[j];simp
 have k:List.getD b ((pre.length:Int)).toNat 0=c:=by rw[Int.toNat_natCast,j];exact O3
 rw[Eg];unfold Wr
 dsimp only
 rw[k,T6 f,Fk f,wS (by omega),show(true==true)=true by rfl]
 simp only[ct,cc,Afz]
 rw[show((((c.toNat):Nat):Int)==45)=decide (c.toNat=45) from Agu,show((((c.toNat):Nat):Int)==46)=decide (c.toNat=46) from Agu,show((((c.toNat):Nat):Int)==47)=decide (c.toNat=47) from Agu]
 by_cases d:c.toNat=45
 ·rw[show DK c=true by simp[DK,d],show(decide ((((c.toNat):Nat):Int)≥48)==true)=false by simp;omega,decide_eq_true d];rfl
 ·by_cases e:c.toNat=46
  ·rw[show DK c=true by simp[DK,e],show(decide ((((c.toNat):Nat):Int)≥48)==true)=false by simp;omega,decide_eq_false d,decide_eq_true e];rfl
  ·by_cases i:c.toNat=47
   ·rw[show DK c=true by simp[DK,i],show(decide ((((c.toNat):Nat):Int)≥48)==true)=false by simp;omega,decide_eq_false d,decide_eq_false e,decide_eq_true i];rfl
   ·rw[decide_eq_false d,decide_eq_false e,decide_eq_false i]
    by_cases l:48≤c.toNat
    ·by_cases m:c.toNat≤57
     ·rw[show DK c=true by simp[DK,Ay];omega,show(decide ((((c.toNat):Nat):Int)≥48)==true)=true by simp;omega,show(decide ((((c.toNat):Nat):Int)≤57)==false)=false by simp;omega];rfl
     ·rw[show DK c=false by simp[DK,Ay];omega,show(decide ((((c.toNat):Nat):Int)≥48)==true)=true by simp;omega,show(decide ((((c.toNat):Nat):Int)≤57)==false)=true by simp;omega];rfl
    ·rw[show DK c=false by simp[DK,Ay];omega,show(decide ((((c.toNat):Nat):Int)≥48)==true)=false by simp;omega];rfl
theorem za {N:Nat} {b:List UInt8} {K:Int→O R} (e:b.length≤1000000000):∀ (w pre post:List UInt8) (n:Nat),b=pre++(w++post)→w.all DK=true →
  Eg N K b (n+w.length) (pre.length:Int)=Eg N K b n ((pre.length+w.length:Nat):Int)
 | [],pre,post,n,_,_=>rfl
 | c::w,pre,post,n,f,d=>by
  simp only[List.all_cons,Bool.and_eq_true] at d
  have i:=za (N:=N) (K:=K) e w (pre++[c]) post n (by rw[f];simp) d.2
  rw[List.length_append,List.length_singleton] at i
  rw[List.length_cons,←Nat.add_assoc,qF (c:=c) (post:=w++post) (by rw[f];simp) e,d.1,ct,i,Nat.add_assoc,Nat.add_comm 1]
theorem sP {N:Nat} {t post:List UInt8} {a:UInt8} {K:Int→O R} (q:t.all DK=true) (c:∃ r z,t=r++[z]∧z.toNat≠47) (s:DK a=false) (e:(t++a::post).length≤1000000000) (hN:t.length+5≤N):Rq N (t++a::post) K=K (t.length:Int):=by
 obtain⟨r,z,f,d⟩:=c
 have i:0<t.length:=by rw[f];simp
 rw[OW];unfold AW
 have k:=za (R:=R) (N:=N) (b:=t++a::post) (K:=K) e t [] (a::post) (N - t.length) (by simp) q
 rw[show N - t.length+t.length=N by omega,List.length_nil,Nat.zero_add] at k
 refine k.trans ?_
 obtain⟨n,u⟩:∃ n,N - t.length=n+1:=⟨N - t.length - 1,by omega⟩
 rw[u,qF (pre:=t) (post:=post) rfl e,s,cf]
 obtain⟨m,v⟩:∃ m,N=m+1:=⟨N - 1,by omega⟩
 have un:Ef N K (t++a::post) N (t.length:Int)=Kx N K (t++a::post) (Ef N K (t++a::post) m) (t.length:Int):=by
  have gen:∀ j,Ef N K (t++a::post) (j+1) (t.length:Int)=Kx N K (t++a::post) (Ef N K (t++a::post) j) (t.length:Int):=fun j=>by rw[Ef]
  have:=gen m
  rw[←v] at this;exact this
 rw[un];unfold Kx
 have l:(t++a::post).length=t.length+(post.length+1):=by simp
 have x:IntKind.wrap .i64 ((t.length:Int) - 1)=((t.length - 1:Nat):Int):=by rw[i64 (by omega)];omega
 have y:List.getD (t++a::post) (((t.length - 1:Nat):Int)).toNat 0=z:=by
  rw[Int.toNat_natCast,f,List.append_assoc,show(r++[z]).length - 1=r.length by simp]
  exact O3
 rw[x,y,show(decide ((t.length:Int)>0)==true)=true by simp;omega,ct,Fk (by omega),ct,cc,show((((z.toNat):Nat):Int)==47)=decide (z.toNat=47) from Agu,decide_eq_false d,cf]
theorem V0 {N:Nat} {t:List UInt8} {s0:Sy} {U:Un} {x:RatD} {q:Rat} (v:t.all DK=true) (b:∃ r z,t=r++[z]∧z.toNat≠47) (c:x.can q) (A:∀ K:LA→Int→O R,Ep N t K=K x.av 0) (f:s0 ∈ IG) (hU:H8 U) (hU8:U.length+1≤8) (D:t.length≤900000) (i:fit (8*qm q+1000000) N) :
  ∃ y:RatD,y.can (q*Bv ((false,s0)::U))∧∀ K:LA→LA→Int→O R,Jb N (t++32::(s0.w++tl (uw U))) K=K y.av (Hu ((false,s0)::U)) 0:=by
 have F:=i.1
 have B:(s0.w++tl (uw U)).length≤5*U.length+4:=by
  have G:=yg hU
  have I:=(A6 f).2.2.1
  rw[List.length_append];omega
 have u:0<s0.w.length:=List.length_pos_iff.2 (A6 f).1
 rcases KS (R:=R) (N:=N) f hU (by omega) (i.le (by omega)) with⟨L,_⟩ | ⟨_,g,j,C⟩
 ·omega
 have k:H8 ((false,s0)::U):=fun x c=>by
  rcases List.mem_cons.1 c with rfl | c
  ·exact f
  ·exact hU x c
 have n:=XW k
 rw[List.length_cons] at n
 obtain⟨y,y1,y2⟩:=bU (R:=R) (N:=N) (x:=x) (y:=g) (o:=false) (o':=false) c.ok j.ok (i.le (by rw[c.m,j.m];omega))
 rw[c.q,j.q] at y1
 refine⟨y,y1,fun K=>?_⟩
 have d:(t++32::(s0.w++tl (uw U))).length=t.length+((s0.w++tl (uw U)).length+1):=by rw[List.length_append,List.length_cons]
 have s:(s0.w++tl (uw U))≠[]:=by intro e;have:=congrArg List.length e;rw[List.length_append,List.length_nil] at this;omega
 rw[XS];unfold KR
 rw[sP v b (by decide) (by omega) (by omega)]
 rw[show((decide ((0:Int)≤(0:Int)))&&((decide (0≤(t.length:Int)))&&((decide ((t.length:Int)≤((((t++32::(s0.w++tl (uw U))).length):Nat):Int)))&&(decide (((((t++32::(s0.w++tl (uw U))).length):Nat):Int)≤((((t++32::(s0.w++tl (uw U))).length):Nat):Int))))))=true by simp;omega,ct]
 rw[Int.toNat_natCast,List.take_left,A,Aiv,ct,show((0:Int) != 0)=false by decide,cf]
 rw[show((decide (0≤(t.length:Int)))&&((decide ((t.length:Int)≤((((t++32::(s0.w++tl (uw U))).length):Nat):Int)))&&((decide (((((t++32::(s0.w++tl (uw U))).length):Nat):Int)≤((((t++32::(s0.w++tl (uw U))).length):Nat):Int)))&&(decide (((((t++32::(s0.w++tl (uw U))).length):Nat):Int)≤((((t++32::(s0.w++tl (uw U))).length):Nat):Int))))))=true by simp;omega,ct]
 rw[List.drop_left,List.take_of_length_le (l:=32::(s0.w++tl (uw U))) (by rw[d,List.length_cons];omega)]
 generalize s0.w++tl (uw U)=ut at *
 rw[show((32::ut:List UInt8)==[])=false by rfl,cf,show((32::ut:List UInt8)==[32])=false by rw[beq_eq_false_iff_ne];intro e;exact s (by simpa using e),cf]
 rw[show Aj 0 (32::ut).length=true by unfold Aj;simp,ct,show(((UInt8.toNat (List.getD (32::ut) 0 0):Nat):Int)==32)=true by rfl,ct]
 rw[show((decide ((0:Int)≤(1:Int)))&&((decide (1≤((((32::ut).length):Nat):Int)))&&((decide (((((32::ut).length):Nat):Int)≤((((32::ut).length):Nat):Int)))&&(decide (((((32::ut).length):Nat):Int)≤((((32::ut).length):Nat):Int))))))=true by simp;omega,ct]
 rw[show List.take ((32::ut).length - 1) (List.drop 1 (32::ut))=ut by simp]
 unfold Vy
 refine(C _).trans ?_
 rw[Aiv,ct]
 refine Eq.trans (y2 _) ?_
 rfl
end
end Gx

namespace Gx
open Go Go.Proofs
open IntKind (wrap)
set_option maxRecDepth 100000
noncomputable section
variable {R:Type} (N:Nat)
def AY (r0:Bool→O R):O R :=
 (Jb N ([49,46,53,32,71,87,104]:List UInt8) (fun c b e=>(cond ((Nat.beq 0 0)&&((Nat.beq (c.length) 3)&&(Nat.beq 3 3))) (cond ((Nat.beq (b.length) 4)&&((Nat.ble 4 4)&&(!false))) (IE N ([57,48,32,109,105,110]:List UInt8) ([104]:List UInt8) (fun d f=>(cond ((Nat.beq 0 0)&&((Nat.beq (d.length) 3)&&(Nat.beq 3 3))) (IE N ([51,32,77,87]:List UInt8) ([77,87,104]:List UInt8) (fun g i=>(cond ((Nat.beq 0 0)&&((Nat.beq (g.length) 3)&&(Nat.beq 3 3))) (cond ((e==0)==true) (cond (Nat.ble 3 (c.length)) (Gt N 1500 (fun l=>(Di N (c.take 3) false l false (fun m=>(cond ((cond true m false)==true) (cond (Nat.ble 4 ((setCells [(.int .i64 0),(.int .i64 0),(.int .i64 0),(.int .i64 0)] 0 b).length)) (cond ((Nat.ble 1 4)&&((Nat.beq (((setCells [(.int .i64 0),(.int .i64 0),(.int .i64 0),(.int .i64 0)] 0 b).take 4).length) 4)&&((Nat.beq 4 4)&&(true&&(!false))))) (Bw .i64 ((setCells [(.int .i64 0),(.int .i64 0),(.int .i64 0),(.int .i64 0)] 0 b).take 4) fun n=>(Bw .i64 (((setCells [(.int .i64 0),(.int .i64 0),(.int .i64 0),(.int .i64 0)] 0 b).take 4).drop 1) fun o=>(Bw .i64 (((setCells [(.int .i64 0),(.int .i64 0),(.int .i64 0),(.int .i64 0)] 0 b).take 4).drop 2) fun p=>(Bw .i64 (((setCells [(.int .i64 0),(.int .i64 0),(.int .i64 0),(.int .i64 0)] 0 b).take 4).drop 3) fun q=>(cond ((cond true ((n==1)&&((o==1)&&((p==0)&&((q==0)&&true)))) false)==true) (cond ((cond true (f==0) false)==true) (cond (Nat.ble 3 (d.length)) (E5 N 3 2 (fun r=>(Di N (d.take 3) false r false (fun s=>(cond ((cond true s false)==true) (r0 (cond true (i==15) false)) (r0 false)))))) none) (r0 false)) (r0 false)))))) none) none) (r0 false)))))) none) (r0 false)) none))) none))) none) none)))
def Er:=(Ag (@AY R)).1
theorem DL:@Er R=@AY R:=(Ag _).2
def nf:D8:=[(56,IC N),(57,wJ N),(94,GU N),(27,WB N),(59,pS N)]
def II (F:KF R):Bool→O R:=(fun t=>F (.bool t) [])
theorem IJ (F:KF R):Cd (nf N) C1 N 40 [] [] F=(Er N (II F)):=by
 rw[DL]
 kernel_rfl
def DM (a:LA) (h:Ah) (k:KF R):O R :=
 match a,h with
 | [],[]=>(Er N (II k))
 | _,_=>none
theorem IK:An N 40 @DM:=by
 intro R Q a h k j;unfold DM;split;exact As (IJ ..) (IJ ..) ⟨ID N,wK N,GV N,WC N,pT N,trivial⟩;exact Av
def mH:=At (IK N)
def mI:=Cg (IK N)
def RX (c:LA) (d:Bool) (b:List UInt8) (r0:List UInt8→Int→O R):O R :=
 (Ee N b (fun e l i=>(cond ((Nat.beq 0 0)&&((Nat.beq (e.length) 3)&&(Nat.beq 3 3))) (cond ((Nat.beq (l.length) 4)&&((Nat.ble 4 4)&&(!false))) (cond (i != 0) (r0 ([]:List UInt8) i) (cond (Nat.ble 3 (c.length)) (cond (Nat.ble 3 (e.length)) (RO N (c.take 3) d (e.take 3) false (fun f m=>(cond ((Nat.beq 0 0)&&((Nat.beq (f.length) 3)&&(Nat.beq 3 3))) (cond (!m) (r0 ([]:List UInt8) 5) (cond (Nat.ble 3 (f.length)) (J9 N (f.take 3) false (fun g=>(cond (Nat.ble ((g.length)+1) 140737488355328) (cond (Nat.ble ((List.length (g++([32]:List UInt8)))+(b.length)) 140737488355328) (r0 ((g++([32]:List UInt8))++b) 0) none) none))) none)) none))) none) none)) none) none)))
def Yu:=(Ag (@RX R)).1
theorem OY:@Yu R=@RX R:=(Ag _).2
def wQ:D8:=[(39,AT N),(118,pf N),(17,ff N)]
def XX (F:KF R):List UInt8→Int→O R:=(fun n o=>F (.tup [(.str n),(iv o)]) [])
theorem XY (c:LA) (d:Bool) (b:List UInt8) (F:KF R):Cd (wQ N) C1 N 55 [(.pagg c d),(.str b)] [] F=(Yu N c d b (XX F)):=by
 rw[OY]
 kernel_rfl
def OZ (a:LA) (h:Ah) (k:KF R):O R :=
 match a,h with
 | [(.pagg c d),(.str b)],[]=>(Yu N c d b (XX k))
 | _,_=>none
theorem XZ:An N 55 @OZ:=by
 intro R Q a h k j;unfold OZ;split;exact As (XY ..) (XY ..) ⟨AU N,pg N,fg N,trivial⟩;exact Av
def sQ:=At (XZ N)
def sR:=Cg (XZ N)
def Ky (N:Nat) (r0:Int→O R) (b:List UInt8) (k1:Int→O R) (d:Int):O R :=
 (cond ((decide (d>0))==true) (cond (Aj (wrap .i64 (d - 1)) (b.length)) (cond (cond true (((UInt8.toNat (List.getD b ((wrap .i64 (d - 1)).toNat) 0):Nat):Int)==47) false) (k1 (wrap .i64 (d - 1))) (r0 d)) none) (r0 d))
def Eh (r0:Int→O R) (b:List UInt8):Nat→Int→O R
 | 0,_=>none
 | n+1,d=>(Ky N r0 b (Eh r0 b n) d)
def Ws (N:Nat) (r0:Int→O R) (b:List UInt8) (k0:Int→O R) (q1:Int→O R) (c:Int):O R :=
 (cond ((decide (c<(((b.length):Nat):Int)))==true) (cond (Aj c (b.length)) (cond ((decide (((UInt8.toNat (List.getD b (c.toNat) 0):Nat):Int)≥48))==true) (cond (Aj c (b.length)) (cond ((cond true (decide (((UInt8.toNat (List.getD b (c.toNat) 0):Nat):Int)≤57)) false)==false) (cond (Aj c (b.length)) (cond ((cond false true (((UInt8.toNat (List.getD b (c.toNat) 0):Nat):Int)==45))==false) (cond (Aj c (b.length)) (cond ((cond false true (((UInt8.toNat (List.getD b (c.toNat) 0):Nat):Int)==46))==false) (cond (Aj c (b.length)) (cond (cond true (cond false true (((UInt8.toNat (List.getD b (c.toNat) 0):Nat):Int)==47)) false) (k0 (wrap .i64 (c+1))) (q1 c)) none) (k0 (wrap .i64 (c+1)))) none) (k0 (wrap .i64 (c+1)))) none) (k0 (wrap .i64 (c+1)))) none) (cond (Aj c (b.length)) (cond ((cond false true (((UInt8.toNat (List.getD b (c.toNat) 0):Nat):Int)==45))==false) (cond (Aj c (b.length)) (cond ((cond false true (((UInt8.toNat (List.getD b (c.toNat) 0):Nat):Int)==46))==false) (cond (Aj c (b.length)) (cond (cond true (cond false true (((UInt8.toNat (List.getD b (c.toNat) 0):Nat):Int)==47)) false) (k0 (wrap .i64 (c+1))) (q1 c)) none) (k0 (wrap .i64 (c+1)))) none) (k0 (wrap .i64 (c+1)))) none)) none) (q1 c))
def Ei (r0:Int→O R) (b:List UInt8):Nat→Int→O R
 | 0,_=>none
 | n+1,c=>(Ws N r0 b (Ei r0 b n) (fun d=>(Eh N r0 b N d)) c)
def AZ (N:Nat) (r0:Int→O R) (q0:Int→O R) (b:List UInt8):O R :=
 (q0 0)
def Rs:=(Ag (fun (N:Nat) (b:List UInt8) (r0:Int→O R)=>(AZ N r0 (fun c=>(Ei N r0 b N c)) b))).1
theorem O_ (b r0):(@Rs R N b r0)=(AZ N r0 (fun c=>(Ei N r0 b N c)) b):=by rw[Rs,(Ag _).2]
def X_:Hints:={ H:=(hS hL (hS hL (hS (hS (hP [0,3] hL) hL) (hS (hS (hP [0,3] hL) hL) hL)))) }
def YA (F:KF R):=Ov Tryz.f195 X_ [] [] N F
def Hf (F:KF R):Int→O R:=(fun e=>F (iv e) [])
def sS (b:List UInt8) (d:Int):St:=⟨[(0,(.str b)),(3,(iv d))],[]⟩
def sT (F:KF R):=YA N F [1,1,1,0,0] []
def sU (b:List UInt8) (c:Int):St:=⟨[(0,(.str b)),(3,(iv c))],[]⟩
def sV (F:KF R):=YA N F [1,1,0,0] []
theorem DN (F:KF R) (b:List UInt8):∀ (n:Nat) (d:Int),Au (sT N F) n (sS b d)=(Eh N (Hf F) b n d)
 | 0,_=>by kernel_rfl
 | n+1,d=>Eq.trans (by kernel_rfl) (Da (Ky N (Hf F) b · d) (funext fun d=>(DN F b n d)):_)
theorem DO (F:KF R) (b:List UInt8):∀ (n:Nat) (c:Int),Au (sV N F) n (sU b c)=(Ei N (Hf F) b n c)
 | 0,_=>by kernel_rfl
 | n+1,c=>Eq.trans (by kernel_rfl) (uB (Ws N (Hf F) b · · c) (funext fun c=>(DO F b n c)) (funext fun d=>(Ap ..).trans (DN N F b N d)):_)
theorem YB (b:List UInt8) (F:KF R):Cd [] X_ N 195 [(.str b)] [] F=(Rs N b (Hf F)):=by
 rw[O_]
 exact Eq.trans (by kernel_rfl) (Da (AZ N (Hf F) · b) (funext fun c=>(Ap ..).trans (DO N F b N c)):_)
def O' (a:LA) (h:Ah) (k:KF R):O R :=
 match a,h with
 | [(.str b)],[]=>(Rs N b (Hf k))
 | _,_=>none
theorem YC:An N 195 @O':=by
 intro R Q a h k j;unfold O';split;exact As (YB ..) (YB ..) trivial;exact Av
def sW:=At (YC N)
def sX:=Cg (YC N)
def O4 (N:Nat) (r0:Int→O R) (b:List UInt8) (c:Int) (k0:Int→O R) (d:Int):O R :=
 (cond (decide (d<(((b.length):Nat):Int))) (cond (Aj d (b.length)) (cond (((UInt8.toNat (List.getD b (d.toNat) 0):Nat):Int)==c) (r0 d) (k0 (wrap .i64 (d+1)))) none) (r0 (-1)))
def Hg (r0:Int→O R) (b:List UInt8) (c:Int):Nat→Int→O R
 | 0,_=>none
 | n+1,d=>(O4 N r0 b c (Hg r0 b c n) d)
def A_ (N:Nat) (r0:Int→O R) (q0:Int→O R) (b:List UInt8) (c:Int):O R :=
 (q0 0)
def L7:=(Ag (fun (N:Nat) (b:List UInt8) (c:Int) (r0:Int→O R)=>(A_ N r0 (fun d=>(Hg N r0 b c N d)) b c))).1
theorem PA (b c r0):(@L7 R N b c r0)=(A_ N r0 (fun d=>(Hg N r0 b c N d)) b c):=by rw[L7,(Ag _).2]
def YD:Hints:={ H:=(hS hL (hS (hS hL (hS (hP [0,1,5] hL) hL)) hL)) }
def sY (F:KF R):=Ov Tryz.f261 YD [] [] N F
def Nc (F:KF R):Int→O R:=(fun e=>F (iv e) [])
def sZ (b:List UInt8) (c d:Int):St:=⟨[(0,(.str b)),(1,(.int .u8 c)),(5,(iv d))],[]⟩
def s5 (F:KF R):=sY N F [1,0,1,0] []
theorem DP (F:KF R) (b:List UInt8) (c:Int):∀ (n:Nat) (d:Int),Au (s5 N F) n (sZ b c d)=(Hg N (Nc F) b c n d)
 | 0,_=>by kernel_rfl
 | n+1,d=>Eq.trans (by kernel_rfl) (Da (O4 N (Nc F) b c · d) (funext fun d=>(DP F b c n d)):_)
theorem YE (b:List UInt8) (c:Int) (F:KF R):Cd [] YD N 261 [(.str b),(.int .u8 c)] [] F=(L7 N b c (Nc F)):=by
 rw[PA]
 exact Eq.trans (by kernel_rfl) (Da (A_ N (Nc F) · b c) (funext fun d=>(Ap ..).trans (DP N F b c N d)):_)
def PB (a:LA) (h:Ah) (k:KF R):O R :=
 match a,h with
 | [(.str b),(.int .u8 c)],[]=>(L7 N b c (Nc k))
 | _,_=>none
theorem YF:An N 261 @PB:=by
 intro R Q a h k j;unfold PB;split;exact As (YE ..) (YE ..) trivial;exact Av
def YG:=At (YF N)
def YH:=Cg (YF N)
def V1 (N:Nat) (b:List UInt8) (r0:Bool→List UInt8→O R):O R :=
 (cond ((decide ((((b.length):Nat):Int)>0))==true) (cond (Aj 0 (b.length)) (cond (cond true (((UInt8.toNat (List.getD b 0 0):Nat):Int)==45) false) (cond ((decide ((0:Int)≤(1:Int)))&&((decide (1≤(((b.length):Nat):Int)))&&((decide ((((b.length):Nat):Int)≤(((b.length):Nat):Int)))&&(decide ((((b.length):Nat):Int)≤(((b.length):Nat):Int)))))) (r0 true (List.take ((b.length) - 1) (List.drop 1 b))) none) (r0 false b)) none) (r0 false b))
def F8:=(Ag (@V1 R)).1
theorem Tu:@F8 R=@V1 R:=(Ag _).2
def PC (F:KF R):Bool→List UInt8→O R:=(fun c d=>F (.tup [(.bool c),(.str d)]) [])
theorem PD (b:List UInt8) (F:KF R):Cd [] C1 N 260 [(.str b)] [] F=(F8 N b (PC F)):=by
 rw[Tu]
 kernel_rfl
def IL (a:LA) (h:Ah) (k:KF R):O R :=
 match a,h with
 | [(.str b)],[]=>(F8 N b (PC k))
 | _,_=>none
theorem PE:An N 260 @IL:=by
 intro R Q a h k j;unfold IL;split;exact As (PD ..) (PD ..) trivial;exact Av
def Wt:=At (PE N)
def Wu:=Cg (PE N)
def Ge (N:Nat) (r0:Bool→O R) (b:List UInt8) (k0:Int→O R) (c:Int):O R :=
 (cond (decide (c<(((b.length):Nat):Int))) (cond (Aj c (b.length)) (cond ((decide (((UInt8.toNat (List.getD b (c.toNat) 0):Nat):Int)<48))==false) (cond (Aj c (b.length)) (cond (cond false true (decide (((UInt8.toNat (List.getD b (c.toNat) 0):Nat):Int)>57))) (r0 false) (k0 (wrap .i64 (c+1)))) none) (r0 false)) none) (r0 (decide ((((b.length):Nat):Int)>0))))
def Cq (r0:Bool→O R) (b:List UInt8):Nat→Int→O R
 | 0,_=>none
 | n+1,c=>(Ge N r0 b (Cq r0 b n) c)
def Kb (N:Nat) (r0:Bool→O R) (q0:Int→O R) (b:List UInt8):O R :=
 (q0 0)
def D0:=(Ag (fun (N:Nat) (b:List UInt8) (r0:Bool→O R)=>(Kb N r0 (fun c=>(Cq N r0 b N c)) b))).1
theorem Qi (b r0):(@D0 R N b r0)=(Kb N r0 (fun c=>(Cq N r0 b N c)) b):=by rw[D0,(Ag _).2]
def RY (F:KF R):=Ov Tryz.f263 Agd [] [] N F
def Fb (F:KF R):Bool→O R:=(fun d=>F (.bool d) [])
def RZ (b:List UInt8) (c:Int):St:=⟨[(0,(.str b)),(3,(iv c))],[]⟩
def R_ (F:KF R):=RY N F [1,0,1,0] []
theorem Nk (F:KF R) (b:List UInt8):∀ (n:Nat) (c:Int),Au (R_ N F) n (RZ b c)=(Cq N (Fb F) b n c)
 | 0,_=>by kernel_rfl
 | n+1,c=>Eq.trans (by kernel_rfl) (Da (Ge N (Fb F) b · c) (funext fun c=>(Nk F b n c)):_)
theorem Tv (b:List UInt8) (F:KF R):Cd [] Agd N 263 [(.str b)] [] F=(D0 N b (Fb F)):=by
 rw[Qi]
 exact Eq.trans (by kernel_rfl) (Da (Kb N (Fb F) · b) (funext fun c=>(Ap ..).trans (Nk N F b N c)):_)
def Qj (a:LA) (h:Ah) (k:KF R):O R :=
 match a,h with
 | [(.str b)],[]=>(D0 N b (Fb k))
 | _,_=>none
theorem Tx:An N 263 @Qj:=by
 intro R Q a h k j;unfold Qj;split;exact As (Tv ..) (Tv ..) trivial;exact Av
def Ty:=At (Tx N)
def Tz:=Cg (Tx N)
def BA (b:List UInt8) (r0:Bool→O R):O R :=
 (D0 N b (fun c=>(cond (c==true) (cond (((((b.length):Nat):Int)==1)==false) (cond (Aj 0 (b.length)) (r0 (cond true (cond false true (((UInt8.toNat (List.getD b 0 0):Nat):Int) != 48)) false)) none) (r0 true)) (r0 false))))
def Jc:=(Ag (@BA R)).1
theorem DQ:@Jc R=@BA R:=(Ag _).2
def ng:D8:=[(263,Ty N)]
def IM (F:KF R):Bool→O R:=(fun d=>F (.bool d) [])
theorem IN (b:List UInt8) (F:KF R):Cd (ng N) C1 N 262 [(.str b)] [] F=(Jc N b (IM F)):=by
 rw[DQ]
 kernel_rfl
def DR (a:LA) (h:Ah) (k:KF R):O R :=
 match a,h with
 | [(.str b)],[]=>(Jc N b (IM k))
 | _,_=>none
theorem IP:An N 262 @DR:=by
 intro R Q a h k j;unfold DR;split;exact As (IN ..) (IN ..) ⟨Tz N,trivial⟩;exact Av
def T0:=At (IP N)
def T1:=Cg (IP N)
def IQ (b:List UInt8) (r0:Bool→O R):O R :=
 (F8 N b (fun d c=>(Jc N c (fun e=>(cond (e==true) (cond (d==true) (r0 (cond true (!(cond true (c==([48]:List UInt8)) false)) false)) (r0 true)) (r0 false))))))
def Ln:=(Ag (@IQ R)).1
theorem IR:@Ln R=@IQ R:=(Ag _).2
def s6:D8:=[(260,Wt N),(262,T0 N)]
def PF (F:KF R):Bool→O R:=(fun f=>F (.bool f) [])
theorem PG (b:List UInt8) (F:KF R):Cd (s6 N) C1 N 264 [(.str b)] [] F=(Ln N b (PF F)):=by
 rw[IR]
 kernel_rfl
def IS (a:LA) (h:Ah) (k:KF R):O R :=
 match a,h with
 | [(.str b)],[]=>(Ln N b (PF k))
 | _,_=>none
theorem PH:An N 264 @IS:=by
 intro R Q a h k j;unfold IS;split;exact As (PG ..) (PG ..) ⟨Wu N,T1 N,trivial⟩;exact Av
def Wv:=At (PH N)
def Ww:=Cg (PH N)
def O5 (b:List UInt8) (r0:Int→Bool→O R):O R :=
 (L7 N b 47 (fun c=>(cond ((decide (c≥0))==true) (cond ((decide ((0:Int)≤(0:Int)))&&((decide (0≤c))&&((decide (c≤(((b.length):Nat):Int)))&&(decide ((((b.length):Nat):Int)≤(((b.length):Nat):Int)))))) (Ln N (List.take (c.toNat) b) (fun d=>(cond ((cond true d false)==true) (cond ((decide (0≤(wrap .i64 (c+1))))&&((decide ((wrap .i64 (c+1))≤(((b.length):Nat):Int)))&&((decide ((((b.length):Nat):Int)≤(((b.length):Nat):Int)))&&(decide ((((b.length):Nat):Int)≤(((b.length):Nat):Int)))))) (Jc N (List.take ((b.length) - ((wrap .i64 (c+1)).toNat)) (List.drop ((wrap .i64 (c+1)).toNat) b)) (fun e=>(r0 c (cond true e false)))) none) (r0 c false)))) none) (r0 c false))))
def Kc:=(Ag (@O5 R)).1
theorem Oi:@Kc R=@O5 R:=(Ag _).2
def mJ:D8:=[(261,YG N),(264,Wv N),(262,T0 N)]
def DS (F:KF R):Int→Bool→O R:=(fun f g=>F (.tup [(iv f),(.bool g)]) [])
theorem DT (b:List UInt8) (F:KF R):Cd (mJ N) C1 N 259 [(.str b)] [] F=(Kc N b (DS F)):=by
 rw[Oi]
 kernel_rfl
def Yv (a:LA) (h:Ah) (k:KF R):O R :=
 match a,h with
 | [(.str b)],[]=>(Kc N b (DS k))
 | _,_=>none
theorem DU:An N 259 @Yv:=by
 intro R Q a h k j;unfold Yv;split;exact As (DT ..) (DT ..) ⟨YH N,Ww N,T1 N,trivial⟩;exact Av
def fh:=At (DU N)
def fi:=Cg (DU N)
def O6 (N:Nat) (r0:Int→O R) (b:List UInt8) (k0:Int→Int→O R) (d c:Int):O R :=
 (cond (decide (c<(((b.length):Nat):Int))) (cond (Aj c (b.length)) (cond ((decide (((UInt8.toNat (List.getD b (c.toNat) 0):Nat):Int)≥48))==true) (cond (Aj c (b.length)) (cond (cond true (decide (((UInt8.toNat (List.getD b (c.toNat) 0):Nat):Int)≤57)) false) (k0 (wrap .i64 (d+1)) (wrap .i64 (c+1))) (k0 d (wrap .i64 (c+1)))) none) (k0 d (wrap .i64 (c+1)))) none) (r0 d))
def Hh (r0:Int→O R) (b:List UInt8):Nat→Int→Int→O R
 | 0,_,_=>none
 | n+1,d,c=>(O6 N r0 b (Hh r0 b n) d c)
def BB (N:Nat) (r0:Int→O R) (q0:Int→Int→O R) (b:List UInt8):O R :=
 (q0 0 0)
def Oj:=(Ag (fun (N:Nat) (b:List UInt8) (r0:Int→O R)=>(BB N r0 (fun d c=>(Hh N r0 b N d c)) b))).1
theorem PI (b r0):(@Oj R N b r0)=(BB N r0 (fun d c=>(Hh N r0 b N d c)) b):=by rw[Oj,(Ag _).2]
def YI:Hints:={ H:=(hS hL (hS hL (hS (hS hL (hS (hP [0,3,4] hL) hL)) hL))) }
def s7 (F:KF R):=Ov Tryz.f265 YI [] [] N F
def Nd (F:KF R):Int→O R:=(fun e=>F (iv e) [])
def s8 (b:List UInt8) (d c:Int):St:=⟨[(0,(.str b)),(3,(iv d)),(4,(iv c))],[]⟩
def s9 (F:KF R):=s7 N F [1,1,0,1,0] []
theorem DV (F:KF R) (b:List UInt8):∀ (n:Nat) (d c:Int),Au (s9 N F) n (s8 b d c)=(Hh N (Nd F) b n d c)
 | 0,_,_=>by kernel_rfl
 | n+1,d,c=>Eq.trans (by kernel_rfl) (Da (O6 N (Nd F) b · d c) (funext fun d=>funext fun c=>(DV F b n d c)):_)
theorem YJ (b:List UInt8) (F:KF R):Cd [] YI N 265 [(.str b)] [] F=(Oj N b (Nd F)):=by
 rw[PI]
 exact Eq.trans (by kernel_rfl) (Da (BB N (Nd F) · b) (funext fun d=>funext fun c=>(Ap ..).trans (DV N F b N d c)):_)
def PJ (a:LA) (h:Ah) (k:KF R):O R :=
 match a,h with
 | [(.str b)],[]=>(Oj N b (Nd k))
 | _,_=>none
theorem YK:An N 265 @PJ:=by
 intro R Q a h k j;unfold PJ;split;exact As (YJ ..) (YJ ..) trivial;exact Av
def YL:=At (YK N)
def YM:=Cg (YK N)
def Nf (r0:LA→O R) (b:List UInt8) (k0:Int→LA→O R) (d:Int) (c:LA):O R :=
 (cond (decide (d<(((b.length):Nat):Int))) (cond (Nat.ble 2 (c.length)) (KM N (fun g=>(My N (c.take 2) false g false (fun i=>(cond (Aj d (b.length)) (B5 N (wrap .i64 (wrap .u8 (((UInt8.toNat (List.getD b (d.toNat) 0):Nat):Int) - 48))) (fun l=>(Qy N i false l false (fun e=>(cond ((Nat.beq (e.length) 2)&&((Nat.ble 2 (c.length))&&(!false))) (k0 (wrap .i64 (d+1)) (setCells c 0 e)) none))))) none))))) none) (cond (Nat.ble 2 (c.length)) (cond ((Nat.beq 0 0)&&((Nat.beq ((c.take 2).length) 2)&&(Nat.beq 2 2))) (cond (Nat.ble 2 ((c.take 2).length)) (r0 ((c.take 2).take 2)) none) none) none))
def F9 (r0:LA→O R) (b:List UInt8):Nat→Int→LA→O R
 | 0,_,_=>none
 | n+1,d,c=>(Nf N r0 b (F9 r0 b n) d c)
def V3 (r0:LA→O R) (q0:Int→LA→O R) (b:List UInt8):O R :=
 (B5 N 0 (fun f=>(cond ((Nat.beq 0 0)&&((Nat.beq (f.length) 2)&&(Nat.beq 2 2))) (q0 0 f) none)))
def Jd:=(Ag (fun (N:Nat) (b:List UInt8) (r0:LA→O R)=>(V3 N r0 (fun d c=>(F9 N r0 b N d c)) b))).1
theorem IT (b r0):(@Jd R N b r0)=(V3 N r0 (fun d c=>(F9 N r0 b N d c)) b):=by rw[Jd,(Ag _).2]
def PK:Hints:={ H:=(hS hL (hS hL (hS (hS hL (hS (hP [0,2,3,4] hL) hL)) hL))),modes:=[(3,0)] }
def YN:D8:=[(32,E2 N),(142,l8 N),(95,AC N),(139,RI N)]
def nh (F:KF R):=Ov Tryz.f267 PK (YN N) [] N F
def Kz (F:KF R):LA→O R:=(fun m=>F (.pagg m false) [])
def ni (b:List UInt8) (d:Int) (c:LA):St:=⟨[(0,(.str b)),(2,(op 0)),(3,(op 1)),(4,(iv d))],(hq [(bN 0 [(.bool false),.nsl]),(bQ 0 c)])⟩
def nk (F:KF R):=nh N F [1,1,0,1,0] []
theorem Yw (F:KF R) (b:List UInt8):∀ (n:Nat) (d:Int) (c:LA),Au (nk N F) n (ni b d c)=(F9 N (Kz F) b n d c)
 | 0,_,_=>by kernel_rfl
 | n+1,d,c=>Eq.trans (by kernel_rfl) (Da (Nf N (Kz F) b · d c) (funext fun d=>funext fun c=>(Yw F b n d c)):_)
theorem PL (b:List UInt8) (F:KF R):Cd (YN N) PK N 267 [(.str b)] [] F=(Jd N b (Kz F)):=by
 rw[IT]
 exact Eq.trans (by kernel_rfl) (Da (V3 N (Kz F) · b) (funext fun d=>funext fun c=>(Ap ..).trans (Yw N F b N d c)):_)
def IU (a:LA) (h:Ah) (k:KF R):O R :=
 match a,h with
 | [(.str b)],[]=>(Jd N b (Kz k))
 | _,_=>none
theorem PM:An N 267 @IU:=by
 intro R Q a h k j;unfold IU;split;exact As (PL ..) (PL ..) ⟨E3 N,l9 N,AD N,RK N,trivial⟩;exact Av
def PN:=At (PM N)
def PO:=Cg (PM N)
def Wx (b:List UInt8) (r0:LA→Int→O R):O R :=
 (Ln N b (fun d=>(cond (!d) (r0 [(.bool false),.nsl] 2) (Oj N b (fun e=>(cond (decide (e>4096)) (r0 [(.bool false),.nsl] 8) (F8 N b (fun f g=>(Jd N g (fun i=>(Kk 1 (i.drop 1) fun l m=>(Dc N f l m false false (fun c=>(cond ((Nat.beq 0 0)&&((Nat.beq (c.length) 2)&&(Nat.beq 2 2))) (cond (Nat.ble 2 (c.length)) (r0 (c.take 2) 0) none) none))))))))))))))
def Kd:=(Ag (@Wx R)).1
theorem Yx:@Kd R=@Wx R:=(Ag _).2
def mK:D8:=[(264,Wv N),(265,YL N),(260,Wt N),(267,PN N),(83,Em N)]
def DW (F:KF R):LA→Int→O R:=(fun n o=>F (.tup [(.pagg n false),(iv o)]) [])
theorem DX (b:List UInt8) (F:KF R):Cd (mK N) oO N 266 [(.str b)] [] F=(Kd N b (DW F)):=by
 rw[Yx]
 kernel_rfl
def Yy (a:LA) (h:Ah) (k:KF R):O R :=
 match a,h with
 | [(.str b)],[]=>(Kd N b (DW k))
 | _,_=>none
theorem DY:An N 266 @Yy:=by
 intro R Q a h k j;unfold Yy;split;exact As (DX ..) (DX ..) ⟨Ww N,YM N,Wu N,PO N,En N,trivial⟩;exact Av
def fj:=At (DY N)
def fk:=Cg (DY N)
end
end Gx

namespace Gx
open Go Go.Proofs
section
variable {R:Type}
def wR (A B:Un):Bool:=(ds Sy.a A==ds Sy.a B)&&((ds Sy.b A==ds Sy.b B)&&((ds Sy.c A==ds Sy.c B)&&((ds Sy.e A==ds Sy.e B)&&true)))
theorem wT {N:Nat} {d e:List UInt8} {y g:RatD} {p q:Rat} {A B:Un} (c:∀ K:LA→LA→Int→O R,Jb N d K=K y.av (Hu A) 0) (f:∀ K:LA→LA→Int→O R,Ee N e K=K g.av (Hu B) 0) (b:y.can p) (i:g.can q) (j:q≠0) (k:wR A B=true) (l:fit (8*(y.m+g.m)+40) N) :
  ∃ x:RatD,x.can (p/q)∧∀ K:LA→Int→O R,IE N d e K=K x.av 0:=by
 obtain⟨x,x1,x2⟩:=qE (R:=R) (N:=N) (x:=y) (y:=g) (p:=p) (q:=q) (o:=false) b.ok b.q i j l
 refine⟨x,x1,fun K=>?_⟩
 rw[b9];unfold sO
 refine(c _).trans ?_
 show Ee N e _=_
 refine(f _).trans ?_
 show cond (!(wR A B)) _ _=_
 rw[k]
 exact x2 _
theorem Acs {N:Nat} {d e:List UInt8} {y g:RatD} {A B:Un} (b:∀ K:LA→LA→Int→O R,Jb N d K=K y.av (Hu A) 0) (c:∀ K:LA→LA→Int→O R,Ee N e K=K g.av (Hu B) 0) (f:wR A B=false) (K:LA→Int→O R):IE N d e K=K [(.bool false),.nsl,.nsl] 15:=by
 rw[b9];unfold sO
 refine(b _).trans ?_
 show Ee N e _=_
 refine(c _).trans ?_
 show cond (!(wR A B)) _ _=_
 rw[f];rfl
theorem qG {N:Nat} {t:List UInt8} (b:Yh t=true) (e:Wj t≤4096) (c:fit (8*(2*t.length+1)+60) N):∃ x:RatD,x.can (mkRat (I9 t) 1)∧∀ K:LA→Int→O R,Ep N t K=K x.av 0:=by
 have f:=c.1
 obtain⟨x,x1,x2⟩:=AQ (R:=R) (N:=N) (s:=t) (n:=t) (d:=[49]) (fun K=>qA b (by omega)) (Ka b) (by decide) (by decide) (lm (Ka b)) (c.le (by rw[List.length_singleton];omega))
 rw[show Bx [49]=1 by decide] at x1
 exact⟨x,x1,fun K=>by rw[x2,if_neg (by omega)]⟩
def Ajw:Sy:=⟨[71,87,104],1000,1,1,1,0,0⟩
def Aix:Sy:=⟨[109,105,110],1,60,0,1,0,0⟩
def sh:Sy:=⟨[104],1,1,0,1,0,0⟩
def Ajx:Sy:=⟨[77,87],1,1,1,0,0,0⟩
theorem Ahw:Ajw ∈ IG:=List.getElem_mem (l:=IG) (n:=4) (by decide)
theorem Af2:Aix ∈ IG:=List.getElem_mem (l:=IG) (n:=6) (by decide)
theorem Aiy:sh ∈ IG:=List.getElem_mem (l:=IG) (n:=2) (by decide)
theorem Ahx:Ajx ∈ IG:=List.getElem_mem (l:=IG) (n:=1) (by decide)
theorem mL:H8 []:=fun _ h=>by cases h
theorem mM (s:Sy):Bv [(false,s)]=mkRat s.n s.d:=by
 show 1*qD (false,s)=_
 rw[Rat.one_mul];rfl
theorem Af3 {N:Nat} {K:Bool→O R} (f:fit 2000000 N):Er N K=K true:=by
 have G:=f.1
 obtain⟨x,x1,x2⟩:=AQ (R:=R) (N:=N) (s:=[49,46,53]) (n:=[49,53]) (d:=[49,48]) (fun K=>Ach (e:=false) (d:=[49]) (c:=[53]) (by decide) (by decide) (by decide) (by simp;omega)) (by decide) (by decide) (by decide) (by decide) (f.le (by decide))
 have l:∀ K:LA→Int→O R,Ep N [49,46,53] K=K x.av 0:=fun K=>by rw[x2,show Wj [49,46,53]=2 by decide,if_neg (by omega)]
 have qx:mkRat (I9 [49,53]) (Bx [49,48])=mkRat 3 2:=by decide
 rw[qx] at x1
 have mx:qm (mkRat 3 2)≤1:=sF (by decide) (by decide) (by decide)
 obtain⟨y,y1,y2⟩:=V0 (R:=R) (N:=N) (t:=[49,46,53]) (s0:=Ajw) (U:=[]) (by decide) ⟨[49,46],53,rfl,by decide⟩ x1 l Ahw mL (by decide) (by decide) (f.le (Nat.le_trans (Nat.add_le_add_right (Nat.mul_le_mul_left 8 mx) _) (by decide)))
 rw[mM] at y1
 have v1:mkRat 3 2*mkRat Ajw.n Ajw.d=((1500:Int):Rat):=by rw[Rat.mkRat_mul_mkRat];decide
 rw[v1] at y1
 obtain⟨a,a1,a2⟩:=qG (R:=R) (N:=N) (t:=[57,48]) (by decide) (by decide) (f.le (by decide))
 have ma:qm (mkRat (I9 [57,48]) 1)≤1:=sF (by decide) (by decide) (by decide)
 obtain⟨b,j,B⟩:=V0 (R:=R) (N:=N) (t:=[57,48]) (s0:=Aix) (U:=[]) (by decide) ⟨[57],48,rfl,by decide⟩ a1 a2 Af2 mL (by decide) (by decide) (f.le (Nat.le_trans (Nat.add_le_add_right (Nat.mul_le_mul_left 8 ma) _) (by decide)))
 rw[mM] at j
 have v2:mkRat (I9 [57,48]) 1*mkRat Aix.n Aix.d=mkRat 3 2:=by rw[Rat.mkRat_mul_mkRat];decide
 rw[v2] at j
 rcases KS (R:=R) (N:=N) (s0:=sh) Aiy mL (by decide) (f.le (by decide)) with⟨q,_⟩ | ⟨_,g,k,C⟩
 ·exact absurd q (by decide)
 rw[mM] at k
 have v3:mkRat sh.n sh.d=((1:Int):Rat):=by decide
 rw[v3] at k
 have mb:b.m≤1:=by rw[j.m];exact mx
 have mg:g.m≤1:=by rw[k.m,KJ,show(Af (1:Int).natAbs).length=1 from Ah8];exact Nat.le_refl _
 obtain⟨c,c1,D⟩:=wT (R:=R) (N:=N) (d:=[57,48,32,109,105,110]) (e:=[104]) B C j k (by decide) (by decide) (f.le (by omega))
 have v4:mkRat 3 2/((1:Int):Rat)=mkRat 3 2:=by
  have:((1:Int):Rat)=1:=rfl
  rw[this];grind
 rw[v4] at c1
 obtain⟨u,u1,u2⟩:=qG (R:=R) (N:=N) (t:=[51]) (by decide) (by decide) (f.le (by decide))
 have mu:qm (mkRat (I9 [51]) 1)≤1:=sF (by decide) (by decide) (by decide)
 obtain⟨w,I,F⟩:=V0 (R:=R) (N:=N) (t:=[51]) (s0:=Ajx) (U:=[]) (by decide) ⟨[],51,rfl,by decide⟩ u1 u2 Ahx mL (by decide) (by decide) (f.le (Nat.le_trans (Nat.add_le_add_right (Nat.mul_le_mul_left 8 mu) _) (by decide)))
 rcases KS (R:=R) (N:=N) (s0:=Kj) AX mL (by decide) (f.le (by decide)) with⟨q,_⟩ | ⟨_,v,_,z⟩
 ·exact absurd q (by decide)
 have A:=Acs (R:=R) (N:=N) (d:=[51,32,77,87]) (e:=[77,87,104]) F z (by decide)
 have i:qm ((1500:Int):Rat)≤2:=Ahm (by decide)
 have eq1:∀ K:Bool→O R,Di N y.av false (cq ((1500:Int):Rat)) false K=K true:=fun K=>by
  rw[XI y1 (f.le (Nat.le_trans i (by decide))),decide_eq_true rfl]
 have eq2:∀ K:Bool→O R,Di N c.av false (cq (mkRat 3 2)) false K=K true:=fun K=>by
  rw[XI c1 (f.le (Nat.le_trans mx (by decide))),decide_eq_true rfl]
 have of1:∀ K:LA→O R,E5 N 3 2 K=K (cq (mkRat 3 2)):=fun K=>Fs (by omega) (by omega) (by omega)
 have of2:∀ K:LA→O R,Gt N 1500 K=K (cq ((1500:Int):Rat)):=fun K=>HC (by omega) (by omega)
 rw[DL];unfold AY
 refine(y2 _).trans ?_
 show IE N _ _ _=_
 refine(D _).trans ?_
 show IE N _ _ _=_
 refine(A _).trans ?_
 show Gt N 1500 _=_
 rw[of2]
 show Di N y.av false _ false _=_
 rw[eq1]
 show E5 N 3 2 _=_
 rw[of1]
 show Di N c.av false _ false _=_
 rw[eq2];rfl
end
end Gx

namespace Gx
open Go Go.Proofs
section
variable {R:Type}
theorem Ajy {N:Nat} {a b c d e f c' d':Int} {K:LA→O R}:KN N [.int .i64 a,.int .i64 b,.int .i64 c,.int .i64 d] false [.int .i64 e,.int .i64 f,.int .i64 c',.int .i64 d'] false K=K [.int .i64 (IntKind.wrap .i64 (a+e)),.int .i64 (IntKind.wrap .i64 (b+f)),.int .i64 (IntKind.wrap .i64 (c+c')),.int .i64 (IntKind.wrap .i64 (d+d'))]:=by
 rw[e_];rfl
theorem Ajz {N:Nat} {a b c d e f c' d':Int} {K:LA→O R}:KP N [.int .i64 a,.int .i64 b,.int .i64 c,.int .i64 d] false [.int .i64 e,.int .i64 f,.int .i64 c',.int .i64 d'] false K=K [.int .i64 (IntKind.wrap .i64 (a - e)),.int .i64 (IntKind.wrap .i64 (b - f)),.int .i64 (IntKind.wrap .i64 (c - c')),.int .i64 (IntKind.wrap .i64 (d - d'))]:=by
 rw[ek];rfl
end
end Gx

namespace Gx
open Go Go.Proofs
section
variable {R:Type}
theorem yi (q:Rat):∀ c ∈ Bu q,c.toNat<128:=by
 have d:=lm (Ka (Gm q.num))
 have e:=b7 (Cs q.den)
 unfold Bu
 split
 ·exact d
 ·intro c b
  simp only[List.mem_append,List.mem_singleton] at b
  rcases b with(b | b) | b
  ·exact d c b
  ·subst b;decide
  ·exact e c b
theorem wU (q:Rat):(Bu q).length≤20*qm q+4:=by
 have b:=lZ q.num
 have c:=HW q.den
 have d:=yV q
 have e:=yW q
 unfold Bu
 split
 ·omega
 ·rw[List.length_append,List.length_append,List.length_singleton];omega
theorem yj {N:Nat} {q:Rat} (b:fit (400*qm q+400) N):∃ x:RatD,x.can q∧∀ K:LA→Int→O R,Ep N (Bu q) K=if 4096<Wj (Bu q) then K [(.bool false),.nsl,.nsl] 8 else K x.av 0:=by
 have j:=b.1;have k:=b.2
 have l:=lZ q.num
 have m:=HW q.den
 have t:=yV q
 have u:=yW q
 have c:=wU q
 by_cases h:q.den=1
 ·have e:Bu q=Ea q.num:=by unfold Bu;rw[if_pos h]
  rw[e] at c ⊢
  obtain⟨x,x1,x2⟩:=AQ (R:=R) (N:=N) (s:=Ea q.num) (n:=Ea q.num) (d:=[49]) (fun K=>qA (Gm _) (by omega)) (Ka (Gm _)) (by decide) (by decide) (lm (Ka (Gm _))) (b.le (by rw[List.length_singleton];omega))
  rw[eh,show Bx [49]=1 by decide] at x1
  have:mkRat q.num 1=q:=by
   have f:=Rat.mkRat_self q
   rw[h] at f;exact f
  rw[this] at x1
  exact⟨x,x1,x2⟩
 ·have e:Bu q=Ea q.num++47::Hx q.den:=by unfold Bu;rw[if_neg h,List.append_assoc];rfl
  have i:=yi q
  rw[e] at c i ⊢
  obtain⟨x,x1,x2⟩:=AQ (R:=R) (N:=N) (s:=Ea q.num++47::Hx q.den) (n:=Ea q.num) (d:=Hx q.den) (fun K=>y8 (Gm _) (Xh _) (by omega) (by omega)) (Ka (Gm _)) (Cs _) (by rw[D9];exact q.den_pos) i (b.le (by omega))
  rw[eh,D9,Rat.mkRat_self] at x1
  exact⟨x,x1,x2⟩
theorem s_ (s:List UInt8):Wj s≤s.length:=List.countP_le_length
end
end Gx

namespace Gx
open Go Go.Proofs
section
variable {R:Type}
theorem sa {n d:Nat} (b:1≤n) (c:1≤d):mkRat n d≠0:=by
 intro h
 have:=(Rat.mkRat_eq_zero (by omega)).1 h
 omega
theorem Ahy {p:Bool×Sy} (b:p.2 ∈ IG):qD p≠0:=by
 have h:=A6 b
 unfold qD
 split
 ·exact sa (by omega) (by omega)
 ·exact sa (by omega) (by omega)
theorem gP {U:Un} (h:H8 U):Bv U≠0:=by
 have gen:∀ (V:Un) (q:Rat),H8 V→q≠0→V.foldl (fun q p=>q*qD p) q≠0:=by
  intro V
  induction V with
  | nil=>intro q _ hq;exact hq
  | cons p V b =>
   intro q hV hq
   refine b _ (fun x c=>hV x (List.mem_cons_of_mem _ c)) ?_
   intro e
   rcases Rat.mul_eq_zero.1 e with e | e
   ·exact hq e
   ·exact Ahy (hV p (by simp)) e
 exact gen U 1 h (by decide)
theorem Af4 {c:UInt8} (h:Ay c=true):DK c=true:=by unfold DK;rw[h];rfl
theorem sb {s:List UInt8} (h:s.all Ay=true):s.all DK=true:=by
 rw[List.all_eq_true] at h ⊢;exact fun x b=>Af4 (h x b)
theorem wV (z:Int):(Ea z).all DK=true:=by
 unfold Ea K_
 split
 ·rw[List.all_cons,Bool.and_eq_true];exact⟨by decide,sb (Cs _)⟩
 ·exact sb (Cs _)
theorem wW (q:Rat):(Bu q).all DK=true:=by
 unfold Bu
 split
 ·exact wV _
 ·rw[List.all_append,List.all_append,wV,sb (Cs _)];decide
theorem wX (u:Nat):∃ r z,Hx u=r++[z]∧z.toNat≠47:=by
 have b:=Cs u
 refine⟨(Hx u).dropLast,(Hx u).getLast (Sa u),(List.dropLast_concat_getLast (Sa u)).symm,?_⟩
 have:=List.all_eq_true.1 b _ (List.getLast_mem (Sa u))
 simp[Ay] at this;omega
theorem qH (q:Rat):∃ r z,Bu q=r++[z]∧z.toNat≠47:=by
 unfold Bu
 split
 ·obtain⟨r,z,h,b⟩:=wX q.num.natAbs
  unfold Ea K_
  split
  ·exact⟨45::r,z,by rw[h];rfl,b⟩
  ·exact⟨r,z,h,b⟩
 ·obtain⟨r,z,h,b⟩:=wX q.den
  exact⟨Ea q.num++[47]++r,z,by rw[h,←List.append_assoc],b⟩
end
end Gx

namespace Gx
open Go Go.Proofs
section
variable {R:Type}
theorem sc {N:Nat} {x:RatD} {U:Un} {o:Bool} (n:x.ok) (hU:H8 U) (hU6:U.length≤6) (c:fit (100*x.m+20000) N):∀ K:List UInt8→Int→O R,Yu N x.av o (Hv U) K=K (Bu (x.q/Bv ((false,Kj)::U))++32::Hv U) 0:=by
 have C:=c.1;have D:=c.2
 have s:=IH hU
 have hA:H8 ((false,Kj)::U):=fun y i=>by
  rcases List.mem_cons.1 i with rfl | i
  ·exact AX
  ·exact hU y i
 rcases mG (R:=R) (N:=N) hU (by omega) (c.le (by omega)) with⟨F,_⟩ | ⟨_,g,b,t⟩
 ·omega
 have j:=XW hA
 rw[List.length_cons] at j
 have u:=eK x n
 obtain⟨d,f,v⟩:=qE (R:=R) (N:=N) (x:=x) (y:=g) (p:=x.q) (q:=Bv ((false,Kj)::U)) (o:=o) n rfl b (gP hA) (c.le (by rw[b.m];omega))
 have z:d.m≤x.m+20:=by
  rw[f.m,Rat.div_def]
  have G:=bX x.q (Bv ((false,Kj)::U))⁻¹
  have A:qm (Bv ((false,Kj)::U))⁻¹≤g.m+1:=by
   have e:=Agt b (gP hA)
   have k:(⟨g.neg,g.ds,g.ns⟩:RatD).ok:=⟨b.ok.2,b.ok.1⟩
   have:=eK ⟨g.neg,g.ds,g.ns⟩ k
   rw[e] at this
   have B:(⟨g.neg,g.ds,g.ns⟩:RatD).m=g.m:=by unfold RatD.m;exact Nat.max_comm _ _
   omega
  rw[b.m] at A
  omega
 intro K
 have l:=wU (x.q/Bv ((false,Kj)::U))
 rw[←f.m] at l
 rw[OY];unfold RX
 refine(t _).trans ?_
 show RO N x.av o g.av false _=_
 refine(v _).trans ?_
 show J9 N d.av false _=_
 rw[l0 f.ok (c.le (by omega)),f.q,Yp (by omega),ct,Yp (by rw[List.length_append,List.length_singleton];omega),ct,List.append_assoc];rfl
end
end Gx

namespace Gx
open Go Go.Proofs
section
variable {R:Type}
theorem mN {N n:Nat} {b pre post:List UInt8} {c:UInt8} {K:Int→O R} (j:b=pre++c::post) (q:b.length≤1000000000) :
  Ei N K b (n+1) (pre.length:Int)=cond (DK c) (Ei N K b n ((pre.length+1:Nat):Int)) (Eh N K b N (pre.length:Int)):=by
 have f:pre.length<b.length:=by rw[j];simp
 have k:List.getD b ((pre.length:Int)).toNat 0=c:=by rw[Int.toNat_natCast,j];exact O3
 rw[Ei];unfold Ws
 dsimp only
 rw[k,T6 f,Fk f,wS (by omega),show(true==true)=true by rfl]
 simp only[ct,cc,Afz]
 rw[show((((c.toNat):Nat):Int)==45)=decide (c.toNat=45) from Agu,show((((c.toNat):Nat):Int)==46)=decide (c.toNat=46) from Agu,show((((c.toNat):Nat):Int)==47)=decide (c.toNat=47) from Agu]
 by_cases d:c.toNat=45
 ·rw[show DK c=true by simp[DK,d],show(decide ((((c.toNat):Nat):Int)≥48)==true)=false by simp;omega,decide_eq_true d];rfl
 ·by_cases e:c.toNat=46
  ·rw[show DK c=true by simp[DK,e],show(decide ((((c.toNat):Nat):Int)≥48)==true)=false by simp;omega,decide_eq_false d,decide_eq_true e];rfl
  ·by_cases i:c.toNat=47
   ·rw[show DK c=true by simp[DK,i],show(decide ((((c.toNat):Nat):Int)≥48)==true)=false by simp;omega,decide_eq_false d,decide_eq_false e,decide_eq_true i];rfl
   ·rw[decide_eq_false d,decide_eq_false e,decide_eq_false i]
    by_cases l:48≤c.toNat
    ·by_cases m:c.toNat≤57
     ·rw[show DK c=true by simp[DK,Ay];omega,show(decide ((((c.toNat):Nat):Int)≥48)==true)=true by simp;omega,show(decide ((((c.toNat):Nat):Int)≤57)==false)=false by simp;omega];rfl
     ·rw[show DK c=false by simp[DK,Ay];omega,show(decide ((((c.toNat):Nat):Int)≥48)==true)=true by simp;omega,show(decide ((((c.toNat):Nat):Int)≤57)==false)=true by simp;omega];rfl
    ·rw[show DK c=false by simp[DK,Ay];omega,show(decide ((((c.toNat):Nat):Int)≥48)==true)=false by simp;omega];rfl
theorem wY {N:Nat} {b:List UInt8} {K:Int→O R} (e:b.length≤1000000000):∀ (w pre post:List UInt8) (n:Nat),b=pre++(w++post)→w.all DK=true →
  Ei N K b (n+w.length) (pre.length:Int)=Ei N K b n ((pre.length+w.length:Nat):Int)
 | [],pre,post,n,_,_=>rfl
 | c::w,pre,post,n,f,d=>by
  simp only[List.all_cons,Bool.and_eq_true] at d
  have i:=wY (N:=N) (K:=K) e w (pre++[c]) post n (by rw[f];simp) d.2
  rw[List.length_append,List.length_singleton] at i
  rw[List.length_cons,←Nat.add_assoc,mN (c:=c) (post:=w++post) (by rw[f];simp) e,d.1,ct,i,Nat.add_assoc,Nat.add_comm 1]
theorem wZ {N:Nat} {t post:List UInt8} {a:UInt8} {K:Int→O R} (q:t.all DK=true) (c:∃ r z,t=r++[z]∧z.toNat≠47) (s:DK a=false) (e:(t++a::post).length≤1000000000) (hN:t.length+5≤N):Rs N (t++a::post) K=K (t.length:Int):=by
 obtain⟨r,z,f,d⟩:=c
 have i:0<t.length:=by rw[f];simp
 rw[O_];unfold AZ
 have k:=wY (R:=R) (N:=N) (b:=t++a::post) (K:=K) e t [] (a::post) (N - t.length) (by simp) q
 rw[show N - t.length+t.length=N by omega,List.length_nil,Nat.zero_add] at k
 refine k.trans ?_
 obtain⟨n,u⟩:∃ n,N - t.length=n+1:=⟨N - t.length - 1,by omega⟩
 rw[u,mN (pre:=t) (post:=post) rfl e,s,cf]
 obtain⟨m,v⟩:∃ m,N=m+1:=⟨N - 1,by omega⟩
 have un:Eh N K (t++a::post) N (t.length:Int)=Ky N K (t++a::post) (Eh N K (t++a::post) m) (t.length:Int):=by
  have gen:∀ j,Eh N K (t++a::post) (j+1) (t.length:Int)=Ky N K (t++a::post) (Eh N K (t++a::post) j) (t.length:Int):=fun j=>by rw[Eh]
  have:=gen m
  rw[←v] at this;exact this
 rw[un];unfold Ky
 have l:(t++a::post).length=t.length+(post.length+1):=by simp
 have x:IntKind.wrap .i64 ((t.length:Int) - 1)=((t.length - 1:Nat):Int):=by rw[i64 (by omega)];omega
 have y:List.getD (t++a::post) (((t.length - 1:Nat):Int)).toNat 0=z:=by
  rw[Int.toNat_natCast,f,List.append_assoc,show(r++[z]).length - 1=r.length by simp]
  exact O3
 rw[x,y,show(decide ((t.length:Int)>0)==true)=true by simp;omega,ct,Fk (by omega),ct,cc,show((((z.toNat):Nat):Int)==47)=decide (z.toNat=47) from Agu,decide_eq_false d,cf]
end
end Gx

namespace Gx
open Go Go.Proofs
section
variable {R:Type}
theorem Af5 {s:List UInt8} {p:Nat} (h:p<s.length):List.getD s ((p:Int)).toNat 0=s[p]:=by
 rw[Int.toNat_natCast];simp[h]
theorem yk {N:Nat} {s:List UInt8} {K:Bool→O R} (j:s.length≤1000000000):∀ (m p b:Nat),p≤s.length→s.length - p=m→m<b→Cq N K s b (p:Int)=K ((s.drop p).all Ay&&!s.isEmpty):=by
 intro m
 induction m with
 | zero =>
  intro p b d e f
  cases b with
  | zero=>omega
  | succ b =>
   rw[Cq];unfold Ge
   rw[BV (by omega),cf,List.drop_eq_nil_of_le (by omega)]
   congr 1
   cases s with
   | nil=>rfl
   | cons a r=>simp
 | succ m i =>
  intro p b d e f
  cases b with
  | zero=>omega
  | succ b =>
   have c:p<s.length:=by omega
   rw[Cq];unfold Ge
   rw[T6 c,ct,Fk c,ct,Af5 c,List.drop_eq_getElem_cons c,List.all_cons,Afz,ct,wS (by omega)]
   by_cases k:s[p].toNat<48
   ·rw[show(decide (((s[p].toNat:Nat):Int)<48)==false)=false by simp;omega,cf,show Ay s[p]=false by simp[Ay];omega];rfl
   ·rw[show(decide (((s[p].toNat:Nat):Int)<48)==false)=true by simp;omega,ct]
    by_cases l:s[p].toNat>57
    ·rw[show decide (((s[p].toNat:Nat):Int)>57)=true by simp;omega,ct,show Ay s[p]=false by simp[Ay];omega];rfl
    ·rw[show decide (((s[p].toNat:Nat):Int)>57)=false by simp;omega,cf,show Ay s[p]=true by simp[Ay];omega,Bool.true_and]
     exact i (p+1) b (by omega) (by omega) (by omega)
theorem ym {N:Nat} {s:List UInt8} {K:Bool→O R} (b:s.length≤1000000000) (hN:s.length<N):D0 N s K=K (KW s):=by
 rw[Qi];unfold Kb
 exact yk b s.length 0 N (by omega) (by omega) hN
theorem Wy {N:Nat} {s:List UInt8} {K:Bool→O R} (i:s.length≤1000000000) (hN:s.length<N):Jc N s K=K (Cj s):=by
 rw[DQ];unfold BA
 rw[ym i hN]
 cases d:KW s with
 | false =>
  rw[show(false==true)=false by rfl,cf]
  unfold Cj;rw[d];rfl
 | true =>
  rw[show(true==true)=true by rfl,ct]
  unfold Cj
  rw[d,Bool.true_and]
  cases s with
  | nil=>simp[KW] at d
  | cons c r =>
   by_cases f:r=[]
   ·subst f
    rw[show(((([c]:List UInt8).length:Nat):Int)==1)=true by rfl,show(true==false)=false by rfl,cf]
    congr 1
    by_cases b:c=48
    ·subst b;rfl
    ·have:((some c:Option UInt8) != some 48)=true:=by rw[bne_iff_ne];simpa using b
     simp[b]
   ·have m:=List.length_pos_iff.2 f
    rw[show((((c::r:List UInt8).length:Nat):Int)==1)=false by rw[beq_eq_false_iff_ne,List.length_cons];omega,show(false==false)=true by rfl,ct,show Aj 0 (c::r).length=true by unfold Aj;simp,ct,cc,Afz]
    have j:((c::r:List UInt8)==[48])=false:=by rw[beq_eq_false_iff_ne];intro e;exact f (by simpa using(List.cons.inj e).2)
    rw[j,Bool.false_or]
    congr 1
    simp only[List.getD_cons_zero,List.head?_cons]
    by_cases b:c=48
    ·subst b;rfl
    ·have k:(((c.toNat:Nat):Int) != 48)=true:=by
      rw[bne_iff_ne];intro e
      apply b;apply UInt8.toNat_inj.1
      have:c.toNat=48:=by omega
      rw[this];rfl
     have l:((some c:Option UInt8) != some 48)=true:=by rw[bne_iff_ne];simpa using b
     rw[k,l]
theorem IV {N:Nat} {r:List UInt8} {K:Bool→List UInt8→O R}:F8 N (45::r) K=K true r:=by
 rw[Tu];unfold V1
 rw[show(decide (((((45::r:List UInt8).length):Nat):Int)>0)==true)=true by simp,ct,show Aj 0 (45::r:List UInt8).length=true by unfold Aj;simp,ct,show cond true (((UInt8.toNat (List.getD (45::r) 0 0):Nat):Int)==45) false=true by rfl,ct]
 rw[show((decide ((0:Int)≤(1:Int)))&&((decide (1≤((((45::r:List UInt8).length):Nat):Int)))&&((decide (((((45::r:List UInt8).length):Nat):Int)≤((((45::r:List UInt8).length):Nat):Int)))&&(decide (((((45::r:List UInt8).length):Nat):Int)≤((((45::r:List UInt8).length):Nat):Int))))))=true by simp;omega,ct]
 congr 1
 simp
theorem IW {N:Nat} {s:List UInt8} {K:Bool→List UInt8→O R} (h:s.head?≠some 45):F8 N s K=K false s:=by
 rw[Tu];unfold V1
 cases s with
 | nil=>rfl
 | cons c r =>
  have b:c.toNat≠45:=by
   intro e;apply h
   have:c=45:=UInt8.toNat_inj.1 (by rw[e];rfl)
   rw[this];rfl
  rw[show(decide (((((c::r:List UInt8).length):Nat):Int)>0)==true)=true by simp,ct,show Aj 0 (c::r:List UInt8).length=true by unfold Aj;simp,ct,show cond true (((UInt8.toNat (List.getD (c::r) 0 0):Nat):Int)==45) false=false by simp;omega,cf]
end
end Gx

namespace Gx
open Go Go.Proofs
section
variable {R:Type}
theorem Q7 {N:Nat} {s:List UInt8} {K:Bool→O R} (b:s.length≤1000000000) (hN:s.length<N):Ln N s K=K (Yh s):=by
 rw[IR];unfold IQ
 by_cases h:s.head?=some 45
 ·obtain⟨r,rfl⟩:∃ r,s=45::r:=by
   cases s with
   | nil=>simp at h
   | cons c r=>simp at h;exact⟨r,by rw[h]⟩
  rw[List.length_cons] at b hN
  rw[IV,Wy (by omega) (by omega)]
  show _=K (Cj r&&!(r==[48]))
  cases Cj r
  ·rfl
  ·rw[Bool.true_and];cases r==[48]<;>rfl
 ·rw[IW h,Wy b hN]
  have:Yh s=Cj s:=by
   unfold Yh
   split
   ·simp at h
   ·rfl
  rw[this]
  cases Cj s<;>rfl
theorem w5 {N:Nat} {s:List UInt8} {c:UInt8} {K:Int→O R} (n:s.length≤1000000000):∀ (m p b:Nat),p≤s.length→s.length - p=m→m<b→Hg N K s ((c.toNat:Nat):Int) b (p:Int)=K (if Lib.index (s.drop p) [c]=-1 then -1 else (p:Int)+Lib.index (s.drop p) [c]):=by
 intro m
 induction m with
 | zero =>
  intro p b i j k
  cases b with
  | zero=>omega
  | succ b =>
   rw[Hg];unfold O4
   rw[BV (by omega),cf,List.drop_eq_nil_of_le (by omega)];rfl
 | succ m l =>
  intro p b i j k
  cases b with
  | zero=>omega
  | succ b =>
   have d:p<s.length:=by omega
   rw[Hg];unfold O4
   rw[T6 d,ct,Fk d,ct,Af5 d,wS (by omega),List.drop_eq_getElem_cons d,AP]
   by_cases h:c=s[p]
   ·rw[if_pos h,show((((s[p].toNat):Nat):Int)==((c.toNat:Nat):Int))=true by rw[h];simp,ct,if_neg (by omega)];simp
   ·have q:c.toNat≠s[p].toNat:=fun e=>h (UInt8.toNat_inj.1 e)
    have t:=Lib.index_ge (s.drop (p+1)) [c]
    rw[if_neg h,show((((s[p].toNat):Nat):Int)==((c.toNat:Nat):Int))=false by rw[beq_eq_false_iff_ne];omega,cf,l (p+1) b (by omega) (by omega) (by omega)]
    by_cases f:Lib.index (s.drop (p+1)) [c]=-1
    ·rw[if_pos f,if_pos f,if_pos rfl]
    ·rw[if_neg f,if_neg f,if_neg (by omega)];congr 1;omega
theorem IX {N:Nat} {s:List UInt8} {c:UInt8} {K:Int→O R} (b:s.length≤1000000000) (hN:s.length<N):L7 N s ((c.toNat:Nat):Int) K=K (Lib.index s [c]):=by
 rw[PA];unfold A_
 refine(w5 b s.length 0 N (by omega) (by omega) hN).trans ?_
 rw[List.drop_zero]
 congr 1
 by_cases h:Lib.index s [c]=-1
 ·rw[if_pos h,h]
 ·rw[if_neg h];omega
theorem sd {N:Nat} {s:List UInt8} {K:Int→Bool→O R} (h:(47:UInt8) ∉ s) (b:s.length≤1000000000) (hN:s.length<N):Kc N s K=K (-1) false:=by
 have:=fun K=>IX (R:=R) (N:=N) (s:=s) (c:=47) (K:=K) b hN
 rw[Oi];unfold O5
 refine(this _).trans ?_
 rw[XH 47 s h];rfl
theorem nl {N:Nat} {a b:List UInt8} {K:Int→Bool→O R} (d:Yh a=true) (i:Cj b=true) (j:(a++47::b).length≤1000000000) (hN:(a++47::b).length<N):Kc N (a++47::b) K=K (a.length:Int) true:=by
 have:=fun K=>IX (R:=R) (N:=N) (s:=a++47::b) (c:=47) (K:=K) j hN
 have f:(a++47::b).length=a.length+(b.length+1):=by rw[List.length_append,List.length_cons]
 rw[Oi];unfold O5
 refine(this _).trans ?_
 rw[ln 47 b a (RV (by decide) (by decide) (Ka d))]
 rw[show(decide ((a.length:Int)≥0)==true)=true by simp,ct]
 rw[show((decide ((0:Int)≤(0:Int)))&&((decide (0≤(a.length:Int)))&&((decide ((a.length:Int)≤((((a++47::b).length):Nat):Int)))&&(decide (((((a++47::b).length):Nat):Int)≤((((a++47::b).length):Nat):Int))))))=true by simp;omega,ct]
 rw[Int.toNat_natCast,List.take_left,Q7 (by omega) (by omega),d,cc,show(true==true)=true by rfl,ct,wS (by omega)]
 rw[show((decide (0≤((a.length+1:Nat):Int)))&&((decide (((a.length+1:Nat):Int)≤((((a++47::b).length):Nat):Int)))&&((decide (((((a++47::b).length):Nat):Int)≤((((a++47::b).length):Nat):Int)))&&(decide (((((a++47::b).length):Nat):Int)≤((((a++47::b).length):Nat):Int))))))=true by simp;omega,ct]
 have e:List.take ((a++47::b).length - ((a.length+1:Nat):Int).toNat) (List.drop ((a.length+1:Nat):Int).toNat (a++47::b))=b:=by
  rw[Int.toNat_natCast,←List.drop_drop,List.drop_left,List.drop_succ_cons,List.drop_zero,List.take_of_length_le (by omega)]
 rw[e,Wy (by omega) (by omega),i,cc]
end
end Gx

namespace Gx
open Go Go.Proofs
section
variable {R:Type}
theorem Ajk {N:Nat} {K:LA→O R} (hN:2000≤N):KM N K=K (Bg 10):=by
 rw[eY];unfold l4
 rw[Eo (by omega) hN,Aeq,ct,f4,ct,Abx]
end
end Gx

namespace Gx
open Go Go.Proofs
section
variable {R:Type}
theorem w6 {N:Nat} {s:List UInt8} {K:Int→O R} (n:s.length≤1000000000):∀ (m p d b:Nat),p≤s.length→s.length - p=m→m<b→d≤p→Hh N K s b (d:Int) (p:Int)=K ((d+Wj (s.drop p):Nat):Int):=by
 intro m
 induction m with
 | zero =>
  intro p d b f i j k
  cases b with
  | zero=>omega
  | succ b =>
   rw[Hh];unfold O6
   rw[BV (by omega),cf,List.drop_eq_nil_of_le (by omega)];rfl
 | succ m e =>
  intro p d b f i j k
  cases b with
  | zero=>omega
  | succ b =>
   have c:p<s.length:=by omega
   have l:Wj (s[p]::s.drop (p+1))=Wj (s.drop (p+1))+(if Ay s[p] then 1 else 0):=by unfold Wj;rw[List.countP_cons]
   rw[Hh];unfold O6
   rw[T6 c,ct,Fk c,ct,Af5 c,List.drop_eq_getElem_cons c,l,cc,ct,wS (by omega),wS (by omega)]
   by_cases q:48≤s[p].toNat
   ·rw[show(decide (((s[p].toNat:Nat):Int)≥48)==true)=true by simp;omega,ct]
    by_cases t:s[p].toNat≤57
    ·rw[show decide (((s[p].toNat:Nat):Int)≤57)=true by simp;omega,ct,e (p+1) (d+1) b (by omega) (by omega) (by omega) (by omega),show Ay s[p]=true by simp[Ay];omega,if_pos rfl]
     congr 2;omega
    ·rw[show decide (((s[p].toNat:Nat):Int)≤57)=false by simp;omega,cf,e (p+1) d b (by omega) (by omega) (by omega) (by omega),show Ay s[p]=false by simp[Ay];omega];rfl
   ·rw[show(decide (((s[p].toNat:Nat):Int)≥48)==true)=false by simp;omega,cf,e (p+1) d b (by omega) (by omega) (by omega) (by omega),show Ay s[p]=false by simp[Ay];omega];rfl
theorem fB {N:Nat} {s:List UInt8} {K:Int→O R} (b:s.length≤1000000000) (hN:s.length<N):Oj N s K=K (Wj s:Int):=by
 rw[PI];unfold BB
 have:=w6 (R:=R) (N:=N) (s:=s) (K:=K) b s.length 0 0 N (by omega) (by omega) hN (by omega)
 rw[List.drop_zero,Nat.zero_add] at this
 exact this
theorem Acu {N:Nat} {s:List UInt8} {K:LA→O R} (j:s.all Ay=true) (i:fit (2*s.length+20) N):∀ (m p b:Nat),p≤s.length→s.length - p=m→m<b→F9 N K s b (p:Int) (Bg ((Bx (s.take p):Nat):Int))=K (Bg ((Bx s:Nat):Int)):=by
 have D:=i.1;have F:=i.2
 intro m
 induction m with
 | zero =>
  intro p b q t k
  cases b with
  | zero=>omega
  | succ b =>
   rw[F9];unfold Nf
   rw[BV (by omega),cf,List.take_of_length_le (by omega)];rfl
 | succ m u =>
  intro p b q t k
  cases b with
  | zero=>omega
  | succ b =>
   have c:p<s.length:=by omega
   have v:Ay s[p]=true:=List.all_eq_true.1 j _ (List.getElem_mem c)
   simp[Ay] at v
   have d:s.take (p+1)=s.take p++[s[p]]:=List.take_succ_eq_append_getElem c
   have e:Bx (s.take (p+1))=10*Bx (s.take p)+(s[p].toNat - 48):=by rw[d,Z']
   have l:(Af (Bx (s.take p))).length≤s.length+1:=by
    have y:=HY (K3 (s:=s.take p) (by rw[List.all_eq_true] at j ⊢;exact fun x z=>j x (List.mem_of_mem_take z)))
    rw[List.length_take] at y;omega
   have A:(Af (10:Int).natAbs).length≤1:=Bp (by decide)
   have n:(Af (((Bx (s.take p):Nat):Int)*10).natAbs).length≤s.length+2:=by
    refine Bp ?_
    rw[Int.natAbs_mul,Int.natAbs_natCast,Nat.pow_succ]
    exact Nat.mul_lt_mul_of_lt_of_lt (rj l) (by decide)
   have B:IntKind.wrap .i64 (IntKind.wrap .u8 (((s[p].toNat:Nat):Int) - 48))=((s[p].toNat - 48:Nat):Int):=by
    have:IntKind.wrap .u8 (((s[p].toNat:Nat):Int) - 48)=((s[p].toNat - 48:Nat):Int):=by
     rw[IntKind.wrap_u8];omega
    rw[this,i64 (by omega)]
   have C:(Af (((s[p].toNat - 48:Nat):Int)).natAbs).length≤1:=by rw[Int.natAbs_natCast];exact Bp (by omega)
   have f:((Bx (s.take p):Nat):Int)*10+((s[p].toNat - 48:Nat):Int)=((Bx (s.take (p+1)):Nat):Int):=by rw[e];omega
   rw[F9];unfold Nf
   rw[T6 c,ct,f4,ct,Ajk (by omega),Abx,Aep (i.le (by rw[Int.natAbs_natCast];omega)),Fk c,ct,Af5 c,B,Eo (by omega) (by omega),Ajh (i.le (by omega)),f,Aio,ct,Ail,wS (by omega)]
   exact u (p+1) b (by omega) (by omega) (by omega)
theorem qI {N:Nat} {s:List UInt8} {K:LA→O R} (c:s.all Ay=true) (b:fit (2*s.length+40) N):Jd N s K=K (Bg ((Bx s:Nat):Int)):=by
 have d:=b.1
 rw[IT];unfold V3
 rw[Eo (by omega) (by omega),Aeq,ct]
 exact Acu (R:=R) (N:=N) (s:=s) (K:=K) c (b.le (by omega)) s.length 0 N (by omega) (by omega) (by omega)
end
end Gx

namespace Gx
open Go Go.Proofs
open IntKind (wrap)
set_option maxRecDepth 100000
noncomputable section
variable {R:Type} (N:Nat)
def Yz (r0:LA→Int→O R) (e:Bool) (b:List UInt8) (c:Int) (k2:Int→LA→O R) (m:Int) (l:LA):O R :=
 (cond (decide (m<(((b.length):Nat):Int))) (cond (Nat.ble 2 (l.length)) (KM N (fun w=>(My N (l.take 2) false w false (fun u=>(cond ((Nat.beq (u.length) 2)&&((Nat.ble 2 (l.length))&&(!false))) (k2 (wrap .i64 (m+1)) (setCells l 0 u)) none))))) none) (cond ((decide ((0:Int)≤(0:Int)))&&((decide (0≤c))&&((decide (c≤(((b.length):Nat):Int)))&&(decide ((((b.length):Nat):Int)≤(((b.length):Nat):Int)))))) (cond ((decide (0≤(wrap .i64 (c+1))))&&((decide ((wrap .i64 (c+1))≤(((b.length):Nat):Int)))&&((decide ((((b.length):Nat):Int)≤(((b.length):Nat):Int)))&&(decide ((((b.length):Nat):Int)≤(((b.length):Nat):Int)))))) (cond (Nat.ble ((List.length (List.take (c.toNat) b))+(List.length (List.take ((b.length) - ((wrap .i64 (c+1)).toNat)) (List.drop ((wrap .i64 (c+1)).toNat) b)))) 140737488355328) (Jd N ((List.take (c.toNat) b)++(List.take ((b.length) - ((wrap .i64 (c+1)).toNat)) (List.drop ((wrap .i64 (c+1)).toNat) b))) (fun x=>(Kk 1 (x.drop 1) fun y z=>(Dc N e y z false false (fun aa=>(cond (Nat.ble 2 (l.length)) (Fq N aa false (l.take 2) false (fun p=>(cond ((Nat.beq 0 0)&&((Nat.beq (p.length) 3)&&(Nat.beq 3 3))) (cond (Nat.ble 3 (p.length)) (r0 (p.take 3) 0) none) none))) none)))))) none) none) none))
def P4 (r0:LA→Int→O R) (e:Bool) (b:List UInt8) (c:Int):Nat→Int→LA→O R
 | 0,_,_=>none
 | n+1,m,l=>(Yz N r0 e b c (P4 r0 e b c n) m l)
def Ke (r0:LA→Int→O R) (d:List UInt8) (f:Int) (g e:Bool) (b:List UInt8) (c:Int) (i:Bool) (q2:Int→LA→O R):O R :=
 (Oj N d (fun ab=>(cond (decide (ab>4096)) (r0 [(.bool false),.nsl,.nsl] 8) (cond g (cond ((decide ((0:Int)≤(0:Int)))&&((decide (0≤f))&&((decide (f≤(((d.length):Nat):Int)))&&(decide ((((d.length):Nat):Int)≤(((d.length):Nat):Int)))))) (Kd N (List.take (f.toNat) d) (fun q ai=>(cond ((Nat.beq 0 0)&&((Nat.beq (q.length) 2)&&(Nat.beq 2 2))) (cond ((decide (0≤(wrap .i64 (f+1))))&&((decide ((wrap .i64 (f+1))≤(((d.length):Nat):Int)))&&((decide ((((d.length):Nat):Int)≤(((d.length):Nat):Int)))&&(decide ((((d.length):Nat):Int)≤(((d.length):Nat):Int)))))) (Jd N (List.take ((d.length) - ((wrap .i64 (f+1)).toNat)) (List.drop ((wrap .i64 (f+1)).toNat) d)) (fun o=>(cond ((Nat.beq 0 0)&&((Nat.beq (o.length) 2)&&(Nat.beq 2 2))) (cond (Nat.ble 2 (o.length)) (Pe N (o.take 2) false (fun ac=>(cond (ac==0) (r0 [(.bool false),.nsl,.nsl] 5) (cond (Nat.ble 2 (q.length)) (cond (Nat.ble 2 (o.length)) (Fq N (q.take 2) false (o.take 2) false (fun r=>(cond ((Nat.beq 0 0)&&((Nat.beq (r.length) 3)&&(Nat.beq 3 3))) (cond (Nat.ble 3 (r.length)) (r0 (r.take 3) 0) none) none))) none) none)))) none) none))) none) none))) none) (cond i (B5 N 1 (fun v=>(cond ((Nat.beq 0 0)&&((Nat.beq (v.length) 2)&&(Nat.beq 2 2))) (q2 (wrap .i64 (c+1)) v) none))) (Kd N d (fun s aj=>(cond ((Nat.beq 0 0)&&((Nat.beq (s.length) 2)&&(Nat.beq 2 2))) (cond (Nat.ble 2 (s.length)) (Yd N (s.take 2) false (fun t=>(cond ((Nat.beq 0 0)&&((Nat.beq (t.length) 3)&&(Nat.beq 3 3))) (cond (Nat.ble 3 (t.length)) (r0 (t.take 3) 0) none) none))) none) none))))))))
def Lb (r0:LA→Int→O R) (d:List UInt8) (f:Int) (g e:Bool) (b:List UInt8) (c:Int) (i:Bool):O R:=(Ke N r0 d f g e b c i (fun m l=>(P4 N r0 e b c N m l)))
def Kf (r0:LA→Int→O R) (d:List UInt8) (f:Int) (g e:Bool) (b:List UInt8) (c:Int) (q1:O R) (i:Bool):O R :=
 (Ln N d (fun ad=>(cond ((!ad)==true) (cond ((cond true (!g) false)==true) (cond (cond true (!i) false) (r0 [(.bool false),.nsl,.nsl] 2) q1) q1) q1)))
def D1 (r0:LA→Int→O R) (d:List UInt8) (f:Int) (g e:Bool) (b:List UInt8) (c:Int) (i:Bool):O R:=(Kf N r0 d f g e b c (Lb N r0 d f g e b c i) i)
def K0 (r0:LA→Int→O R) (q0:Int→Bool→Bool→List UInt8→Int→Bool→O R) (d:List UInt8):O R :=
 (Kc N d (fun f g=>(F8 N d (fun e b=>(L7 N b 46 (fun c=>(cond ((decide (c≥0))==true) (cond ((decide ((0:Int)≤(0:Int)))&&((decide (0≤c))&&((decide (c≤(((b.length):Nat):Int)))&&(decide ((((b.length):Nat):Int)≤(((b.length):Nat):Int)))))) (Jc N (List.take (c.toNat) b) (fun ae=>(cond ((cond true ae false)==true) (cond ((decide (0≤(wrap .i64 (c+1))))&&((decide ((wrap .i64 (c+1))≤(((b.length):Nat):Int)))&&((decide ((((b.length):Nat):Int)≤(((b.length):Nat):Int)))&&(decide ((((b.length):Nat):Int)≤(((b.length):Nat):Int)))))) (D0 N (List.take ((b.length) - ((wrap .i64 (c+1)).toNat)) (List.drop ((wrap .i64 (c+1)).toNat) b)) (fun af=>(q0 f g e b c (cond true af false)))) none) (q0 f g e b c false)))) none) (q0 f g e b c false))))))))
def Kg:=(Ag (fun (N:Nat) (d:List UInt8) (r0:LA→Int→O R)=>(K0 N r0 (fun f g e b c i=>(D1 N r0 d f g e b c i)) d))).1
theorem Ok (d r0):(@Kg R N d r0)=(K0 N r0 (fun f g e b c i=>(D1 N r0 d f g e b c i)) d):=by rw[Kg,(Ag _).2]
def DZ:Hints:={ H:=(hS hL (hS hL (hS hL (hS hL (hJ [0,2,4,5,6,7,8,9] hL (hJ [0,2,4,5,6,7,8,9] hL (hS hL (hS (hS (hS hL (hS hL (hS hL (hS (hS hL (hS (hS hL (hS (hP [2,6,7,8,13,14] hL) hL)) hL)) hL)))) hL) hL)))))))),modes:=[(3,0),(0,0)] }
def IY:D8:=[(259,fh N),(260,Wt N),(261,YG N),(262,T0 N),(263,Ty N),(264,Wv N),(265,YL N),(266,fj N),(267,PN N),(138,GB N),(84,Iw N),(32,E2 N),(30,re N),(142,l8 N),(95,AC N),(83,Em N)]
def P5 (F:KF R):=Ov Tryz.f196 DZ (IY N) [] N F
def Cl (F:KF R):LA→Int→O R:=(fun ag ah=>F (.tup [(.pagg ag false),(iv ah)]) [])
def fl (e:Bool) (b:List UInt8) (c m:Int) (l:LA):St:=⟨[(2,(op 0)),(6,(.bool e)),(7,(.str b)),(8,(iv c)),(13,(op 1)),(14,(iv m))],(hq [(bN 0 [(.bool false),.nsl,.nsl]),(bQ 0 l)])⟩
def fm (F:KF R):=P5 N F [1,1,1,1,1,1,1,0,0,1,1,1,0,1,0,1,0] []
def fq (d:List UInt8) (f:Int) (g e:Bool) (b:List UInt8) (c:Int) (i:Bool):St:=⟨[(0,(.str d)),(2,(op 0)),(4,(iv f)),(5,(.bool g)),(6,(.bool e)),(7,(.str b)),(8,(iv c)),(9,(.bool i))],(hq [(bN 0 [(.bool false),.nsl,.nsl])])⟩
def ft (F:KF R):=P5 N F [1,1,1,1,1,1] []
def fu (d:List UInt8) (f:Int) (g e:Bool) (b:List UInt8) (c:Int) (i:Bool):St:=⟨[(0,(.str d)),(2,(op 0)),(4,(iv f)),(5,(.bool g)),(6,(.bool e)),(7,(.str b)),(8,(iv c)),(9,(.bool i))],(hq [(bN 0 [(.bool false),.nsl,.nsl])])⟩
def fv (F:KF R):=P5 N F [1,1,1,1,1] []
theorem T2 (F:KF R) (e:Bool) (b:List UInt8) (c:Int):∀ (n:Nat) (m:Int) (l:LA),Au (fm N F) n (fl e b c m l)=(P4 N (Cl F) e b c n m l)
 | 0,_,_=>by kernel_rfl
 | n+1,m,l=>Eq.trans (by kernel_rfl) (Da (Yz N (Cl F) e b c · m l) (funext fun m=>funext fun l=>(T2 F e b c n m l)):_)
theorem SA (F:KF R) (d:List UInt8) (f:Int) (g e:Bool) (b:List UInt8) (c:Int) (i:Bool):Cm (ft N F) (fq d f g e b c i)=(Lb N (Cl F) d f g e b c i):=by
 exact Eq.trans (by kernel_rfl) (Da (Ke N (Cl F) d f g e b c i ·) (funext fun m=>funext fun l=>(Ap ..).trans (T2 N F e b c N m l)):_)
theorem SB (F:KF R) (d:List UInt8) (f:Int) (g e:Bool) (b:List UInt8) (c:Int):∀ (i:Bool),Cm (fv N F) (fu d f g e b c i)=(D1 N (Cl F) d f g e b c i):=by
 intro i
 exact Eq.trans (by kernel_rfl) (Da (Kf N (Cl F) d f g e b c · i) ((A2 ..).trans (SA N F d f g e b c i)):_)
theorem D_ (d:List UInt8) (F:KF R):Cd (IY N) DZ N 196 [(.str d)] [] F=(Kg N d (Cl F)):=by
 rw[Ok]
 exact Eq.trans (by kernel_rfl) (Da (K0 N (Cl F) · d) (funext fun f=>funext fun g=>funext fun e=>funext fun b=>funext fun c=>funext fun i=>(A2 ..).trans (SB N F d f g e b c i)):_)
def Y0 (a:LA) (h:Ah) (k:KF R):O R :=
 match a,h with
 | [(.str d)],[]=>(Kg N d (Cl k))
 | _,_=>none
theorem EA:An N 196 @Y0:=by
 intro R Q a h k j;unfold Y0;split;exact As (D_ ..) (D_ ..) ⟨fi N,Wu N,YH N,T1 N,Tz N,Ww N,YM N,fk N,PO N,GC N,Ix N,E3 N,rf N,l9 N,AD N,En N,trivial⟩;exact Av
def fw:=At (EA N)
def fx:=Cg (EA N)
def Q8 (N:Nat) (k0:Nat→Int→LA→O R) (r0:Nat→Bool→LA→O R) (b:List UInt8) (o:Nat) (m:Int) (r:Bool) (q:LA):O R :=
 (cond r (cond (Aj (wrap .i64 (((o:Nat):Int) - 1)) o) (Ag3 (q.drop ((0+(((wrap .i64 (((o:Nat):Int) - 1)).toNat)*2))+1)) fun s=>(cond ((decide (0≤m))&&((decide (m≤(wrap .i64 (m+1))))&&((decide ((wrap .i64 (m+1))≤(((b.length):Nat):Int)))&&(decide ((((b.length):Nat):Int)≤(((b.length):Nat):Int)))))) (cond (Nat.ble ((s.length)+(List.length (List.take (((wrap .i64 (m+1)).toNat) - (m.toNat)) (List.drop (m.toNat) b)))) 140737488355328) (cond (Aj (wrap .i64 (((o:Nat):Int) - 1)) o) (cond ((Nat.beq 1 1)&&((Nat.ble (((0+(((wrap .i64 (((o:Nat):Int) - 1)).toNat)*2))+1)+1) (q.length))&&(!false))) (k0 o (wrap .i64 (m+1)) (q.set ((0+(((wrap .i64 (((o:Nat):Int) - 1)).toNat)*2))+1) (.str (s++(List.take (((wrap .i64 (m+1)).toNat) - (m.toNat)) (List.drop (m.toNat) b)))))) none) none) none) none)) none) (r0 0 false []))
def O7 (N:Nat) (k0:Nat→Int→LA→O R) (r0:Nat→Bool→LA→O R) (b:List UInt8) (q2:Nat→Int→Bool→LA→O R) (e:Nat) (l g:Int) (p:Bool) (i:LA):O R :=
 (cond p (cond (Aj (wrap .i64 (((e:Nat):Int) - 1)) e) (Ag3 (i.drop ((0+(((wrap .i64 (((e:Nat):Int) - 1)).toNat)*2))+1)) fun t=>(cond (t==([]:List UInt8)) (r0 0 false []) (cond ((Nat.ble (e+1) 140737488355328)&&(Nat.ble ((e+1)*24) 140737488355328)) (k0 (e+1) (wrap .i64 (l+1)) ((i.take (e*2))++[(.bool (g==47)),(.str ([]:List UInt8))])) none))) none) (cond ((decide (g≥97))==true) (cond ((cond true (decide (g≤122)) false)==false) (cond ((decide (g≥65))==true) (cond ((cond false true (cond true (decide (g≤90)) false))==false) (q2 e l (cond false true (g==37)) i) (q2 e l true i)) (q2 e l (cond false true (g==37)) i)) (q2 e l true i)) (cond ((decide (g≥65))==true) (cond ((cond false true (cond true (decide (g≤90)) false))==false) (q2 e l (cond false true (g==37)) i) (q2 e l true i)) (q2 e l (cond false true (g==37)) i))))
def Kh (k0:Nat→Int→LA→O R) (r0:Nat→Bool→LA→O R) (b:List UInt8) (e:Nat) (l g:Int) (p:Bool) (i:LA):O R:=(O7 N k0 r0 b (fun o m r q=>(Q8 N k0 r0 b o m r q)) e l g p i)
def K1 (N:Nat) (r0:Nat→Bool→LA→O R) (b:List UInt8) (k0:Nat→Int→LA→O R) (q1:Nat→Int→Int→Bool→LA→O R) (d:Nat) (c:Int) (f:LA):O R :=
 (cond (decide (c<(((b.length):Nat):Int))) (cond (Aj c (b.length)) (cond ((((UInt8.toNat (List.getD b (c.toNat) 0):Nat):Int)==42)==false) (q1 d c ((UInt8.toNat (List.getD b (c.toNat) 0):Nat):Int) (cond false true (((UInt8.toNat (List.getD b (c.toNat) 0):Nat):Int)==47)) f) (q1 d c ((UInt8.toNat (List.getD b (c.toNat) 0):Nat):Int) true f)) none) (cond (Aj (wrap .i64 (((d:Nat):Int) - 1)) d) (Ag3 (f.drop ((0+(((wrap .i64 (((d:Nat):Int) - 1)).toNat)*2))+1)) fun u=>(r0 d (!(u==([]:List UInt8))) f)) none))
def A7 (r0:Nat→Bool→LA→O R) (b:List UInt8):Nat→Nat→Int→LA→O R
 | 0,_,_,_=>none
 | n+1,d,c,f=>(K1 N r0 b (A7 r0 b n) (fun e l g p i=>(Kh N (A7 r0 b n) r0 b e l g p i)) d c f)
def BC (N:Nat) (r0:Nat→Bool→LA→O R) (q0:Nat→Int→LA→O R) (b:List UInt8):O R :=
 (q0 1 0 [(.bool false),(.str ([]:List UInt8))])
def Rt:=(Ag (fun (N:Nat) (b:List UInt8) (r0:Nat→Bool→LA→O R)=>(BC N r0 (fun d c f=>(A7 N r0 b N d c f)) b))).1
theorem PP (b r0):(@Rt R N b r0)=(BC N r0 (fun d c f=>(A7 N r0 b N d c f)) b):=by rw[Rt,(Ag _).2]
def YO:Hints:={ H:=(hS hL (hS hL (hS (hS hL (hS (hP [0,4,5] (hS hL (hS (hS (hS hL (hS (hJ [0,4,5,6,18] hL (hS hL (hJ [0,4,5,39] hL hL))) hL)) hL) hL))) hL)) hL))),nils:=[(2,2)],modes:=[(2,2),(0,0)] }
def BD (F:KF R):=Ov Tryz.f197 YO [] [] N F
def Ej (F:KF R):Nat→Bool→LA→O R:=(fun v w x=>F (.tup [(.own 300000 0 v),(.bool w)]) (hq [(bQ 2 x)]))
def se (b:List UInt8) (o:Nat) (m:Int) (r:Bool) (q:LA):St:=⟨[(0,(.str b)),(4,(.own 300000 0 o)),(5,(iv m)),(39,(.bool r))],(hq [(bQ 2 q)])⟩
def sf (F:KF R) (Q0:St→O R):=BD N F [1,1,0,1,0,0,1,0,0,1,0,1,1,1] [Q0]
def si (b:List UInt8) (e:Nat) (l g:Int) (p:Bool) (i:LA):St:=⟨[(0,(.str b)),(4,(.own 300000 0 e)),(5,(iv l)),(6,(.int .u8 g)),(18,(.bool p))],(hq [(bQ 2 i)])⟩
def sj (F:KF R) (Q0:St→O R):=BD N F [1,1,0,1,0,0,1,0,0,1,0,1] [Q0]
def Q9 (b:List UInt8) (d:Nat) (c:Int) (f:LA):St:=⟨[(0,(.str b)),(4,(.own 300000 0 d)),(5,(iv c))],(hq [(bQ 2 f)])⟩
def YP (F:KF R):=BD N F [1,1,0,1,0] []
theorem fy (Q0:St→O R) (F:KF R) (b:List UInt8):∀ (o:Nat) (m:Int) (r:Bool) (q:LA),Cm (sf N F Q0) (se b o m r q)=(Q8 N (fun d c f=>Q0 (Q9 b d c f)) (Ej F) b o m r q):=by
 intro o m r q
 kernel_rfl
theorem gA (Q0:St→O R) (F:KF R) (b:List UInt8):∀ (e:Nat) (l g:Int) (p:Bool) (i:LA),Cm (sj N F Q0) (si b e l g p i)=(Kh N (fun d c f=>Q0 (Q9 b d c f)) (Ej F) b e l g p i):=by
 intro e l g p i
 exact Eq.trans (by kernel_rfl) (Da (O7 N (fun d c f=>Q0 (Q9 b d c f)) (Ej F) b · e l g p i) (funext fun o=>funext fun m=>funext fun r=>funext fun q=>(A2 ..).trans (fy N Q0 F b o m r q)):_)
theorem EB (F:KF R) (b:List UInt8):∀ (n d:Nat) (c:Int) (f:LA),Au (YP N F) n (Q9 b d c f)=(A7 N (Ej F) b n d c f)
 | 0,_,_,_=>by kernel_rfl
 | n+1,d,c,f=>have e0:=(funext fun d=>funext fun c=>funext fun f=>(EB F b n d c f))
  Eq.trans (by kernel_rfl) (uB (K1 N (Ej F) b · · d c f) e0 (funext fun e=>funext fun l=>funext fun g=>funext fun p=>funext fun i=>(A2 ..).trans ((gA N (Au (YP N F) n) F b e l g p i).trans (Da (Kh N · (Ej F) b e l g p i) e0))):_)
theorem YQ (b:List UInt8) (F:KF R):Cd [] YO N 197 [(.str b)] [] F=(Rt N b (Ej F)):=by
 rw[PP]
 exact Eq.trans (by kernel_rfl) (Da (BC N (Ej F) · b) (funext fun d=>funext fun c=>funext fun f=>(Ap ..).trans (EB N F b N d c f)):_)
def PQ (a:LA) (h:Ah) (k:KF R):O R :=
 match a,h with
 | [(.str b)],[]=>(Rt N b (Ej k))
 | _,_=>none
theorem YR:An N 197 @PQ:=by
 intro R Q a h k j;unfold PQ;split;exact As (YQ ..) (YQ ..) trivial;exact Av
def sk:=At (YR N)
def sm:=Cg (YR N)
def IZ (b:List UInt8) (r0:LA→LA→Bool→O R):O R :=
 (cond (b==([107,87]:List UInt8)) (E5 N 1 1000 (fun c=>(cond ((Nat.beq 0 0)&&((Nat.beq (c.length) 3)&&(Nat.beq 3 3))) (cond (Nat.ble 3 (c.length)) (r0 (c.take 3) [(.int .i64 1),(.int .i64 0),(.int .i64 0),(.int .i64 0)] true) none) none))) (cond (b==([77,87]:List UInt8)) (E5 N 1 1 (fun d=>(cond ((Nat.beq 0 0)&&((Nat.beq (d.length) 3)&&(Nat.beq 3 3))) (cond (Nat.ble 3 (d.length)) (r0 (d.take 3) [(.int .i64 1),(.int .i64 0),(.int .i64 0),(.int .i64 0)] true) none) none))) (cond (b==([71,87]:List UInt8)) (E5 N 1000 1 (fun e=>(cond ((Nat.beq 0 0)&&((Nat.beq (e.length) 3)&&(Nat.beq 3 3))) (cond (Nat.ble 3 (e.length)) (r0 (e.take 3) [(.int .i64 1),(.int .i64 0),(.int .i64 0),(.int .i64 0)] true) none) none))) (cond (b==([109,105,110]:List UInt8)) (E5 N 1 60 (fun f=>(cond ((Nat.beq 0 0)&&((Nat.beq (f.length) 3)&&(Nat.beq 3 3))) (cond (Nat.ble 3 (f.length)) (r0 (f.take 3) [(.int .i64 0),(.int .i64 1),(.int .i64 0),(.int .i64 0)] true) none) none))) (cond (b==([104]:List UInt8)) (E5 N 1 1 (fun g=>(cond ((Nat.beq 0 0)&&((Nat.beq (g.length) 3)&&(Nat.beq 3 3))) (cond (Nat.ble 3 (g.length)) (r0 (g.take 3) [(.int .i64 0),(.int .i64 1),(.int .i64 0),(.int .i64 0)] true) none) none))) (cond (b==([100]:List UInt8)) (E5 N 24 1 (fun i=>(cond ((Nat.beq 0 0)&&((Nat.beq (i.length) 3)&&(Nat.beq 3 3))) (cond (Nat.ble 3 (i.length)) (r0 (i.take 3) [(.int .i64 0),(.int .i64 1),(.int .i64 0),(.int .i64 0)] true) none) none))) (cond (b==([107,87,104]:List UInt8)) (E5 N 1 1000 (fun l=>(cond ((Nat.beq 0 0)&&((Nat.beq (l.length) 3)&&(Nat.beq 3 3))) (cond (Nat.ble 3 (l.length)) (r0 (l.take 3) [(.int .i64 1),(.int .i64 1),(.int .i64 0),(.int .i64 0)] true) none) none))) (cond (b==([77,87,104]:List UInt8)) (E5 N 1 1 (fun m=>(cond ((Nat.beq 0 0)&&((Nat.beq (m.length) 3)&&(Nat.beq 3 3))) (cond (Nat.ble 3 (m.length)) (r0 (m.take 3) [(.int .i64 1),(.int .i64 1),(.int .i64 0),(.int .i64 0)] true) none) none))) (cond (b==([71,87,104]:List UInt8)) (E5 N 1000 1 (fun n=>(cond ((Nat.beq 0 0)&&((Nat.beq (n.length) 3)&&(Nat.beq 3 3))) (cond (Nat.ble 3 (n.length)) (r0 (n.take 3) [(.int .i64 1),(.int .i64 1),(.int .i64 0),(.int .i64 0)] true) none) none))) (cond (b==([99,116]:List UInt8)) (E5 N 1 100 (fun o=>(cond ((Nat.beq 0 0)&&((Nat.beq (o.length) 3)&&(Nat.beq 3 3))) (cond (Nat.ble 3 (o.length)) (r0 (o.take 3) [(.int .i64 0),(.int .i64 0),(.int .i64 1),(.int .i64 0)] true) none) none))) (cond (b==([69,85,82]:List UInt8)) (E5 N 1 1 (fun p=>(cond ((Nat.beq 0 0)&&((Nat.beq (p.length) 3)&&(Nat.beq 3 3))) (cond (Nat.ble 3 (p.length)) (r0 (p.take 3) [(.int .i64 0),(.int .i64 0),(.int .i64 1),(.int .i64 0)] true) none) none))) (cond (b==([107,69,85,82]:List UInt8)) (E5 N 1000 1 (fun q=>(cond ((Nat.beq 0 0)&&((Nat.beq (q.length) 3)&&(Nat.beq 3 3))) (cond (Nat.ble 3 (q.length)) (r0 (q.take 3) [(.int .i64 0),(.int .i64 0),(.int .i64 1),(.int .i64 0)] true) none) none))) (cond (b==([109,114,97,100]:List UInt8)) (E5 N 1 1000 (fun r=>(cond ((Nat.beq 0 0)&&((Nat.beq (r.length) 3)&&(Nat.beq 3 3))) (cond (Nat.ble 3 (r.length)) (r0 (r.take 3) [(.int .i64 0),(.int .i64 0),(.int .i64 0),(.int .i64 1)] true) none) none))) (cond (b==([114,97,100]:List UInt8)) (E5 N 1 1 (fun s=>(cond ((Nat.beq 0 0)&&((Nat.beq (s.length) 3)&&(Nat.beq 3 3))) (cond (Nat.ble 3 (s.length)) (r0 (s.take 3) [(.int .i64 0),(.int .i64 0),(.int .i64 0),(.int .i64 1)] true) none) none))) (cond (b==([37]:List UInt8)) (E5 N 1 100 (fun t=>(cond ((Nat.beq 0 0)&&((Nat.beq (t.length) 3)&&(Nat.beq 3 3))) (cond (Nat.ble 3 (t.length)) (r0 (t.take 3) [(.int .i64 0),(.int .i64 0),(.int .i64 0),(.int .i64 0)] true) none) none))) (cond (b==([112,117]:List UInt8)) (E5 N 1 1 (fun u=>(cond ((Nat.beq 0 0)&&((Nat.beq (u.length) 3)&&(Nat.beq 3 3))) (cond (Nat.ble 3 (u.length)) (r0 (u.take 3) [(.int .i64 0),(.int .i64 0),(.int .i64 0),(.int .i64 0)] true) none) none))) (r0 [(.bool false),.nsl,.nsl] [(.int .i64 0),(.int .i64 0),(.int .i64 0),(.int .i64 0)] false)))))))))))))))))
def T3:=(Ag (@IZ R)).1
theorem I_:@T3 R=@IZ R:=(Ag _).2
def sn:D8:=[(59,pS N)]
def PR (F:KF R):LA→LA→Bool→O R:=(fun v w x=>F (.tup [(.pagg v false),(.pagg w false),(.bool x)]) [])
theorem PS (b:List UInt8) (F:KF R):Cd (sn N) Adu N 198 [(.str b)] [] F=(T3 N b (PR F)):=by
 rw[I_]
 kernel_rfl
def JA (a:LA) (h:Ah) (k:KF R):O R :=
 match a,h with
 | [(.str b)],[]=>(T3 N b (PR k))
 | _,_=>none
theorem PT:An N 198 @JA:=by
 intro R Q a h k j;unfold JA;split;exact As (PS ..) (PS ..) ⟨pT N,trivial⟩;exact Av
def nm:=At (PT N)
def np:=Cg (PT N)
def Ra (r0:LA→LA→Int→O R) (e:Nat) (f:LA) (k0:Int→LA→LA→O R) (d:Int) (b c:LA):O R :=
 (cond (decide (d<((e:Nat):Int))) (cond (Aj d e) (Ag3 (f.drop ((0+((d.toNat)*2))+1)) fun s=>(T3 N s (fun i l t=>(cond ((Nat.beq 0 0)&&((Nat.beq (i.length) 3)&&(Nat.beq 3 3))) (cond ((Nat.beq (l.length) 4)&&((Nat.ble 4 4)&&(!false))) (cond (!t) (r0 [(.bool false),.nsl,.nsl] [(.int .i64 0),(.int .i64 0),(.int .i64 0),(.int .i64 0)] 12) (cond (Aj d e) (Pa (f.drop (0+((d.toNat)*2))) fun u=>(cond u (cond (Nat.ble 3 (b.length)) (cond (Nat.ble 3 (i.length)) (Tj N (b.take 3) false (i.take 3) false (fun m=>(cond (Nat.ble 4 (c.length)) (cond (Nat.ble 4 ((setCells [(.int .i64 0),(.int .i64 0),(.int .i64 0),(.int .i64 0)] 0 l).length)) (KP N (c.take 4) false ((setCells [(.int .i64 0),(.int .i64 0),(.int .i64 0),(.int .i64 0)] 0 l).take 4) false (fun o=>(cond ((Nat.beq (m.length) 3)&&((Nat.ble 3 (b.length))&&(!false))) (cond ((Nat.beq (o.length) 4)&&((Nat.ble 4 (c.length))&&(!false))) (k0 (wrap .i64 (d+1)) (setCells b 0 m) (setCells c 0 o)) none) none))) none) none))) none) none) (cond (Nat.ble 3 (b.length)) (cond (Nat.ble 3 (i.length)) (AE N (b.take 3) false (i.take 3) false (fun p=>(cond (Nat.ble 4 (c.length)) (cond (Nat.ble 4 ((setCells [(.int .i64 0),(.int .i64 0),(.int .i64 0),(.int .i64 0)] 0 l).length)) (KN N (c.take 4) false ((setCells [(.int .i64 0),(.int .i64 0),(.int .i64 0),(.int .i64 0)] 0 l).take 4) false (fun q=>(cond ((Nat.beq (p.length) 3)&&((Nat.ble 3 (b.length))&&(!false))) (cond ((Nat.beq (q.length) 4)&&((Nat.ble 4 (c.length))&&(!false))) (k0 (wrap .i64 (d+1)) (setCells b 0 p) (setCells c 0 q)) none) none))) none) none))) none) none))) none)) none) none)))) none) (cond (Nat.ble 3 (b.length)) (cond (Nat.ble 4 (c.length)) (cond ((Nat.beq 0 0)&&((Nat.beq ((b.take 3).length) 3)&&(Nat.beq 3 3))) (cond ((Nat.beq ((c.take 4).length) 4)&&((Nat.ble 4 4)&&(!false))) (cond (Nat.ble 3 ((b.take 3).length)) (cond (Nat.ble 4 ((setCells [(.int .i64 0),(.int .i64 0),(.int .i64 0),(.int .i64 0)] 0 (c.take 4)).length)) (r0 ((b.take 3).take 3) ((setCells [(.int .i64 0),(.int .i64 0),(.int .i64 0),(.int .i64 0)] 0 (c.take 4)).take 4) 0) none) none) none) none) none) none))
def Je (r0:LA→LA→Int→O R) (e:Nat) (f:LA):Nat→Int→LA→LA→O R
 | 0,_,_,_=>none
 | n+1,d,b,c=>(Ra N r0 e f (Je r0 e f n) d b c)
def KT (r0:LA→LA→Int→O R) (q0:Nat→LA→Int→LA→LA→O R) (g:List UInt8):O R :=
 (Rt N g (fun e v f=>(cond (!v) (r0 [(.bool false),.nsl,.nsl] [(.int .i64 0),(.int .i64 0),(.int .i64 0),(.int .i64 0)] 2) (cond (decide (((e:Nat):Int)>8)) (r0 [(.bool false),.nsl,.nsl] [(.int .i64 0),(.int .i64 0),(.int .i64 0),(.int .i64 0)] 8) (Gt N 1 (fun r=>(cond ((Nat.beq 0 0)&&((Nat.beq (r.length) 3)&&(Nat.beq 3 3))) (q0 e f 0 r [(.int .i64 0),(.int .i64 0),(.int .i64 0),(.int .i64 0)]) none)))))))
def Pu:=(Ag (fun (N:Nat) (g:List UInt8) (r0:LA→LA→Int→O R)=>(KT N r0 (fun e f d b c=>(Je N r0 e f N d b c)) g))).1
theorem YS (g r0):(@Pu R N g r0)=(KT N r0 (fun e f d b c=>(Je N r0 e f N d b c)) g):=by rw[Pu,(Ag _).2]
def fC:Hints:={ H:=(hS hL (hS hL (hS hL (hS hL (hS hL (hS (hS hL (hS (hP [2,3,5,7,8,9] hL) hL)) hL)))))),modes:=[(3,0),(3,0),(0,0)] }
def mO:D8:=[(197,sk N),(94,GU N),(198,nm N),(122,eF N),(37,y9 N),(41,kj N),(35,y5 N)]
def w7 (F:KF R):=Ov Tryz.f121 fC (mO N) [] N F
def Pv (F:KF R):LA→LA→Int→O R:=(fun w x y=>F (.tup [(.pagg w false),(.pagg x false),(iv y)]) [])
def w8 (e:Nat) (f:LA) (d:Int) (b c:LA):St:=⟨[(2,(op 0)),(3,(op 1)),(5,(.own 300002 0 e)),(7,(op 3)),(8,(op 4)),(9,(iv d))],(hq [(bN 0 [(.bool false),.nsl,.nsl]),(bQ 0 [(iv 0),(iv 0),(iv 0),(iv 0)]),(bQ 2 f),(bQ 0 b),(bQ 0 c)])⟩
def w9 (F:KF R):=w7 N F [1,1,1,1,1,0,1,0] []
theorem JB (F:KF R) (e:Nat) (f:LA):∀ (n:Nat) (d:Int) (b c:LA),Au (w9 N F) n (w8 e f d b c)=(Je N (Pv F) e f n d b c)
 | 0,_,_,_=>by kernel_rfl
 | n+1,d,b,c=>Eq.trans (by kernel_rfl) (Da (Ra N (Pv F) e f · d b c) (funext fun d=>funext fun b=>funext fun c=>(JB F e f n d b c)):_)
theorem fD (g:List UInt8) (F:KF R):Cd (mO N) fC N 121 [(.str g)] [] F=(Pu N g (Pv F)):=by
 rw[YS]
 exact Eq.trans (by kernel_rfl) (Da (KT N (Pv F) · g) (funext fun e=>funext fun f=>funext fun d=>funext fun b=>funext fun c=>(Ap ..).trans (JB N F e f N d b c)):_)
def YT (a:LA) (h:Ah) (k:KF R):O R :=
 match a,h with
 | [(.str g)],[]=>(Pu N g (Pv k))
 | _,_=>none
theorem fE:An N 121 @YT:=by
 intro R Q a h k j;unfold YT;split;exact As (fD ..) (fD ..) ⟨sm N,GV N,np N,eG N,y_ N,ko N,y6 N,trivial⟩;exact Av
def fF:=At (fE N)
def fG:=Cg (fE N)
def Rb (r0:LA→LA→Int→O R) (d:LA) (e:List UInt8):O R :=
 (Pu N e (fun g f l=>(cond ((Nat.beq 0 0)&&((Nat.beq (g.length) 3)&&(Nat.beq 3 3))) (cond ((Nat.beq (f.length) 4)&&((Nat.ble 4 4)&&(!false))) (cond (l != 0) (r0 [(.bool false),.nsl,.nsl] [(.int .i64 0),(.int .i64 0),(.int .i64 0),(.int .i64 0)] l) (cond (Nat.ble 3 (d.length)) (cond (Nat.ble 3 (g.length)) (AE N (d.take 3) false (g.take 3) false (fun i=>(cond (Nat.ble 4 ((setCells [(.int .i64 0),(.int .i64 0),(.int .i64 0),(.int .i64 0)] 0 f).length)) (cond ((Nat.beq 0 0)&&((Nat.beq (i.length) 3)&&(Nat.beq 3 3))) (cond ((Nat.beq (((setCells [(.int .i64 0),(.int .i64 0),(.int .i64 0),(.int .i64 0)] 0 f).take 4).length) 4)&&((Nat.ble 4 4)&&(!false))) (cond (Nat.ble 3 (i.length)) (cond (Nat.ble 4 ((setCells [(.int .i64 0),(.int .i64 0),(.int .i64 0),(.int .i64 0)] 0 ((setCells [(.int .i64 0),(.int .i64 0),(.int .i64 0),(.int .i64 0)] 0 f).take 4)).length)) (r0 (i.take 3) ((setCells [(.int .i64 0),(.int .i64 0),(.int .i64 0),(.int .i64 0)] 0 ((setCells [(.int .i64 0),(.int .i64 0),(.int .i64 0),(.int .i64 0)] 0 f).take 4)).take 4) 0) none) none) none) none) none))) none) none)) none) none)))
def BE (r0:LA→LA→Int→O R) (q0:LA→List UInt8→O R) (b:List UInt8):O R :=
 (Rs N b (fun c=>(cond ((decide ((0:Int)≤(0:Int)))&&((decide (0≤c))&&((decide (c≤(((b.length):Nat):Int)))&&(decide ((((b.length):Nat):Int)≤(((b.length):Nat):Int)))))) (Kg N (List.take (c.toNat) b) (fun d m=>(cond ((Nat.beq 0 0)&&((Nat.beq (d.length) 3)&&(Nat.beq 3 3))) (cond (m != 0) (r0 [(.bool false),.nsl,.nsl] [(.int .i64 0),(.int .i64 0),(.int .i64 0),(.int .i64 0)] m) (cond ((decide (0≤c))&&((decide (c≤(((b.length):Nat):Int)))&&((decide ((((b.length):Nat):Int)≤(((b.length):Nat):Int)))&&(decide ((((b.length):Nat):Int)≤(((b.length):Nat):Int)))))) (cond ((List.take ((b.length) - (c.toNat)) (List.drop (c.toNat) b))==([]:List UInt8)) (cond (Nat.ble 3 (d.length)) (cond ((Nat.beq 0 0)&&((Nat.beq ((d.take 3).length) 3)&&(Nat.beq 3 3))) (cond (Nat.ble 3 ((d.take 3).length)) (r0 ((d.take 3).take 3) [(.int .i64 0),(.int .i64 0),(.int .i64 0),(.int .i64 0)] 0) none) none) none) (cond (Aj 0 (List.length (List.take ((b.length) - (c.toNat)) (List.drop (c.toNat) b)))) (cond (((UInt8.toNat (List.getD (List.take ((b.length) - (c.toNat)) (List.drop (c.toNat) b)) 0 0):Nat):Int)==32) (cond ((decide ((0:Int)≤(1:Int)))&&((decide (1≤(((List.length (List.take ((b.length) - (c.toNat)) (List.drop (c.toNat) b))):Nat):Int)))&&((decide ((((List.length (List.take ((b.length) - (c.toNat)) (List.drop (c.toNat) b))):Nat):Int)≤(((List.length (List.take ((b.length) - (c.toNat)) (List.drop (c.toNat) b))):Nat):Int)))&&(decide ((((List.length (List.take ((b.length) - (c.toNat)) (List.drop (c.toNat) b))):Nat):Int)≤(((List.length (List.take ((b.length) - (c.toNat)) (List.drop (c.toNat) b))):Nat):Int)))))) (q0 d (List.take ((List.length (List.take ((b.length) - (c.toNat)) (List.drop (c.toNat) b))) - 1) (List.drop 1 (List.take ((b.length) - (c.toNat)) (List.drop (c.toNat) b))))) none) (q0 d (List.take ((b.length) - (c.toNat)) (List.drop (c.toNat) b)))) none)) none)) none))) none)))
def Ru:=(Ag (fun (N:Nat) (b:List UInt8) (r0:LA→LA→Int→O R)=>(BE N r0 (fun d e=>(Rb N r0 d e)) b))).1
theorem PU (b r0):(@Ru R N b r0)=(BE N r0 (fun d e=>(Rb N r0 d e)) b):=by rw[Ru,(Ag _).2]
def YU:Hints:={ H:=(hS hL (hS hL (hS hL (hS hL (hS hL (hS hL (hJ [2,3,6,8] hL hL))))))),modes:=[(3,0),(3,0),(0,0)] }
def fH:D8:=[(195,sW N),(196,fw N),(121,fF N),(41,kj N)]
def sr (F:KF R):=Ov Tryz.f120 YU (fH N) [] N F
def Rc (F:KF R):LA→LA→Int→O R:=(fun n o p=>F (.tup [(.pagg n false),(.pagg o false),(iv p)]) [])
def su (d:LA) (e:List UInt8):St:=⟨[(2,(op 0)),(3,(op 1)),(6,(op 2)),(8,(.str e))],(hq [(bN 0 [(.bool false),.nsl,.nsl]),(bQ 0 [(iv 0),(iv 0),(iv 0),(iv 0)]),(bQ 0 d)])⟩
def sv (F:KF R):=sr N F [1,1,1,1,1,1,1] []
theorem gB (F:KF R) (d:LA):∀ (e:List UInt8),Cm (sv N F) (su d e)=(Rb N (Rc F) d e):=by
 intro e
 kernel_rfl
theorem YV (b:List UInt8) (F:KF R):Cd (fH N) YU N 120 [(.str b)] [] F=(Ru N b (Rc F)):=by
 rw[PU]
 exact Eq.trans (by kernel_rfl) (Da (BE N (Rc F) · b) (funext fun d=>funext fun e=>(A2 ..).trans (gB N F d e)):_)
def PV (a:LA) (h:Ah) (k:KF R):O R :=
 match a,h with
 | [(.str b)],[]=>(Ru N b (Rc k))
 | _,_=>none
theorem YW:An N 120 @PV:=by
 intro R Q a h k j;unfold PV;split;exact As (YV ..) (YV ..) ⟨sX N,fx N,fG N,ko N,trivial⟩;exact Av
def sw:=At (YW N)
def sx:=Cg (YW N)
def sy (d e:List UInt8) (r0:LA→Int→O R):O R :=
 (Ru N d (fun f b l=>(cond ((Nat.beq 0 0)&&((Nat.beq (f.length) 3)&&(Nat.beq 3 3))) (cond ((Nat.beq (b.length) 4)&&((Nat.ble 4 4)&&(!false))) (cond (l != 0) (r0 [(.bool false),.nsl,.nsl] l) (Pu N e (fun g c m=>(cond ((Nat.beq 0 0)&&((Nat.beq (g.length) 3)&&(Nat.beq 3 3))) (cond ((Nat.beq (c.length) 4)&&((Nat.ble 4 4)&&(!false))) (cond (m != 0) (r0 [(.bool false),.nsl,.nsl] m) (cond (Nat.ble 4 ((setCells [(.int .i64 0),(.int .i64 0),(.int .i64 0),(.int .i64 0)] 0 b).length)) (cond (Nat.ble 4 ((setCells [(.int .i64 0),(.int .i64 0),(.int .i64 0),(.int .i64 0)] 0 c).length)) (cond ((Nat.ble 1 4)&&((Nat.beq (((setCells [(.int .i64 0),(.int .i64 0),(.int .i64 0),(.int .i64 0)] 0 b).take 4).length) 4)&&((Nat.beq (((setCells [(.int .i64 0),(.int .i64 0),(.int .i64 0),(.int .i64 0)] 0 c).take 4).length) 4)&&(true&&(!false))))) (Bw .i64 ((setCells [(.int .i64 0),(.int .i64 0),(.int .i64 0),(.int .i64 0)] 0 b).take 4) fun n=>(Bw .i64 ((setCells [(.int .i64 0),(.int .i64 0),(.int .i64 0),(.int .i64 0)] 0 c).take 4) fun o=>(Bw .i64 (((setCells [(.int .i64 0),(.int .i64 0),(.int .i64 0),(.int .i64 0)] 0 b).take 4).drop 1) fun p=>(Bw .i64 (((setCells [(.int .i64 0),(.int .i64 0),(.int .i64 0),(.int .i64 0)] 0 c).take 4).drop 1) fun q=>(Bw .i64 (((setCells [(.int .i64 0),(.int .i64 0),(.int .i64 0),(.int .i64 0)] 0 b).take 4).drop 2) fun r=>(Bw .i64 (((setCells [(.int .i64 0),(.int .i64 0),(.int .i64 0),(.int .i64 0)] 0 c).take 4).drop 2) fun s=>(Bw .i64 (((setCells [(.int .i64 0),(.int .i64 0),(.int .i64 0),(.int .i64 0)] 0 b).take 4).drop 3) fun t=>(Bw .i64 (((setCells [(.int .i64 0),(.int .i64 0),(.int .i64 0),(.int .i64 0)] 0 c).take 4).drop 3) fun u=>(cond (!((n==o)&&((p==q)&&((r==s)&&((t==u)&&true))))) (r0 [(.bool false),.nsl,.nsl] 15) (cond (Nat.ble 3 (f.length)) (cond (Nat.ble 3 (g.length)) (Tj N (f.take 3) false (g.take 3) false (fun i=>(cond ((Nat.beq 0 0)&&((Nat.beq (i.length) 3)&&(Nat.beq 3 3))) (cond (Nat.ble 3 (i.length)) (r0 (i.take 3) 0) none) none))) none) none)))))))))) none) none) none)) none) none)))) none) none)))
def b_:=(Ag (@sy R)).1
theorem mP:@b_ R=@sy R:=(Ag _).2
def Ae3:D8:=[(120,sw N),(121,fF N),(122,eF N)]
def qJ (F:KF R):LA→Int→O R:=(fun v w=>F (.tup [(.pagg v false),(iv w)]) [])
theorem qK (d e:List UInt8) (F:KF R):Cd (Ae3 N) oO N 58 [(.str d),(.str e)] [] F=(b_ N d e (qJ F)):=by
 rw[mP]
 kernel_rfl
def mQ (a:LA) (h:Ah) (k:KF R):O R :=
 match a,h with
 | [(.str d),(.str e)],[]=>(b_ N d e (qJ k))
 | _,_=>none
theorem qL:An N 58 @mQ:=by
 intro R Q a h k j;unfold mQ;split;exact As (qK ..) (qK ..) ⟨sx N,fG N,eG N,trivial⟩;exact Av
def Acv:=At (qL N)
def Acw:=Cg (qL N)
end
end Gx

namespace Gx
open Go Go.Proofs
section
variable {R:Type}
theorem w_ {N:Nat} {z:Int} {K:Bool→List UInt8→O R}:F8 N (Ea z) K=K (decide (z<0)) (Hx z.natAbs):=by
 unfold Ea K_
 by_cases h:z<0
 ·rw[if_pos h,IV,decide_eq_true h]
 ·rw[if_neg h,decide_eq_false h,IW]
  cases b:Hx z.natAbs with
  | nil=>simp
  | cons c r =>
   have:=Cs z.natAbs
   rw[b,List.all_cons,Bool.and_eq_true] at this
   intro e
   simp at e
   rw[e] at this
   exact absurd this.1 (by decide)
theorem JC {N:Nat} {z:Int} {K:LA→Int→O R} (d:Wj (Ea z)≤4096) (b:fit (20*(Ea z).length+100) N):Kd N (Ea z) K=K (Bg z) 0:=by
 have f:=b.1;have i:=b.2
 have j:(Hx z.natAbs).length≤(Ea z).length:=by unfold Ea K_;split<;>simp
 have c:=HY (K3 (Cs z.natAbs))
 rw[D9] at c
 rw[Yx];unfold Wx
 rw[Q7 (by omega) (by omega),Gm,show(!true)=false by rfl,cf,fB (by omega) (by omega),show decide (((Wj (Ea z):Nat):Int)>4096)=false by simp;omega,cf,w_,qI (Cs _) (b.le (by omega)),D9,Aip,Int.natAbs_natCast,E6 rfl (Ab _) (b.le (by omega)),Ac]
 have e:(if decide (z<0)=true then -((z.natAbs:Nat):Int) else ((z.natAbs:Nat):Int))=z:=by
  by_cases h:z<0
  ·rw[decide_eq_true h,if_pos rfl];omega
  ·rw[decide_eq_false h,if_neg (by simp)];omega
 rw[e,Aeq,ct,f4,ct,Abx]
theorem Aiz (q:Rat):(46:UInt8) ∉ Bu q:=by
 have b:=RV (c:=46) (by decide) (by decide) (Ka (Gm q.num))
 have d:=KO (c:=46) (by decide) (Cs q.den)
 unfold Bu
 split
 ·exact b
 ·simp only[List.mem_append,List.mem_singleton,not_or]
  exact⟨⟨b,by decide⟩,d⟩
theorem wc {N:Nat} {q:Rat} {K:LA→Int→O R} (y:(Bu q).length≤4096) (i:fit 2000000 N):Kg N (Bu q) K=K (cq q) 0:=by
 have f1:=i.1
 have G:=s_ (Bu q)
 have d:=fun K=>fB (R:=R) (N:=N) (s:=Bu q) (K:=K) (by omega) (by omega)
 have f:∀ (e:Bool) (b:List UInt8) (K:Int→O R),(46:UInt8) ∉ b→b.length≤4096→L7 N b 46 K=K (-1):=fun e b K I L=>by
  have:=IX (R:=R) (N:=N) (s:=b) (c:=46) (K:=K) (by omega) (by omega)
  rw[XH 46 b I] at this
  exact this
 have j:∀ K:Bool→List UInt8→O R,∃ (e:Bool) (b:List UInt8),F8 N (Bu q) K=K e b∧(46:UInt8) ∉ b∧b.length≤4096:=fun K=>by
  by_cases h:(Bu q).head?=some 45
  ·obtain⟨r,M⟩:∃ r,Bu q=45::r:=by
    cases C:Bu q with
    | nil=>rw[C] at h;simp at h
    | cons c r=>rw[C] at h;simp at h;exact⟨r,by rw[h]⟩
   have k:=Aiz q
   rw[M] at k y ⊢
   rw[List.length_cons] at y
   exact⟨true,r,IV,fun e=>k (List.mem_cons_of_mem _ e),by omega⟩
  ·exact⟨false,Bu q,IW h,Aiz q,y⟩
 by_cases h:q.den=1
 ·have e:Bu q=Ea q.num:=by unfold Bu;rw[if_pos h]
  have hq:((q.num:Int):Rat)=q:=by
   have D:=Rat.mkRat_self q
   rw[h,rn] at D;exact D
  have A:(47:UInt8) ∉ Bu q:=by rw[e];exact RV (by decide) (by decide) (Ka (Gm _))
  have S:(Af q.num.natAbs).length≤5000:=by
   have l:=HY (K3 (Cs q.num.natAbs))
   have T:(Hx q.num.natAbs).length≤(Ea q.num).length:=by unfold Ea K_;split<;>simp
   rw[D9] at l
   rw[e] at y;omega
  rw[Ok];unfold K0
  rw[sd A (by omega) (by omega)]
  obtain⟨m,n,s1,s2,B⟩:=j _
  refine s1.trans ?_
  refine(f m n _ s2 B).trans ?_
  show D1 N K (Bu q) (-1) false m n (-1) false=_
  unfold D1 Kf
  rw[Q7 (by omega) (by omega),show Yh (Bu q)=true by rw[e];exact Gm _,show((!true)==true)=false by rfl,cf]
  unfold Lb Ke
  rw[d,show decide (((Wj (Bu q):Nat):Int)>4096)=false by simp;omega,cf,cf,cf,e,JC (by rw[←e];omega) (i.le (by rw[←e];omega)),Aeq,ct,f4,ct,Abx,Ahq (i.le (by omega)),hq]
  rfl
 ·have e:Bu q=Ea q.num++47::Hx q.den:=by unfold Bu;rw[if_neg h,List.append_assoc];rfl
  have t:(Bu q).length=(Ea q.num).length+((Hx q.den).length+1):=by rw[e,List.length_append,List.length_cons]
  have u:=fun K=>nl (R:=R) (N:=N) (a:=Ea q.num) (b:=Hx q.den) (K:=K) (Gm _) (Xh _) (by rw[←e];omega) (by rw[←e];omega)
  rw[←e] at u
  have v:Yh (Bu q)=false:=by
   rw[←Bool.not_eq_true];intro U
   exact RV (c:=47) (by decide) (by decide) (Ka U) (by rw[e];simp)
  have V:(Af q.num.natAbs).length≤5000:=by
   have l:=HY (K3 (Cs q.num.natAbs))
   have T:(Hx q.num.natAbs).length≤(Ea q.num).length:=by unfold Ea K_;split<;>simp
   rw[D9] at l
   omega
  have X:(Af q.den).length≤5000:=by
   have l:=HY (K3 (Cs q.den))
   rw[D9] at l
   omega
  have F:=s_ (Ea q.num)
  rw[Ok];unfold K0
  rw[u]
  obtain⟨m,n,s1,s2,B⟩:=j _
  refine s1.trans ?_
  refine(f m n _ s2 B).trans ?_
  show D1 N K (Bu q) ((Ea q.num).length:Int) true m n (-1) false=_
  unfold D1 Kf
  rw[Q7 (by omega) (by omega),v,show((!false)==true)=true by rfl,ct,show((cond true (!true) false)==true)=false by rfl,cf]
  unfold Lb Ke
  rw[d,show decide (((Wj (Bu q):Nat):Int)>4096)=false by simp;omega,cf,ct]
  rw[show((decide ((0:Int)≤(0:Int)))&&((decide (0≤((Ea q.num).length:Int)))&&((decide (((Ea q.num).length:Int)≤((((Bu q).length):Nat):Int)))&&(decide (((((Bu q).length):Nat):Int)≤((((Bu q).length):Nat):Int))))))=true by simp;omega,ct]
  have t1:List.take ((Ea q.num).length:Int).toNat (Bu q)=Ea q.num:=by rw[Int.toNat_natCast,e,List.take_left]
  have t2:List.take ((Bu q).length - (IntKind.wrap .i64 (((Ea q.num).length:Int)+1)).toNat) (List.drop (IntKind.wrap .i64 (((Ea q.num).length:Int)+1)).toNat (Bu q))=Hx q.den:=by
   rw[wS (by omega),Int.toNat_natCast,t,e,←List.drop_drop,List.drop_left,List.drop_succ_cons,List.drop_zero,List.take_of_length_le (by omega)]
  have t3:((decide (0≤(IntKind.wrap .i64 (((Ea q.num).length:Int)+1))))&&((decide ((IntKind.wrap .i64 (((Ea q.num).length:Int)+1))≤((((Bu q).length):Nat):Int)))&&((decide (((((Bu q).length):Nat):Int)≤((((Bu q).length):Nat):Int)))&&(decide (((((Bu q).length):Nat):Int)≤((((Bu q).length):Nat):Int))))))=true:=by
   rw[wS (by omega)];simp;omega
  have x:=pj (R:=R) (N:=N) (z:=q.num) (w:=(q.den:Int)) (o:=false) (o':=false) (K:=fun r=>cond ((Nat.beq 0 0)&&((Nat.beq (r.length) 3)&&(Nat.beq 3 3))) (cond (Nat.ble 3 (r.length)) (K (r.take 3) 0) none) none) (by omega) (i.le (by rw[Int.natAbs_natCast];omega))
  rw[Int.natAbs_natCast,Rat.mkRat_self] at x
  rw[t1,JC (by omega) (i.le (by omega)),Aeq,ct,t3,ct,t2,qI (Cs _) (i.le (by omega)),D9,Aeq,ct,f4,ct,Abx,Agn (i.le (by rw[Int.natAbs_natCast];omega))]
  have Y:((q.den:Int).sign==0)=false:=by
   have:=q.den_pos
   rw[beq_eq_false_iff_ne];intro h;have:=Int.sign_eq_zero_iff_zero.1 h;omega
  rw[Y,cf,f4,ct,ct,Abx]
  exact x
end
end Gx

namespace Gx
open Go Go.Proofs
section
variable {R:Type}
def SC (P:List (Bool×List UInt8)):LA:=P.flatMap fun p=>[.bool p.1,.str p.2]
theorem YX (P:List (Bool×List UInt8)):(SC P).length=P.length*2:=by
 induction P with
 | nil=>rfl
 | cons p P b=>unfold SC at *;rw[List.flatMap_cons,List.length_append,b];simp;omega
theorem YY (A B:List (Bool×List UInt8)):SC (A++B)=SC A++SC B:=by unfold SC;rw[List.flatMap_append]
theorem mR (P:List (Bool×List UInt8)) (o:Bool) (w:List UInt8):List.drop (P.length*2+1) (SC (P++[(o,w)]))=[.str w]:=by
 rw[YY,←List.drop_drop,←YX P,List.drop_left];rfl
theorem Af6 (P:List (Bool×List UInt8)) (o:Bool) (w v:List UInt8):(SC (P++[(o,w)])).set (P.length*2+1) (.str v)=SC (P++[(o,v)]):=by
 rw[YY,YY,←YX P,List.set_append_right _ _ (by omega),Nat.add_sub_cancel_left];rfl
theorem Af7 {N n:Nat} {b pre post:List UInt8} {c:UInt8} {P:List (Bool×List UInt8)} {o:Bool} {w:List UInt8} {K:Nat→Bool→LA→O R} (e:b=pre++c::post) (j:Agr c=true) (s:b.length≤1000000) (hP:P.length≤1000000) (t:w.length≤1000000) :
  A7 N K b (n+1) (P.length+1) (pre.length:Int) (SC (P++[(o,w)]))=A7 N K b n (P.length+1) ((pre.length+1:Nat):Int) (SC (P++[(o,w++[c])])):=by
 have d:pre.length<b.length:=by rw[e];simp
 have k:List.getD b ((pre.length:Int)).toNat 0=c:=by rw[Int.toNat_natCast,e];exact O3
 simp only[Agr,Bool.and_eq_true,Bool.or_eq_true,decide_eq_true_eq] at j
 have f:IntKind.wrap .i64 (((P.length+1:Nat):Int) - 1)=(P.length:Int):=wP (by omega)
 have i:Q8 N (A7 N K b n) K b (P.length+1) (pre.length:Int) true (SC (P++[(o,w)]))=A7 N K b n (P.length+1) ((pre.length+1:Nat):Int) (SC (P++[(o,w++[c])])):=by
  unfold Q8
  rw[ct,f,Fk (by omega),ct,Int.toNat_natCast,Nat.zero_add,mR,wS (by omega)]
  show cond _ _ _=_
  rw[show((decide (0≤(pre.length:Int)))&&((decide ((pre.length:Int)≤((pre.length+1:Nat):Int)))&&((decide (((pre.length+1:Nat):Int)≤(((b.length):Nat):Int)))&&(decide ((((b.length):Nat):Int)≤(((b.length):Nat):Int))))))=true by simp;omega,ct,Int.toNat_natCast,Int.toNat_natCast]
  have l:List.take (pre.length+1 - pre.length) (List.drop pre.length b)=[c]:=by
   rw[e,List.drop_left,Nat.add_sub_cancel_left];rfl
  rw[l,Yp (by rw[List.length_singleton];omega),ct,ct]
  rw[show((Nat.beq 1 1)&&((Nat.ble ((P.length*2+1)+1) ((SC (P++[(o,w)])).length))&&(!false)))=true by rw[YX,List.length_append,List.length_singleton];simp;omega,ct,Af6]
 rw[A7];unfold K1
 rw[T6 d,ct,Fk d,ct,k,show((((c.toNat:Nat):Int)==42)==false)=true by simp;omega,ct,show cond false true (((c.toNat:Nat):Int)==47)=false by simp;omega]
 unfold Kh O7
 dsimp only
 rw[cf,cc,Afz]
 by_cases m:97≤c.toNat
 ·rw[show(decide (((c.toNat:Nat):Int)≥97)==true)=true by simp;omega,ct,show(decide (((c.toNat:Nat):Int)≤122)==false)=false by simp;omega,cf]
  exact i
 ·rw[show(decide (((c.toNat:Nat):Int)≥97)==true)=false by simp;omega,cf]
  by_cases q:65≤c.toNat
  ·rw[show(decide (((c.toNat:Nat):Int)≥65)==true)=true by simp;omega,ct,cc,Afz,show(decide (((c.toNat:Nat):Int)≤90)==false)=false by simp;omega,cf]
   exact i
  ·rw[show(decide (((c.toNat:Nat):Int)≥65)==true)=false by simp;omega,cf,Afz,show(((c.toNat:Nat):Int)==37)=true by rw[beq_iff_eq];omega]
   exact i
theorem Ahz {N n:Nat} {b pre post:List UInt8} {c:UInt8} {P:List (Bool×List UInt8)} {o:Bool} {w:List UInt8} {K:Nat→Bool→LA→O R} (f:b=pre++c::post) (i:c=42∨c=47) (k:w≠[]) (m:b.length≤1000000) (hP:P.length≤1000000) :
  A7 N K b (n+1) (P.length+1) (pre.length:Int) (SC (P++[(o,w)]))=A7 N K b n (P.length+2) ((pre.length+1:Nat):Int) (SC (P++[(o,w)]++[(c==47,[])])):=by
 have d:pre.length<b.length:=by rw[f];simp
 have l:List.getD b ((pre.length:Int)).toNat 0=c:=by rw[Int.toNat_natCast,f];exact O3
 have e:IntKind.wrap .i64 (((P.length+1:Nat):Int) - 1)=(P.length:Int):=wP (by omega)
 have j:Kh N (A7 N K b n) K b (P.length+1) (pre.length:Int) ((c.toNat:Nat):Int) true (SC (P++[(o,w)]))=A7 N K b n (P.length+2) ((pre.length+1:Nat):Int) (SC (P++[(o,w)]++[(c==47,[])])):=by
  unfold Kh O7
  rw[ct,e,Fk (by omega),ct,Int.toNat_natCast,Nat.zero_add,mR,wS (by omega)]
  show cond (w==[]) _ _=_
  rw[show(w==[])=false by simpa using k,cf,show((Nat.ble (P.length+1+1) 140737488355328)&&(Nat.ble ((P.length+1+1)*24) 140737488355328))=true by simp;omega,ct]
  rw[List.take_of_length_le (by rw[YX,List.length_append,List.length_singleton];omega),YY (P++[(o,w)])]
  congr 2
  rcases i with rfl | rfl<;>rfl
 rw[A7];unfold K1
 rw[T6 d,ct,Fk d,ct,l]
 rcases i with rfl | rfl
 ·exact j
 ·exact j
theorem Ah0 {N n:Nat} {b:List UInt8} {P:List (Bool×List UInt8)} {o:Bool} {w:List UInt8} {K:Nat→Bool→LA→O R} (hP:P.length≤1000000) :
  A7 N K b (n+1) (P.length+1) (b.length:Int) (SC (P++[(o,w)]))=K (P.length+1) (!(w==[])) (SC (P++[(o,w)])):=by
 have c:IntKind.wrap .i64 (((P.length+1:Nat):Int) - 1)=(P.length:Int):=wP (by omega)
 rw[A7];unfold K1
 rw[BV (Nat.le_refl _),cf,c,Fk (by omega),ct,Int.toNat_natCast,Nat.zero_add,mR]
 rfl
end
end Gx

namespace Gx
open Go Go.Proofs
section
variable {R:Type}
theorem mS {N:Nat} {b:List UInt8} {P:List (Bool×List UInt8)} {o:Bool} {K:Nat→Bool→LA→O R} (e:b.length≤1000000) (hP:P.length≤1000000):∀ (u w pre post:List UInt8) (n:Nat),b=pre++(u++post)→u.all Agr=true→w.length+u.length≤1000000 →
  A7 N K b (n+u.length) (P.length+1) (pre.length:Int) (SC (P++[(o,w)]))=A7 N K b n (P.length+1) ((pre.length+u.length:Nat):Int) (SC (P++[(o,w++u)]))
 | [],w,pre,post,n,_,_,_=>by rw[List.append_nil];rfl
 | c::u,w,pre,post,n,f,d,j=>by
  simp only[List.all_cons,Bool.and_eq_true] at d
  rw[List.length_cons] at j
  have i:=mS (N:=N) (o:=o) (K:=K) e hP u (w++[c]) (pre++[c]) post n (by rw[f];simp) d.2 (by rw[List.length_append,List.length_singleton];omega)
  rw[List.length_append,List.length_singleton,List.append_assoc] at i
  rw[List.length_cons,←Nat.add_assoc,Af7 (post:=u++post) (by rw[f];simp) d.1 e hP (by omega),i,Nat.add_assoc,Nat.add_comm 1];rfl
theorem Af8 {N:Nat} {b:List UInt8} {K:Nat→Bool→LA→O R} (i:b.length≤1000000):∀ (U:List (Bool×List UInt8)) (pre u:List UInt8) (o:Bool) (P:List (Bool×List UInt8)) (n:Nat),b=pre++(u++tl U)→XU ((o,u)::U)→P.length+U.length≤1000000 →
  A7 N K b (n+(u++tl U).length+1) (P.length+1) (pre.length:Int) (SC (P++[(o,[])]))=K (P.length+1+U.length) true (SC (P++(o,u)::U)):=by
 intro U
 induction U with
 | nil =>
  intro pre u o P n c hU hP
  have e:=hU (o,u) (by simp)
  have t:tl []=[]:=rfl
  rw[t] at c ⊢
  have d:b.length=pre.length+u.length:=by rw[c];simp
  have j:=mS (N:=N) (o:=o) (K:=K) (P:=P) i (by omega) u [] pre [] (n+1) c e.2 (by simp;omega)
  rw[List.append_nil,show n+u.length+1=n+1+u.length by omega,j,←d,List.nil_append,Ah0 (by omega),show(u==[])=false by simpa using e.1];rfl
 | cons p U v =>
  obtain⟨o2,u2⟩:=p
  intro pre u o P n c hU hP
  have e:=hU (o,u) (by simp)
  rw[List.length_cons] at hP
  rw[gO] at c ⊢
  have d:b.length=pre.length+(u.length+((u2++tl U).length+1)):=by rw[c,List.length_append,List.length_append,List.length_cons]
  have j:=mS (N:=N) (o:=o) (K:=K) (P:=P) i (by omega) u [] pre ((if o2=true then 47 else 42)::(u2++tl U)) (n+(u2++tl U).length+1+1) c e.2 (by simp;omega)
  have k:b=(pre++u)++(if o2=true then 47 else 42)::(u2++tl U):=by rw[c];simp
  have q:=Ahz (N:=N) (n:=n+(u2++tl U).length+1) (o:=o) (K:=K) (P:=P) (w:=u) k (by cases o2;exact .inl rfl;exact .inr rfl) e.1 i (by omega)
  have l:b=(pre++u++[if o2=true then 47 else 42])++(u2++tl U):=by rw[c];simp
  have y:((if o2=true then (47:UInt8) else 42)==47)=o2:=by cases o2<;>rfl
  have s:=v (pre++u++[if o2=true then 47 else 42]) u2 o2 (P++[(o,u)]) n l (fun x z=>hU x (List.mem_cons_of_mem _ z)) (by rw[List.length_append,List.length_singleton];omega)
  have f:(pre++u).length=pre.length+u.length:=List.length_append
  have m:((pre++u++[if o2=true then 47 else 42]):List UInt8).length=pre.length+u.length+1:=by rw[List.length_append,f];rfl
  have hPl:(P++[(o,u)]).length=P.length+1:=by rw[List.length_append];rfl
  rw[f] at q
  rw[m,hPl] at s
  rw[show n+(u++(if o2=true then 47 else 42)::(u2++tl U)).length+1=n+(u2++tl U).length+1+1+u.length by rw[List.length_append,List.length_cons];omega,j,List.nil_append,q,y]
  refine s.trans ?_
  rw[List.length_cons,List.append_assoc,show P.length+1+1+U.length=P.length+1+(U.length+1) by omega]
  rfl
end
end Gx
