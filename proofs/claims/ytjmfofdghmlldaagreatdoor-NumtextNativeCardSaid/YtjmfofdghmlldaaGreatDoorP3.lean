/- A part of the proof: what it holds is said by each theorem. -/
import Derived.Laws.BitsLemmas
import Derived.Laws.RangeAny
import Derived.Laws.RangeString
import Derived.Lib.AtoiAllCases
import Derived.Lib.IndexMore
import Derived.Test.YtjmfofdghmlldaaGreatDoorP2
set_option linter.unusedVariables false
set_option linter.defProp false
set_option linter.unusedSimpArgs false
namespace Gx
open Go Go.Proofs
section
variable {R:Type}
def As (z:Int):LA:=A8 (decide (z<0)) (.of (Ae z.natAbs) false false)
theorem FC (z:Int) (K:LA→O R):(cond ((Nat.beq 0 0)&&((Nat.beq (List.length (As z)) 2)&&(Nat.beq 2 2))) (cond (Nat.ble 2 (List.length (As z))) (K (List.take 2 (As z))) none) none)=K (As z):=rfl
theorem ws (z w:Int):setCells (As z) 0 (As w)=As w:=rfl
theorem iV (z:Int):List.take 2 (As z)=As z:=rfl
theorem Tm (z:Int):Nat.ble 2 (List.length (As z))=true:=rfl
theorem yc (z:Int):Nat.beq (List.length (As z)) 2=true:=rfl
theorem sD (v:Nat):List.take ((Ae v).length*1) (Ab (Ae v))=Ab (Ae v):=Av (Aa _) (Ac v)
theorem Ct {N:Nat} {neg:Bool} {l:List Nat} {n:Nat} {t o:Bool} {K:LA→O R} (b:n=l.length) (d:Ad l) (e:fit l.length N):Dv N neg (Ab l) n t o K=K (As (if neg then -(val l:Int) else (val l:Int))):=by
 obtain⟨c1,f⟩:=Jb (z:=if neg then -(val l:Int) else (val l:Int)) (c:=neg) (m:=val l) rfl
 rw[RN];unfold WR
 rw[B8 b d e,sD]
 unfold As
 rw[←c1,f]
 cases neg
 ·rfl
 ·rw[show((true:Bool)==true)=true by rfl,ct,tD];simp[A8,LS.av]
theorem Jz {N:Nat} {v:Int} {K:LA→O R} (c:-9223372036854775808≤v∧v≤9223372036854775807) (hN:2000≤N):D2 N v K=K (As v):=by
 have b:v.natAbs<18446744073709551616:=by omega
 have d:=Zd b
 rw[A_];unfold Zl
 by_cases h:v<0
 ·have e:IntKind.wrap .u64 (IntKind.wrap .u64 (IntKind.wrap .i64 ((0:Int) - IntKind.wrap .i64 (v+1)))+1)=(v.natAbs:Int):=by
   rw[i64 (a:=v+1) (by omega),i64 (by omega),DI,DI];omega
  rw[decide_eq_true h,ct,e,Ut b (by omega),sD,Ct rfl (Aa _) ⟨by omega,by omega⟩,Ac]
  have:(if true=true then -(v.natAbs:Int) else (v.natAbs:Int))=v:=by rw[if_pos rfl];omega
  rw[this];exact FC _ _
 ·have e:IntKind.wrap .u64 v=(v.natAbs:Int):=by rw[DI];omega
  rw[decide_eq_false h,cf,e,Ut b (by omega),sD,Ct rfl (Aa _) ⟨by omega,by omega⟩,Ac]
  have:(if false=true then -(v.natAbs:Int) else (v.natAbs:Int))=v:=by rw[if_neg (by decide)];omega
  rw[this];exact FC _ _
theorem Ks {N:Nat} {n:Bool} {s:LS} {o:Bool} {K:LA→O R} (b:Ad s.l) (c:fit s.l.length N):Fz N (A8 n s) o K=K (As (Am n s)):=by
 rw[RP];unfold WS
 rw[F0,Fk,Ct rfl b c];exact FC _ _
theorem h_ {N:Nat} {n:Bool} {s:LS} {o:Bool} {K:Int→O R} (b:Ad s.l) (c:fit s.l.length N):Si N (A8 n s) o K=K (Am n s).sign:=by
 rw[RR];unfold WT
 rw[Pf,ct,NV,Ks b c,yc,show((true&&(true&&(!false))))=true by rfl,ct]
 have e:setCells (A8 n s) 0 (As (Am n s))=As (Am n s):=rfl
 rw[e]
 generalize Am n s=z
 unfold As
 rw[F0]
 rcases Int.lt_trichotomy z 0 with h | h | h
 ·rw[decide_eq_true h,ct,Int.sign_eq_neg_one_of_neg h]
 ·subst h;rfl
 ·rw[decide_eq_false (by omega),cf,Fk]
  have:(Ae z.natAbs).length≠0:=fun d=>by have:=A0.1 d;omega
  simp only[LS.l]
  rw[cx this,cf,Int.sign_eq_one_of_pos h]
theorem kw {N:Nat} {n:Bool} {s:LS} {o:Bool} {K:LA→O R} (b:Ad s.l) (c:fit s.l.length N):Qf N (A8 n s) o K=K (As (-Am n s)):=by
 rw[aP];unfold gB
 rw[F0,Fk,Ct rfl b c,←wq];exact FC _ _
theorem vH {N:Nat} {n:Bool} {s:LS} {o:Bool} {K:LA→O R} (b:Ad s.l) (c:fit s.l.length N):HL N (A8 n s) o K=K (As ((Am n s).natAbs:Int)):=by
 rw[aL];unfold fq
 rw[Fk,Ct rfl b c,A6];exact FC _ _
theorem sE {N:Nat} {n1 n2:Bool} {s1 s2:LS} {o1 o2:Bool} {K:LA→O R} (b:Ad s1.l) (c:Ad s2.l) (d:fit (s1.l.length+s2.l.length) N):U4 N (A8 n1 s1) o1 (A8 n2 s2) o2 K=K (As (Am n1 s1*Am n2 s2)):=by
 have e:(Ae (val s1.l*val s2.l)).length≤s1.l.length+s2.l.length:=Bj (by rw[Nat.pow_add];exact Nat.mul_lt_mul'' (Bb b) (Bb c))
 rw[bH];unfold g9
 rw[F0,F0,Fk,Fk,vC rfl rfl b c d,sD,Ct rfl (Aa _) (d.le e),Ac]
 have f:Am n1 s1*Am n2 s2=if (!(n1==n2)) then -((val s1.l*val s2.l:Nat):Int) else ((val s1.l*val s2.l:Nat):Int):=by
  unfold Am;cases n1<;>cases n2<;>simp[Int.mul_neg,Int.neg_mul]
 rw[←f];exact FC _ _
theorem iA {N:Nat} {n1 n2:Bool} {s1 s2:LS} {o1 o2:Bool} {K:LA→O R} (f:Ad s1.l) (i:Ad s2.l) (b:fit (s1.l.length+s2.l.length+1) N):Qe N (A8 n1 s1) o1 (A8 n2 s2) o2 K=K (As (Am n1 s1+Am n2 s2)):=by
 have v1:=Bb f
 have v2:=Bb i
 have k:=Ox (show s1.l.length≤s1.l.length+s2.l.length by omega)
 have m:=Ox (show s2.l.length≤s1.l.length+s2.l.length by omega)
 rw[aN];unfold fw
 rw[F0,F0]
 by_cases j:n1=n2
 ·subst j
  have c:(Ae (val s1.l+val s2.l)).length≤s1.l.length+s2.l.length+1:=Bj (by rw[Nat.pow_succ];omega)
  have d:Am n1 s1+Am n1 s2=if n1 then -((val s1.l+val s2.l:Nat):Int) else ((val s1.l+val s2.l:Nat):Int):=by
   unfold Am;cases n1<;>simp;omega
  rw[show(n1==n1)=true by simp,ct,F0,Fk,Fk,XA rfl rfl f i b,sD,Ct rfl (Aa _) (b.le c),Ac,←d];exact FC _ _
 ·rw[show(n1==n2)=false by simp[j],cf,Fk,Fk,XB rfl rfl f i (b.le (by omega))]
  by_cases e:val s2.l≤val s1.l
  ·have c:(Ae (val s1.l - val s2.l)).length≤s1.l.length+s2.l.length+1:=Bj (by rw[Nat.pow_succ];omega)
   have d:Am n1 s1+Am n2 s2=if n1 then -((val s1.l - val s2.l:Nat):Int) else ((val s1.l - val s2.l:Nat):Int):=by
    unfold Am;cases n1<;>cases n2<;>simp at j ⊢<;>omega
   rw[if_pos e,ct,F0,sD,Ct rfl (Aa _) (b.le c),Ac,←d];exact FC _ _
  ·have c:(Ae (val s2.l - val s1.l)).length≤s1.l.length+s2.l.length+1:=Bj (by rw[Nat.pow_succ];omega)
   have d:Am n1 s1+Am n2 s2=if n2 then -((val s2.l - val s1.l:Nat):Int) else ((val s2.l - val s1.l:Nat):Int):=by
    unfold Am;cases n1<;>cases n2<;>simp at j ⊢<;>omega
   rw[if_neg e,cf,Fk,Fk,XB rfl rfl i f (b.le (by omega)),if_pos (by omega),F0,sD,Ct rfl (Aa _) (b.le c),Ac,←d];exact FC _ _
theorem sF {N:Nat} {n1 n2:Bool} {s1 s2:LS} {o1 o2:Bool} {K:LA→O R} (d:Ad s1.l) (b:Ad s2.l) (c:fit (s1.l.length+s2.l.length+1) N):HM N (A8 n1 s1) o1 (A8 n2 s2) o2 K=K (As (Am n1 s1 - Am n2 s2)):=by
 have f:(Ae (-Am n2 s2).natAbs).length≤s2.l.length:=by rw[Int.natAbs_neg,A6];exact(Au b).2
 rw[aR];unfold gF
 rw[Pf,ct,Pf,ct,NV,NV,kw b (c.le (by omega))]
 have:=iA (R:=R) (N:=N) (n1:=n1) (s1:=s1) (n2:=decide (-Am n2 s2<0)) (s2:=.of (Ae (-Am n2 s2).natAbs) false false) (o1:=o1) (o2:=false) (K:=fun e=>(cond ((Nat.beq 0 0)&&((Nat.beq (List.length e) 2)&&(Nat.beq 2 2))) (cond (Nat.ble 2 (List.length e)) (K (List.take 2 e)) none) none)) d (Aa _) (c.le (show s1.l.length+(Ae (-Am n2 s2).natAbs).length+1≤_ by omega))
 rw[B3,←Int.sub_eq_add_neg] at this
 exact this.trans (FC _ _)
theorem vI {N:Nat} {n1 n2:Bool} {s1 s2:LS} {o1 o2:Bool} {K:LA→O R} (b:Ad s1.l) (c:Ad s2.l) (d:fit (3*(s1.l.length+s2.l.length)+4) N):SE N (A8 n1 s1) o1 (A8 n2 s2) o2 K=K (As ((Nat.gcd (Am n1 s1).natAbs (Am n2 s2).natAbs:Nat):Int)):=by
 have e:(Ae (Nat.gcd (val s1.l) (val s2.l))).length≤s1.l.length+s2.l.length:=by
  rcases Nat.eq_zero_or_pos (val s1.l) with h | h
  ·rw[h,Nat.gcd_zero_left];have:=(Au c).2;omega
  ·have:=An (Nat.gcd_le_left (val s2.l) h);have:=(Au b).2;omega
 rw[aJ];unfold fj
 rw[Fk,Fk,vF rfl rfl b c d,sD,Ct rfl (Aa _) (d.le (by omega)),Ac,A6,A6];exact FC _ _
theorem FD {N:Nat} {n1:Bool} {s1:LS} {g:Nat} {o1 o2:Bool} {K:LA→LA→Bool→O R} (e:Ad s1.l) (j:0<g) (i:g∣val s1.l) (d:fit (s1.l.length+2*(Ae g).length+4) N):Gu N (A8 n1 s1) o1 (As (g:Int)) o2 K=K (As (Am n1 s1/(g:Int))) (As 0) true:=by
 have b:As (g:Int)=A8 false (.of (Ae g) false false):=by
  unfold As;rw[decide_eq_false (by omega),Int.natAbs_natCast]
 have hq:(Ae (val s1.l/g)).length≤s1.l.length:=Nat.le_trans (An (Nat.div_le_self _ _)) (Au e).2
 rw[b,Sn];unfold Uu
 rw[Fk,Fk,show(LS.of (Ae g) false false).l=Ae g by rfl]
 rw[Ma rfl rfl e (Aa _) (by rw[Ac];omega) d,Ac,Nat.mod_eq_zero_of_dvd i,show(!true)=false by rfl,cf,F0,F0,sD,Ct rfl (Aa _) (d.le (by omega)),F0,sD,Ct rfl (Aa _) (d.le (by simp[Bt])),Ac,Ac]
 have k:(if n1=true then -((0:Nat):Int) else ((0:Nat):Int))=0:=by cases n1<;>rfl
 have m:(if (!(n1==false))=true then -((val s1.l/g:Nat):Int) else ((val s1.l/g:Nat):Int))=Am n1 s1/(g:Int):=by
  obtain⟨c,b⟩:=i
  have n:val s1.l/g=c:=by rw[b,Nat.mul_div_cancel_left _ j]
  rw[n];unfold Am;rw[b]
  cases n1
  ·simp;rw[Int.mul_ediv_cancel_left _ (by omega)]
  ·simp only[Bool.true_beq,Bool.not_false,if_true]
   rw[show -((g*c:Nat):Int)=(g:Int)*(-(c:Int)) by rw[Int.mul_neg];simp,Int.mul_ediv_cancel_left _ (by omega)]
 rw[k,m]
 generalize Am n1 s1/(g:Int)=q
 have s:∀ (f:Bool→O R),Pa (As 0) f=f false:=fun f=>F0
 rw[show((Nat.beq 0 0)&&((Nat.beq (List.length (As q)) 2)&&(Nat.beq 2 2)))=true by rfl,ct,show((Nat.beq 0 0)&&((Nat.beq (List.length (As 0)) 2)&&(Nat.beq 2 2)))=true by rfl,ct,s,cf]
 rfl
end
end Gx

namespace Gx
open Go Go.Proofs
section
variable {R:Type}
def sG (q:Rat):RatD:=⟨decide (q.num<0),.of (Ae q.num.natAbs) false false,.of (Ae q.den) false false⟩
def cq (q:Rat):LA:=(sG q).av
theorem mt (q:Rat):(sG q).can q:=⟨rfl,rfl,rfl⟩
theorem iB (q:Rat):(sG q).q=q:=(mt q).q
theorem XI (q:Rat):(sG q).ok:=(mt q).ok
theorem tK (q:Rat):(sG q).m=qm q:=(mt q).m
theorem ky (q:Rat) (K:LA→O R):(cond ((Nat.beq 0 0)&&((Nat.beq (List.length (cq q)) 3)&&(Nat.beq 3 3))) (cond (Nat.ble 3 (List.length (cq q))) (K (List.take 3 (cq q))) none) none)=K (cq q):=rfl
theorem LE (q:Rat):Nat.ble 2 (List.length (cq q))=true:=rfl
theorem V5 (q:Rat):List.take 2 (cq q)=As q.num:=rfl
theorem xh:cq 0=[(.bool false),(.imm [] 0 1 false false),(.imm [(.int .u32 1)] 1 1 false false)]:=by
 have e:cq 0=[.bool false,.imm (Ab (Ae 0)) (Ae 0).length 1 false false,.imm (Ab (Ae 1)) (Ae 1).length 1 false false]:=rfl
 rw[e,Oc];rfl
theorem sH {N:Nat} {K:LA→O R}:EN N K=K (cq 0):=by
 rw[RT];unfold WU
 rw[xh]
theorem ze {N:Nat} {z:Int} {o:Bool} {K:LA→O R} (b:fit (Ae z.natAbs).length N):Qf N (As z) o K=K (As (-z)):=by
 have:=kw (R:=R) (N:=N) (n:=decide (z<0)) (s:=.of (Ae z.natAbs) false false) (o:=o) (K:=K) (Aa _) b
 rw[B3] at this;exact this
theorem zL {N:Nat} {z:Int} {o:Bool} {K:Int→O R} (b:fit (Ae z.natAbs).length N):Si N (As z) o K=K z.sign:=by
 have:=h_ (R:=R) (N:=N) (n:=decide (z<0)) (s:=.of (Ae z.natAbs) false false) (o:=o) (K:=K) (Aa _) b
 rw[B3] at this;exact this
theorem yd {N:Nat} {z w:Int} {o o':Bool} {K:LA→O R} (b:fit ((Ae z.natAbs).length+(Ae w.natAbs).length) N):U4 N (As z) o (As w) o' K=K (As (z*w)):=by
 have:=sE (R:=R) (N:=N) (n1:=decide (z<0)) (s1:=.of (Ae z.natAbs) false false) (n2:=decide (w<0)) (s2:=.of (Ae w.natAbs) false false) (o1:=o) (o2:=o') (K:=K) (Aa _) (Aa _) b
 rw[B3,B3] at this;exact this
theorem zM {N:Nat} {z w:Int} {o o':Bool} {K:LA→O R} (b:fit ((Ae z.natAbs).length+(Ae w.natAbs).length+1) N):Qe N (As z) o (As w) o' K=K (As (z+w)):=by
 have:=iA (R:=R) (N:=N) (n1:=decide (z<0)) (s1:=.of (Ae z.natAbs) false false) (n2:=decide (w<0)) (s2:=.of (Ae w.natAbs) false false) (o1:=o) (o2:=o') (K:=K) (Aa _) (Aa _) b
 rw[B3,B3] at this;exact this
theorem mu (z:Int):mkRat z 1=(z:Rat):=by
 apply Rat.ext
 ·rw[Rat.num_mkRat,if_neg (by decide),Nat.gcd_one_left];simp
 ·rw[Rat.den_mkRat,if_neg (by decide),Nat.gcd_one_left];simp
theorem tL (z:Int) (w:Nat) (b:w≠0):(mkRat z w).num=z/((Nat.gcd z.natAbs w:Nat):Int)∧(mkRat z w).den=w/Nat.gcd z.natAbs w:=by
 refine⟨?_,?_⟩
 ·rw[Rat.num_mkRat,if_neg b,Nat.gcd_comm w]
 ·rw[Rat.den_mkRat,if_neg b,Nat.gcd_comm w]
theorem bZ {N:Nat} {n1 n2:Bool} {s1 s2:LS} {o1 o2:Bool} {K:LA→O R} (n:Ad s1.l) (i:Ad s2.l) (x:0≤Am n2 s2) (d:fit (4*(s1.l.length+s2.l.length)+10) N):H9 N (A8 n1 s1) o1 (A8 n2 s2) o2 K=K (cq (mkRat (Am n1 s1) (Am n2 s2).natAbs)):=by
 have e:=A6 n2 s2
 have j:=A6 n1 s1
 rw[SG];unfold HN
 rw[Pf,ct,NV,h_ i (d.le (by omega))]
 by_cases y:Am n2 s2=0
 ·rw[y,show((0:Int).sign==0)=true by rfl,ct,sH]
  rw[show(0:Int).natAbs=0 by rfl,Rat.mkRat_zero];exact ky _ _
 ·have A:(Am n2 s2).natAbs≠0:=by omega
  have q:((Am n2 s2).sign==0)=false:=by rw[Int.sign_eq_one_of_pos (by omega)];rfl
  rw[q,cf,ct,Ks i (d.le (by omega)),show((Nat.beq 0 0)&&((Nat.beq (List.length (As (Am n2 s2))) 2)&&(Nat.beq 2 2)))=true by rfl,ct]
  have rb:∀ (z:Int) (f:Bool→O R),Pa (As z) f=f (decide (z<0)):=fun z f=>F0
  have rl:∀ (z:Int) (f:LA→Nat→O R),Ip 1 (List.drop 1 (As z)) f=f (Ab (Ae z.natAbs)) (Ae z.natAbs).length:=fun z f=>Fk
  have l2:=(Au i).2
  have l1:=(Au n).2
  rw[rb,decide_eq_false (by omega),show((!false)==true)=true by rfl,ct,rl,pd,SF (a:=Ae (Am n2 s2).natAbs) (b:=[1]) (m:=1) rfl rfl (d.le (by rw[e];omega)),tD]
  by_cases c:(Am n2 s2).natAbs=1
  ·rw[c,Oc,show decide (([1]:List Nat)=[1])=true by decide,ct,Pf,ct,NV,Ks n (d.le (by omega)),rl,c,Oc]
   rw[mu]
   have B:cq ((Am n1 s1:Int):Rat)=[.bool (decide (Am n1 s1<0)),.imm (Ab (Ae (Am n1 s1).natAbs)) (Ae (Am n1 s1).natAbs).length 1 false false,.imm (Ab [1]) 1 1 false false]:=by
    unfold cq sG RatD.av LS.av
    rw[Rat.num_intCast,Rat.den_intCast,Oc];rfl
   rw[B];rfl
  ·have s:decide (Ae (Am n2 s2).natAbs=[1])=false:=by
    rw[decide_eq_false_iff_not];intro C
    have:=congrArg val C
    rw[Ac] at this;simp[val] at this;omega
   rw[s,cf]
   unfold Uv
   have k:0<Nat.gcd (Am n1 s1).natAbs (Am n2 s2).natAbs:=Nat.gcd_pos_of_pos_right _ (by omega)
   have D:(Ae (Nat.gcd (Am n1 s1).natAbs (Am n2 s2).natAbs)).length≤s2.l.length:=Nat.le_trans (An (Nat.gcd_le_right _ (by omega))) (by rw[e];exact l2)
   have t:Nat.gcd (Am n1 s1).natAbs (Am n2 s2).natAbs∣val s1.l:=by rw[←j];exact Nat.gcd_dvd_left _ _
   have u:Nat.gcd (Am n1 s1).natAbs (Am n2 s2).natAbs∣val s2.l:=by rw[←e];exact Nat.gcd_dvd_right _ _
   obtain⟨F,G⟩:=tL (Am n1 s1) (Am n2 s2).natAbs A
   rw[Pf,ct,Pf,ct,NV,NV,vI n i (d.le (by omega))]
   generalize I:Nat.gcd (Am n1 s1).natAbs (Am n2 s2).natAbs=g at *
   rw[show((Nat.beq 0 0)&&((Nat.beq (List.length (As (g:Int))) 2)&&(Nat.beq 2 2)))=true by rfl,ct,ct,show Nat.ble 2 (List.length (As (g:Int)))=true by rfl,ct,iV,FD n k t (d.le (by omega))]
   rw[show ∀ z:Int,((Nat.beq 0 0)&&((Nat.beq (List.length (As z)) 2)&&(Nat.beq 2 2)))=true from fun z=>rfl,ct,show((Nat.beq 0 0)&&((Nat.beq (List.length (As 0)) 2)&&(Nat.beq 2 2)))=true by rfl,ct,ct,FD i k u (d.le (by omega))]
   have v:Am n2 s2/(g:Int)=(((Am n2 s2).natAbs/g:Nat):Int):=by
    rw[show Am n2 s2=(((Am n2 s2).natAbs:Nat):Int) by omega];rfl
   rw[show ∀ z:Int,((Nat.beq 0 0)&&((Nat.beq (List.length (As z)) 2)&&(Nat.beq 2 2)))=true from fun z=>rfl,ct,ct,rb,v,decide_eq_false (by omega),cf,show ∀ z:Int,Nat.ble 2 (List.length (As z))=true from fun z=>rfl,ct,rl,Int.natAbs_natCast,←G]
   rw[←F];rfl
theorem tM {N:Nat} {z w:Int} {o o':Bool} {K:LA→O R} (b:0≤w) (c:fit (4*((Ae z.natAbs).length+(Ae w.natAbs).length)+10) N):H9 N (As z) o (As w) o' K=K (cq (mkRat z w.natAbs)):=by
 have:=bZ (R:=R) (N:=N) (n1:=decide (z<0)) (s1:=.of (Ae z.natAbs) false false) (n2:=decide (w<0)) (s2:=.of (Ae w.natAbs) false false) (o1:=o) (o2:=o') (K:=K) (Aa _) (Aa _) (by rw[B3];exact b) c
 rw[B3,B3] at this;exact this
theorem E5 {N:Nat} {x:RatD} {o:Bool} {K:LA→O R} (b:x.ok) (c:fit (8*x.m+10) N):Cs N x.av o K=K (cq x.q):=by
 have m1:x.ns.l.length≤x.m:=Nat.le_max_left _ _
 have m2:x.ds.l.length≤x.m:=Nat.le_max_right _ _
 rw[TA];unfold WZ
 rw[show Nat.ble 2 (List.length x.av)=true by rfl,ct,XG,yL,hZ,bZ (s2:=.of x.ds.l false o) b.1 b.2 (by unfold Am;simp) (c.le (show 4*(x.ns.l.length+x.ds.l.length)+10≤_ by omega))]
 have:mkRat (Am x.neg x.ns) (Am false (.of x.ds.l false o)).natAbs=x.q:=by rw[A6];rfl
 rw[this];exact ky _ _
theorem Q9 {N:Nat} {x:RatD} {o:Bool} {K:LA→O R} (b:x.ok) (c:fit (8*x.m+10) N):Ob N x.av o K=K (As (x.q.den:Int)):=by
 rw[bJ];unfold ge
 rw[Kr,ct,Eh,E5 b c]
 have:=XG (R:=R) (x:=sG x.q) (f:=fun e f=>K [(.bool false),(.imm e f 1 false false)])
 refine this.trans ?_
 unfold As;rw[decide_eq_false (by omega),Int.natAbs_natCast];rfl
theorem So (x:RatD) (b:x.ok):qm x.q≤x.m+1:=by
 have m1:x.ns.l.length≤x.m:=Nat.le_max_left _ _
 have m2:x.ds.l.length≤x.m:=Nat.le_max_right _ _
 unfold qm
 by_cases h:val x.ds.l=0
 ·have:x.q=0:=by unfold RatD.q;rw[h,Rat.mkRat_zero]
  rw[this,Rat.zero_num,Rat.zero_den,Oc];simp[Bt]
 ·obtain⟨a1,_,a3⟩:=mr (Am x.neg x.ns) (val x.ds.l) h
  have c:x.q.num.natAbs≤val x.ns.l:=by show(mkRat _ _).num.natAbs≤_;rw[a1,A6];exact Nat.div_le_self _ _
  have d:x.q.den≤val x.ds.l:=by show(mkRat _ _).den≤_;rw[a3];exact Nat.div_le_self _ _
  have c1:=Nat.le_trans (An c) (Au b.1).2
  have e:=Nat.le_trans (An d) (Au b.2).2
  omega
theorem wt (z:Int) (d:Nat) (k:Nat) (b:z.natAbs<4294967296 ^ k) (c:d<4294967296 ^ k) (e:d≠0):qm (mkRat z d)≤k:=by
 obtain⟨a1,_,a3⟩:=mr z d e
 unfold qm
 have f:(mkRat z d).num.natAbs≤z.natAbs:=by rw[a1];exact Nat.div_le_self _ _
 have i:(mkRat z d).den≤d:=by rw[a3];exact Nat.div_le_self _ _
 have c1:=Bj (Nat.lt_of_le_of_lt f b)
 have j:=Bj (Nat.lt_of_le_of_lt i c)
 omega
theorem OJ (q:Rat):q.num.natAbs<4294967296 ^ qm q:=OI (Nat.le_max_left _ _)
theorem FE (q:Rat):q.den<4294967296 ^ qm q:=OI (Nat.le_max_right _ _)
theorem ye (a b:Rat):qm (a+b)≤qm a+qm b+1:=by
 rw[Rat.add_def']
 have da:((a.den:Nat):Int).natAbs<4294967296 ^ qm a:=by rw[Int.natAbs_natCast];exact FE a
 have db:((b.den:Nat):Int).natAbs<4294967296 ^ qm b:=by rw[Int.natAbs_natCast];exact FE b
 refine wt _ _ _ ?_ ?_ (Nat.mul_ne_zero a.den_nz b.den_nz)
 ·refine pe (Ow (OJ a) db) ?_
  have:=Ow (OJ b) da
  rwa [Nat.add_comm (qm b)] at this
 ·rw[Nat.pow_succ,Nat.pow_add]
  have:=Nat.mul_lt_mul'' (FE a) (FE b)
  omega
theorem yf (a b:Rat):qm (a*b)≤qm a+qm b:=by
 rw[Rat.mul_def']
 refine wt _ _ _ (Ow (OJ a) (OJ b)) ?_ (Nat.mul_ne_zero a.den_nz b.den_nz)
 rw[Nat.pow_add];exact Nat.mul_lt_mul'' (FE a) (FE b)
theorem wu (a:Rat):qm (-a)=qm a:=by unfold qm;rw[Rat.neg_num,Rat.neg_den,Int.natAbs_neg]
theorem yg (a b:Rat):qm (a - b)≤qm a+qm b+1:=by rw[Rat.sub_eq_add_neg,←wu b];exact ye _ _
theorem zx {a:Int} {b:Nat}:mkRat a ((b:Int)).natAbs=mkRat a b:=by rw[Int.natAbs_natCast]
theorem sI {N:Nat} {x:RatD} {o:Bool} {K:LA→O R} (c:x.ok) (b:fit (16*x.m+40) N):TJ N x.av o K=K (cq (-x.q)):=by
 have hq:=So x c
 have d:(Ae x.q.num.natAbs).length≤qm x.q:=Nat.le_max_left _ _
 have e:(Ae x.q.den).length≤qm x.q:=Nat.le_max_right _ _
 rw[bL];unfold gi
 rw[Kr,ct,Eh,E5 c (b.le (by omega)),LE,ct,V5,ze (b.le (show(Ae x.q.num.natAbs).length≤_ by omega)),ct,Q9 c (b.le (by omega)),tM (by omega) (b.le (show 4*((Ae (-x.q.num).natAbs).length+(Ae ((x.q.den:Nat):Int).natAbs).length)+10≤_ by rw[Int.natAbs_neg,Int.natAbs_natCast];omega)),zx]
 have:mkRat (-x.q.num) x.q.den=-x.q:=by rw[←Rat.neg_mkRat,Rat.mkRat_self]
 rw[this];exact ky _ _
theorem sJ {N:Nat} {x y:RatD} {o o':Bool} {K:LA→O R} (c:x.ok) (d:y.ok) (b:fit (16*(x.m+y.m)+80) N):TK N x.av o y.av o' K=K (cq (x.q+y.q)):=by
 have e:=So x c
 have f:=So y d
 have x1:=OJ x.q
 have x2:((x.q.den:Nat):Int).natAbs<4294967296 ^ qm x.q:=by rw[Int.natAbs_natCast];exact FE _
 have y1:=OJ y.q
 have y2:((y.q.den:Nat):Int).natAbs<4294967296 ^ qm y.q:=by rw[Int.natAbs_natCast];exact FE _
 have L1:=Bj x1
 have L2:=Bj x2
 have L3:=Bj y1
 have L4:=Bj y2
 have z1:=Ow x1 y2
 have z2:=Ow y1 x2
 have z3:=pe (k:=qm x.q+qm y.q) z1 (by rwa [Nat.add_comm])
 have z4:=Ow x2 y2
 have M1:=Bj z1
 have M2:=Bj z2
 have M3:=Bj z3
 have M4:=Bj z4
 rw[bO];unfold gp
 rw[Kr,ct,Eh,E5 c (b.le (by omega)),Kr,ct,Eh,E5 d (b.le (by omega)),show ∀ q,((Nat.beq 0 0)&&((Nat.beq (List.length (cq q)) 3)&&(Nat.beq 3 3)))=true from fun q=>rfl,ct,show ∀ q,((Nat.beq 0 0)&&((Nat.beq (List.length (cq q)) 3)&&(Nat.beq 3 3)))=true from fun q=>rfl,ct,LE,ct,ct,Q9 d (b.le (by omega)),V5,yd (b.le (show(Ae x.q.num.natAbs).length+(Ae ((y.q.den:Nat):Int).natAbs).length≤_ by omega)),LE,ct,ct,Q9 c (b.le (by omega)),V5,yd (b.le (show(Ae y.q.num.natAbs).length+(Ae ((x.q.den:Nat):Int).natAbs).length≤_ by omega)),zM (b.le (show(Ae (x.q.num*((y.q.den:Nat):Int)).natAbs).length+(Ae (y.q.num*((x.q.den:Nat):Int)).natAbs).length+1≤_ by omega)),ct,Q9 c (b.le (by omega)),ct,Q9 d (b.le (by omega)),yd (b.le (show(Ae ((x.q.den:Nat):Int).natAbs).length+(Ae ((y.q.den:Nat):Int).natAbs).length≤_ by omega)),tM (Int.mul_nonneg (by omega) (by omega)) (b.le (show 4*((Ae (x.q.num*((y.q.den:Nat):Int)+y.q.num*((x.q.den:Nat):Int)).natAbs).length+(Ae (((x.q.den:Nat):Int)*((y.q.den:Nat):Int)).natAbs).length)+10≤_ by omega))]
 have:mkRat (x.q.num*((y.q.den:Nat):Int)+y.q.num*((x.q.den:Nat):Int)) (((x.q.den:Nat):Int)*((y.q.den:Nat):Int)).natAbs=x.q+y.q:=by
  rw[Rat.add_def',Int.natAbs_mul,Int.natAbs_natCast,Int.natAbs_natCast]
 rw[this];exact ky _ _
theorem sK {N:Nat} {x y:RatD} {o o':Bool} {K:LA→O R} (d:x.ok) (b:y.ok) (c:fit (16*(x.m+y.m)+100) N):TL N x.av o y.av o' K=K (cq (x.q - y.q)):=by
 have f:=So y b
 rw[bS];unfold gu
 rw[Kr,ct,Kr,ct,Eh,Eh,sI b (c.le (by omega))]
 have:=sJ (R:=R) (N:=N) (x:=x) (y:=sG (-y.q)) (o:=o) (o':=false) (K:=fun e=>(cond ((Nat.beq 0 0)&&((Nat.beq (List.length e) 3)&&(Nat.beq 3 3))) (cond (Nat.ble 3 (List.length e)) (K (List.take 3 e)) none) none)) d (XI _) (c.le (by rw[tK,wu];omega))
 rw[iB,←Rat.sub_eq_add_neg] at this
 exact this.trans (ky _ _)
theorem pf {N:Nat} {x:RatD} {o:Bool} {K:Int→O R} (b:x.ok) (c:fit (8*x.m+10) N):E_ N x.av o K=K x.q.num.sign:=by
 have hq:=So x b
 have d:(Ae x.q.num.natAbs).length≤qm x.q:=Nat.le_max_left _ _
 rw[TM];unfold W_
 rw[Kr,ct,Eh,E5 b c,LE,ct,V5,zL (c.le (show(Ae x.q.num.natAbs).length≤_ by omega))]
theorem wv (a b:Rat):(a - b).num.sign=sC a b:=by
 unfold sC
 by_cases h:a<b
 ·rw[if_pos h]
  have c:a - b<0:=by grind
  have:(a - b).num<0:=by
   apply Int.not_le.1;intro d
   exact absurd (Rat.num_nonneg.1 d) (Rat.not_le.2 c)
  exact Int.sign_eq_neg_one_of_neg this
 ·rw[if_neg h]
  by_cases d:b<a
  ·rw[if_pos d]
   have c:0<a - b:=by grind
   have f:0≤(a - b).num:=Rat.num_nonneg.2 (Rat.le_of_lt c)
   have i:(a - b).num≠0:=fun e=>by
    have:=Rat.num_eq_zero.1 e
    rw[this] at c;exact absurd c Rat.lt_irrefl
   exact Int.sign_eq_one_of_pos (by omega)
  ·rw[if_neg d]
   have:a=b:=Rat.le_antisymm (Rat.not_lt.1 d) (Rat.not_lt.1 h)
   rw[this,Rat.sub_self];rfl
theorem iC {N:Nat} {x y:RatD} {o o':Bool} {K:Int→O R} (b:x.ok) (c:y.ok) (d:fit (16*(x.m+y.m)+100) N):K4 N x.av o y.av o' K=K (sC x.q y.q):=by
 have e:=So x b
 have f:=So y c
 have i:=yg x.q y.q
 rw[BE];unfold Zu
 rw[Kr,ct,Kr,ct,Eh,Eh,sK b c d]
 have:=pf (R:=R) (N:=N) (x:=sG (x.q - y.q)) (o:=false) (K:=fun g=>K g) (XI _) (d.le (by rw[tK];omega))
 rw[iB,wv] at this
 exact this
theorem TR {N:Nat} {v w:Int} {K:LA→O R} (b:-9223372036854775808≤v∧v≤9223372036854775807) (d:0≤w∧w≤9223372036854775807) (hN:4000≤N):Pe N v w K=K (cq (mkRat v w.natAbs)):=by
 have e:=Zd (show v.natAbs<18446744073709551616 by omega)
 have c:=Zd (show w.natAbs<18446744073709551616 by omega)
 rw[gM];unfold m9
 rw[Jz b (by omega),Jz (by omega) (by omega),tM (by omega) ⟨show 100*(4*((Ae v.natAbs).length+(Ae w.natAbs).length)+10)+1000≤N by omega,show 4*((Ae v.natAbs).length+(Ae w.natAbs).length)+10≤1000000000 by omega⟩]
 exact ky _ _
end
end Gx

namespace Gx
open Go Go.Proofs
section
variable {R:Type}
theorem vJ {N:Nat} {n1:Bool} {s1:LS} {o1:Bool} {K:Bool→Nat→LA→O R} (b:Ad s1.l) (c:fit s1.l.length N):gO N (A8 n1 s1) o1 K=K false (Ae (Am n1 s1).natAbs).length (Ab (Ae (Am n1 s1).natAbs)):=by
 rw[gP];unfold md
 rw[Fk,Q3 rfl b c,Ci,A6];rfl
theorem vK {N:Nat} {n1:Bool} {s1:LS} {o1:Bool} {K:Bool→Nat→LA→O R} (b:Ad s1.l) (d:fit s1.l.length N):eI N (A8 n1 s1) o1 K=K (decide (-Am n1 s1<0)) (Ae (Am n1 s1).natAbs).length (Ab (Ae (Am n1 s1).natAbs)):=by
 obtain⟨c1,e⟩:=Jb (z:=-Am n1 s1) (c:=!n1) (m:=val s1.l) (by unfold Am;cases n1<;>simp)
 rw[eJ];unfold mL
 rw[F0,Fk,Q3 rfl b d,Ci,c1,A6]
theorem yM {A:Nat} (h:A≤9223372036854775808):cond true (decide ((A:Int)≤9223372036854775808)) false=true:=by
 rw[cond_true];exact decide_eq_true (by omega)
theorem yN {A:Nat} (h:A<9223372036854775808):cond true (decide ((A:Int)<9223372036854775808)) false=true:=by
 rw[cond_true];exact decide_eq_true (by omega)
theorem yh {A:Nat} (h:A≤9223372036854775808):IntKind.wrap .i64 (IntKind.wrap .u64 ((0:Int) - (A:Int)))=-(A:Int):=by
 rw[DI,IntKind.wrap_i64];omega
theorem pg {N:Nat} {n1:Bool} {s1:LS} {o1:Bool} {K:Int→Bool→O R} (c:Ad s1.l) (d:fit s1.l.length N) (b:-9223372036854775808≤Am n1 s1∧Am n1 s1≤9223372036854775807):Ou N (A8 n1 s1) o1 K=K (Am n1 s1) true:=by
 have f:=A6 n1 s1
 rw[SM];unfold HO
 rw[Fk,F6 rfl c d,if_pos (by omega),show(!true)=false by rfl,cf,F0]
 cases n1
 ·have e:Am false s1=(val s1.l:Int):=rfl
  rw[e] at b ⊢
  rw[show(false==true)=false by rfl,cf]
  dsimp only
  unfold Ot
  rw[cf,F0,show((!false)==true)=true by rfl,ct,yN (by omega),ct,i64 (by omega)]
 ·have e:Am true s1=-(val s1.l:Int):=rfl
  rw[e] at b ⊢
  rw[show(true==true)=true by rfl,ct,yM (by omega)]
  dsimp only
  unfold Ot
  rw[ct,yh (by omega)]
theorem FF {A B:Nat} (hB:0<B):(-(A:Int))/(B:Int)=(if A%B=0 then -((A/B:Nat):Int) else -((A/B+1:Nat):Int))∧(-(A:Int))%(B:Int)=(if A%B=0 then 0 else ((B - A%B:Nat):Int)):=by
 have i:=Nat.div_add_mod A B
 have j:=Nat.mod_lt A hB
 have key:∀ q r:Int,r+(B:Int)*q=-(A:Int)→0≤r→r<(B:Int)→(-(A:Int))/(B:Int)=q∧(-(A:Int))%(B:Int)=r:=fun q r e c d =>
  (Int.ediv_emod_unique (by omega)).2 ⟨e,c,d⟩
 have f:((B*(A/B):Nat):Int)=(B:Int)*((A/B:Nat):Int):=Int.natCast_mul ..
 by_cases b:A%B=0
 ·rw[if_pos b,if_pos b]
  refine key _ _ ?_ (by omega) (by omega)
  rw[Int.mul_neg,←f];omega
 ·rw[if_neg b,if_neg b]
  refine key _ _ ?_ (by omega) (by omega)
  rw[Int.mul_neg,Int.natCast_add,Int.mul_add,←f];omega
theorem Qk {N:Nat} {n1 n2:Bool} {s1 s2:LS} {o1 o2:Bool} {K:LA→LA→Bool→O R} (C:Ad s1.l) (i:Ad s2.l) (j:0<Am n2 s2) (k:fit (s1.l.length+s2.l.length+4) N) :
  Dm N (A8 n1 s1) o1 (A8 n2 s2) o2 K=K (As (Am n1 s1/Am n2 s2)) (As (Am n1 s1%Am n2 s2)) true:=by
 have n:n2=false:=by
  cases n2
  ·rfl
  ·unfold Am at j;simp at j;omega
 subst n
 have L:Am false s2=(val s2.l:Int):=rfl
 rw[L] at j ⊢
 have q:val s2.l≠0:=by omega
 obtain⟨Sq,Sr,a1,a2,a3,a4,a5⟩:=Ug (R:=R) (N:=N) (a:=s1.l) (b:=s2.l) (t:=false) (o:=o1) (t':=false) (o':=o2) rfl rfl C i q k
 have hr:val s1.l%val s2.l<val s2.l:=Nat.mod_lt _ (by omega)
 have d:=(Au C).2
 have M:=(Au i).2
 rw[KO];unfold Zo
 rw[Fk,Fk,a5,show(!true)=false by rfl,cf,F0]
 by_cases s:(n1==true)=true∧0<val s1.l%val s2.l
 ·obtain⟨u,D⟩:=s
  have u:n1=true:=by simpa using u
  subst u
  have hd:0<(Ae (val s1.l%val s2.l)).length:=by
   rcases Nat.eq_zero_or_pos (Ae (val s1.l%val s2.l)).length with h | h
   ·have:=A0.1 h;omega
   ·exact h
  rw[show(true==true)=true by rfl,ct,show(cond true (decide ((((Ae (val s1.l%val s2.l)).length:Nat):Int)>0)) false)=true by simp;omega]
  dsimp only
  unfold E4
  have lq:(Ae (val s1.l/val s2.l)).length≤s1.l.length:=Nat.le_trans (An (Nat.div_le_self _ _)) d
  have lr:(Ae (val s1.l%val s2.l)).length≤s1.l.length:=Nat.le_trans (An (Nat.mod_le _ _)) d
  obtain⟨S2,S,F,T⟩:=o6 (R:=R) (N:=N) (a:=Ae (val s1.l/val s2.l)) (m:=1) (b:=[1]) (t:=false) (o:=true) (t':=false) (o':=true) rfl rfl (Aa _) XH (k.le (by simp;omega))
  obtain⟨S3,U,G,V⟩:=QS (R:=R) (N:=N) (a:=s2.l) (b:=Ae (val s1.l%val s2.l)) (t:=false) (o:=o2) (t':=false) (o':=true) rfl rfl i (Aa _) (k.le (by omega)) (by rw[Ac];omega)
  rw[ct,Av a1 a2,pd,T,Fk,Av a3 a4,V,F0,F0]
  have X:val (Ae (val s1.l/val s2.l))+val [1]=val s1.l/val s2.l+1:=by rw[Ac];simp[val]
  have Y:val s2.l - val (Ae (val s1.l%val s2.l))=val s2.l - val s1.l%val s2.l:=by rw[Ac]
  rw[X] at F ⊢;rw[Y] at G ⊢
  rw[Ci,Ci,Av S F,Av U G]
  obtain⟨e,f⟩:=FF (A:=val s1.l) (B:=val s2.l) (by omega)
  rw[if_neg (by omega)] at e f
  have ei:Am true s1=-(val s1.l:Int):=rfl
  rw[ei,e,f]
  obtain⟨c1,v⟩:=Jb (z:=-((val s1.l/val s2.l+1:Nat):Int)) (c:=!(true==false)) (m:=val s1.l/val s2.l+1) rfl
  rw[c1]
  have x:As (-((val s1.l/val s2.l+1:Nat):Int))=[.bool (decide (-((val s1.l/val s2.l+1:Nat):Int)<0)),.imm (Ab (Ae (val s1.l/val s2.l+1))) (Ae (val s1.l/val s2.l+1)).length 1 false false]:=by unfold As;rw[v];rfl
  have y:As ((val s2.l - val s1.l%val s2.l:Nat):Int)=[.bool false,.imm (Ab (Ae (val s2.l - val s1.l%val s2.l))) (Ae (val s2.l - val s1.l%val s2.l)).length 1 false false]:=by unfold As;rw[Int.natAbs_natCast,decide_eq_false (by omega)];rfl
  rw[x,y];rfl
 ·have I:n1=false∨val s1.l%val s2.l=0:=by
   cases n1
   ·exact .inl rfl
   ·right;simp at s;exact s
  have hc:(cond (n1==true) (E4 N K (Ae (val s1.l/val s2.l)).length (Ae (val s1.l%val s2.l)).length o1 (A8 n1 s1) o2 (A8 false s2) (Ab Sq) (Ab Sr) (cond true (decide ((((Ae (val s1.l%val s2.l)).length:Nat):Int)>0)) false)) (E4 N K (Ae (val s1.l/val s2.l)).length (Ae (val s1.l%val s2.l)).length o1 (A8 n1 s1) o2 (A8 false s2) (Ab Sq) (Ab Sr) false))=E4 N K (Ae (val s1.l/val s2.l)).length (Ae (val s1.l%val s2.l)).length o1 (A8 n1 s1) o2 (A8 false s2) (Ab Sq) (Ab Sr) false:=by
   rcases I with h | h
   ·subst h;rfl
   ·rw[h,Bt];cases n1<;>rfl
  refine Eq.trans hc ?_
  unfold E4
  rw[cf,F0,F0]
  rw[Ci,Ci,Av a1 a2,Av a3 a4]
  have hq:Am n1 s1/(val s2.l:Int)=(if (!(n1==false)) then -((val s1.l/val s2.l:Nat):Int) else ((val s1.l/val s2.l:Nat):Int))∧Am n1 s1%(val s2.l:Int)=((val s1.l%val s2.l:Nat):Int):=by
   rcases I with h | h
   ·subst h;exact⟨rfl,rfl⟩
   ·cases n1
    ·exact⟨rfl,rfl⟩
    ·obtain⟨e,f⟩:=FF (A:=val s1.l) (B:=val s2.l) (by omega)
     rw[if_pos h] at e f
     exact⟨e,by rw[h];exact f⟩
  obtain⟨c1,v⟩:=Jb hq.1
  rw[c1,hq.2]
  have x:As (Am n1 s1/(val s2.l:Int))=[.bool (decide (Am n1 s1/(val s2.l:Int)<0)),.imm (Ab (Ae (val s1.l/val s2.l))) (Ae (val s1.l/val s2.l)).length 1 false false]:=by unfold As;rw[v];rfl
  have y:As ((val s1.l%val s2.l:Nat):Int)=[.bool false,.imm (Ab (Ae (val s1.l%val s2.l))) (Ae (val s1.l%val s2.l)).length 1 false false]:=by unfold As;rw[Int.natAbs_natCast,decide_eq_false (by omega)];rfl
  rw[x,y];rfl
end
end Gx

namespace Gx
open Go Go.Proofs
section
variable {R:Type}
theorem ph (z:Int):((Nat.beq 0 0)&&((Nat.beq (List.length (As z)) 2)&&(Nat.beq 2 2)))=true:=rfl
theorem sL (z:Int):((Nat.beq (List.length (As z)) 2)&&(true&&(!false)))=true:=rfl
theorem ww (z:Int) (f:Bool→O R):Pa (As z) f=f (decide (z<0)):=F0
theorem v7 (z:Int) (f:LA→Nat→O R):Ip 1 (List.drop 1 (As z)) f=f (Ab (Ae z.natAbs)) (Ae z.natAbs).length:=Fk
theorem Xv (v:Nat):As (v:Int)=A8 false (.of (Ae v) false false):=by unfold As;rw[decide_eq_false (by omega),Int.natAbs_natCast]
theorem zf {N:Nat} {z:Int} {o:Bool} {K:LA→O R} (b:fit (Ae z.natAbs).length N):HL N (As z) o K=K (As (z.natAbs:Int)):=by
 have:=vH (R:=R) (N:=N) (n:=decide (z<0)) (s:=.of (Ae z.natAbs) false false) (o:=o) (K:=K) (Aa _) b
 rw[B3] at this;exact this
theorem zg {N:Nat} {z w:Int} {o o':Bool} {K:LA→O R} (b:fit ((Ae z.natAbs).length+(Ae w.natAbs).length+1) N):HM N (As z) o (As w) o' K=K (As (z - w)):=by
 have:=sF (R:=R) (N:=N) (n1:=decide (z<0)) (s1:=.of (Ae z.natAbs) false false) (n2:=decide (w<0)) (s2:=.of (Ae w.natAbs) false false) (o1:=o) (o2:=o') (K:=K) (Aa _) (Aa _) b
 rw[B3,B3] at this;exact this
theorem wx {N:Nat} {n1:Bool} {s1:LS} {g:Nat} {o1 o2:Bool} {K:LA→LA→Bool→O R} (n:Ad s1.l) (j:0<g) (b:fit (s1.l.length+2*(Ae g).length+10) N) :
  Gu N (A8 n1 s1) o1 (As (g:Int)) o2 K=K (As (Am n1 s1/(g:Int))) (As (Am n1 s1%(g:Int))) true:=by
 have k:=b.1
 have c:=(Au n).2
 have hq:(Ae (val s1.l/g)).length≤s1.l.length:=Nat.le_trans (An (Nat.div_le_self _ _)) c
 have q:(Ae (val s1.l%g)).length≤s1.l.length:=Nat.le_trans (An (Nat.mod_le _ _)) c
 have s:val s1.l%g<g:=Nat.mod_lt _ j
 rw[Sn];unfold Uu
 rw[Fk,v7,Int.natAbs_natCast]
 rw[Ma rfl rfl n (Aa _) (by rw[Ac];omega) (b.le (by omega)),Ac,show(!true)=false by rfl,cf,F0,ww,decide_eq_false (by omega),sD,Ct rfl (Aa _) (b.le (by omega)),F0,sD,Ct rfl (Aa _) (b.le (by omega)),Ac,Ac,ph,ct,ph,ct,ww]
 by_cases m:n1=false∨val s1.l%g=0
 ·have d:Am n1 s1/(g:Int)=(if (!(n1==false))=true then -((val s1.l/g:Nat):Int) else ((val s1.l/g:Nat):Int))∧Am n1 s1%(g:Int)=((val s1.l%g:Nat):Int):=by
   rcases m with h | h
   ·subst h;exact⟨rfl,rfl⟩
   ·cases n1
    ·exact⟨rfl,rfl⟩
    ·obtain⟨e,f⟩:=FF (A:=val s1.l) (B:=g) j
     rw[if_pos h] at e f
     exact⟨e,by rw[h];exact f⟩
  have t:(if n1=true then -((val s1.l%g:Nat):Int) else ((val s1.l%g:Nat):Int))=((val s1.l%g:Nat):Int):=by
   rcases m with h | h
   ·subst h;rfl
   ·rw[h];cases n1<;>rfl
  rw[←d.1,t,d.2,decide_eq_false (by omega),cf]
  rfl
 ·have u:n1=true:=by cases n1<;>simp_all
  subst u
  have i:val s1.l%g≠0:=fun h=>m (.inr h)
  obtain⟨e,f⟩:=FF (A:=val s1.l) (B:=g) j
  rw[if_neg i] at e f
  have ei:Am true s1=-(val s1.l:Int):=rfl
  rw[ei,e,f,if_pos rfl,if_pos (show(!true==false)=true by rfl)]
  have C:(Ae (-((val s1.l%g:Nat):Int)).natAbs).length≤s1.l.length:=by rw[Int.natAbs_neg,Int.natAbs_natCast];exact q
  have D:(Ae (-((val s1.l/g:Nat):Int)).natAbs).length≤s1.l.length:=by rw[Int.natAbs_neg,Int.natAbs_natCast];exact hq
  have v:(Ae ((g:Int).natAbs:Int).natAbs).length=(Ae g).length:=by simp
  have x:(Ae (1:Int).natAbs).length=1:=by rw[show(1:Int).natAbs=1 by rfl,Oc];rfl
  rw[decide_eq_true (by omega),ct,Tm,ct,Tm,ct,iV,iV,zf (b.le (by rw[Int.natAbs_natCast];omega)),zM (b.le (by rw[v];omega)),sL,ct,ww,decide_eq_false (by omega),cf,Tm,ct,iV,Jz (by omega) (by omega),zg (b.le (by rw[x];omega))]
  have y:-((val s1.l/g:Nat):Int) - 1=-((val s1.l/g+1:Nat):Int):=by omega
  have z:-((val s1.l%g:Nat):Int)+((g:Int).natAbs:Int)=((g - val s1.l%g:Nat):Int):=by omega
  rw[y,z]
  rfl
theorem xi {N:Nat} {z:Int} {g:Nat} {o1 o2:Bool} {K:LA→LA→Bool→O R} (b:0<g) (c:fit ((Ae z.natAbs).length+2*(Ae g).length+10) N) :
  Gu N (As z) o1 (As (g:Int)) o2 K=K (As (z/(g:Int))) (As (z%(g:Int))) true:=by
 have:=wx (R:=R) (N:=N) (n1:=decide (z<0)) (s1:=.of (Ae z.natAbs) false false) (g:=g) (o1:=o1) (o2:=o2) (K:=K) (Aa _) b c
 rw[B3] at this;exact this
theorem wy {N:Nat} {z w:Int} {o o':Bool} {K:Bool→O R} (c:fit (Ae z.natAbs).length N):Hj N (As z) o (As w) o' K=K (decide (z=w)):=by
 rw[V1];unfold Zq
 rw[ww,ww]
 by_cases b:decide (z<0)=decide (w<0)
 ·rw[b,show((decide (w<0)==decide (w<0))==true)=true by simp,ct,v7,v7,SF rfl rfl c,tD]
  congr 1
  have b:(z<0)↔(w<0):=by simpa using b
  rw[decide_eq_decide]
  constructor
  ·intro h
   have:=congrArg val h
   rw[Ac,Ac] at this;omega
  ·intro h;rw[h]
 ·rw[show((decide (z<0)==decide (w<0))==true)=false by simp;simpa using b,cf]
  have:decide (z=w)=false:=by
   rw[decide_eq_false_iff_not];intro h;subst h;exact b rfl
  rw[this]
theorem yi {N:Nat} {z:Int} {o:Bool} {K:Int→Bool→O R} (b:fit (Ae z.natAbs).length N) (d:-9223372036854775808≤z∧z≤9223372036854775807):Q8 N (As z) o K=K z true:=by
 rw[LB];unfold Zv
 have c:Fz N (As z) o=fun K:LA→O R=>K (As z):=by
  funext K
  have:=Ks (R:=R) (N:=N) (n:=decide (z<0)) (s:=.of (Ae z.natAbs) false false) (o:=o) (K:=K) (Aa _) b
  rw[B3] at this;exact this
 rw[Tm,ct,iV,c]
 dsimp only
 rw[sL,ct,ws,v7,L9 rfl (Aa _) b,Ac,if_pos (by omega),show(!true)=false by rfl,cf,ww]
 by_cases h:z<0
 ·rw[decide_eq_true h,show(true==true)=true by rfl,ct,yM (by omega)]
  unfold Mb
  rw[ct]
  congr 1
  have e:(z.natAbs:Int)=-z:=by omega
  rw[e,DI,IntKind.wrap_i64,IntKind.wrap_i64,IntKind.wrap_i64]
  omega
 ·rw[decide_eq_false h,show(false==true)=false by rfl,cf]
  unfold Mb
  rw[cf,ww,decide_eq_false h,show((!false)==true)=true by rfl,ct,yN (by omega),ct,i64 (by omega)]
  congr 1
  omega
end
end Gx

namespace Gx
open Go Go.Proofs
section
variable {R:Type}
def pi (n:Int) (d:Nat):Int:=if (d:Int)<2*(n%(d:Int))∨(2*(n%(d:Int))=d∧(n/(d:Int))%2=1) then n/(d:Int)+1 else n/(d:Int)
theorem wz {n:Int} {d k:Nat} (i:0<k):pi ((k:Int)*n) (k*d)=pi n d:=by
 unfold pi
 have b:(k:Int)*n/((k*d:Nat):Int)=n/(d:Int):=by rw[Int.natCast_mul];exact Int.mul_ediv_mul_of_pos _ _ (by omega)
 have c:(k:Int)*n%((k*d:Nat):Int)=(k:Int)*(n%(d:Int)):=by rw[Int.natCast_mul];exact Int.mul_emod_mul_of_pos _ _ (by omega)
 rw[b,c,Int.natCast_mul]
 have e:((k:Int)*d<2*((k:Int)*(n%d)))↔((d:Int)<2*(n%d)):=by
  rw[show 2*((k:Int)*(n%d))=(k:Int)*(2*(n%d)) by rw[Int.mul_left_comm]]
  exact Int.mul_lt_mul_left (by omega)
 have f:(2*((k:Int)*(n%d))=(k:Int)*d)↔(2*(n%d)=(d:Int)):=by
  rw[show 2*((k:Int)*(n%d))=(k:Int)*(2*(n%d)) by rw[Int.mul_left_comm]]
  exact Int.mul_eq_mul_left_iff (by omega)
 simp only[e,f]
def yj (q:Rat):Int:=pi q.num q.den
theorem xA (n:Int) (d:Nat) (c:d≠0):∃ k:Nat,0<k∧n=(k:Int)*(mkRat n d).num∧d=k*(mkRat n d).den:=by
 have e:0<Nat.gcd n.natAbs d:=Nat.gcd_pos_of_pos_right _ (by omega)
 obtain⟨f,i⟩:=tL n d c
 refine⟨Nat.gcd n.natAbs d,e,?_,?_⟩
 ·rw[f]
  have b:((Nat.gcd n.natAbs d:Nat):Int)∣n:=Int.dvd_natAbs.1 (Int.natCast_dvd_natCast.2 (Nat.gcd_dvd_left _ _))
  exact(Int.mul_ediv_cancel' b).symm
 ·rw[i];exact(Nat.mul_div_cancel' (Nat.gcd_dvd_right _ _)).symm
theorem xB (n:Int) (d:Nat) (b:d≠0):yj (mkRat n d)=pi n d:=by
 obtain⟨k,c,e,f⟩:=xA n d b
 unfold yj
 rw[←wz c,←e,←f]
theorem b6 (z:Int):As z=A8 (decide (z<0)) (.of (Ae z.natAbs) false false):=rfl
theorem TS (n:Int) (d:Nat) (c:0<d):(n/(d:Int)).natAbs≤n.natAbs:=by
 obtain⟨A,h⟩:=n.eq_nat_or_neg
 rcases h with rfl | rfl
 ·rw[show((A:Int)/(d:Int))=((A/d:Nat):Int) from rfl,Int.natAbs_natCast,Int.natAbs_natCast];exact Nat.div_le_self _ _
 ·rw[(FF c).1,Int.natAbs_neg,Int.natAbs_natCast]
  split
  ·rw[Int.natAbs_neg,Int.natAbs_natCast];exact Nat.div_le_self _ _
  ·rename_i e
   rw[Int.natAbs_neg,Int.natAbs_natCast]
   rcases Nat.eq_or_lt_of_le (show 1≤d from c) with b | b
   ·subst b;simp[Nat.mod_one] at e
   ·have f:0<A:=by
     rcases Nat.eq_zero_or_pos A with h | h
     ·subst h;simp at e
     ·exact h
    have:A/d<A:=Nat.div_lt_self f b
    omega
theorem xC (n:Int) (d:Nat) (b:0<d):(n%(d:Int)).natAbs<d:=by
 have c:=Int.emod_nonneg n (show(d:Int)≠0 by omega)
 have e:=Int.emod_lt_of_pos n (show(0:Int)<d by omega)
 omega
theorem sM {N:Nat} {x:RatD} {o:Bool} (i:x.ok) (b:fit (4*x.m+20) N):∃ (n:Int) (d:Nat) (l:List Nat) (o1 o2:Bool),d≠0∧mkRat n d=x.q∧Ad l∧val l=d∧l.length≤max x.m 1∧(Ae n.natAbs).length≤x.m ∧
  ∀ K:LA→LA→LA→Bool→O R,EZ N x.av o K=K (As (n/(d:Int))) (As (n%(d:Int))) (A8 false (.of l false o1)) o2:=by
 obtain⟨neg,s,l,o1,o2,c,f,j,k,t,u,v⟩:=Zw (R:=R) (N:=N) (o:=o) i (b.le (by omega))
 refine⟨Am neg s,val l,l,o2,(o2||false),j,u,f,rfl,t,by rw[A6];exact Nat.le_trans (Au c).2 k,fun K=>?_⟩
 rw[SO];unfold WY
 rw[Kr,ct,Eh,v,pc,ct,Pf,ct,NV,hZ,Qk (s2:=.of l false o2) c f (by show 0<Am false _;unfold Am;simp[LS.l];omega) (b.le (show s.l.length+l.length+4≤_ by omega))]
 have e:Am false (.of l false o2)=(val l:Int):=rfl
 rw[e]
 rfl
theorem xD {z:Int} {a:Nat} {t:List Nat} (h:Ae z.natAbs=a::t):a%2=1↔z%2=1:=by
 have b:z.natAbs=a+4294967296*val t:=by rw[←Ac z.natAbs,h];rfl
 omega
theorem xj {z:Int} (h:Ae z.natAbs=[]):z=0:=by
 have b:z.natAbs=0:=by rw[←Ac z.natAbs,h];rfl
 omega
theorem pj {N:Nat} {x:RatD} {o:Bool} {K:LA→O R} (z:x.ok) (f:fit (8*x.m+60) N):Xt N x.av o K=K (As (yj x.q)):=by
 obtain⟨n,d,l,o1,o2,A,B,k,s,U,C,D⟩:=sM (R:=R) (N:=N) (o:=o) z (f.le (by omega))
 have hN:=f.1
 have lf:(Ae (n/(d:Int)).natAbs).length≤x.m:=Nat.le_trans (An (TS n d (by omega))) C
 have lr:(Ae (n%(d:Int)).natAbs).length≤max x.m 1:=by
  have V:=xC n d (by omega)
  have:(Ae (n%(d:Int)).natAbs).length≤(Ae d).length:=An (by omega)
  have:=(Au k).2
  rw[s] at this
  omega
 rw[←B,xB n d A]
 unfold pi
 rw[SQ];unfold HR
 rw[Kr,ct,Eh,D,ph,ct,ph,ct]
 obtain⟨S,a1,a2,a3⟩:=XF (R:=R) (N:=N) (n1:=decide (n%(d:Int)<0)) (n2:=decide (n%(d:Int)<0)) (s1:=.of (Ae (n%(d:Int)).natAbs) false false) (s2:=.of (Ae (n%(d:Int)).natAbs) false false) (o1:=false) (o2:=false) (Aa _) (Aa _) (f.le (show(Ae (n%(d:Int)).natAbs).length+(Ae (n%(d:Int)).natAbs).length+1≤_ by omega))
 rw[B3] at a2 a3
 have F:=Int.emod_nonneg n (show(d:Int)≠0 by omega)
 have G:=Int.emod_lt_of_pos n (show(0:Int)<d by omega)
 generalize X:n%(d:Int)=r at *
 generalize hq:n/(d:Int)=q at *
 have l2:(Ae (r+r).natAbs).length≤max x.m 1+1:=by
  refine Bj ?_
  have:=OI (Nat.le_refl (Ae r.natAbs).length)
  have:=Ox lr
  rw[Nat.pow_succ];omega
 rw[pc,ct,Tm,ct,iV,b6 r,a3,Pf,ct,NV,Av a1 a2,hZ,V4 (s1:=.of (Ae (r+r).natAbs) false true) (s2:=.of l false o1) (Aa _) k (f.le (show(Ae (r+r).natAbs).length+l.length≤_ by omega)),B3]
 have e:Am false (.of l false o1)=(d:Int):=by show(val l:Int)=_;rw[s]
 rw[e,v7]
 have one:∀ c,(Bf N 1 (fun u n v=>(Y8 N (List.take 2 (As q)) c [(.bool u),(.imm (v.take (n*1)) n 1 false true)] true (fun w o x=>(K [(.bool w),(.imm (x.take (o*1)) o 1 false false)])))))=K (As (q+1)):=by
  intro c
  obtain⟨S1,I,L,M⟩:=Fl (R:=R) (N:=N) (v:=1) (by omega) (by omega)
  obtain⟨S2,c1,i,b⟩:=XF (R:=R) (N:=N) (n1:=decide (q<0)) (n2:=decide ((1:Int)<0)) (s1:=.of (Ae q.natAbs) false false) (s2:=.of (Ae (1:Int).natAbs) false true) (o1:=c) (o2:=true) (Aa _) (Aa _) (f.le (show(Ae q.natAbs).length+(Ae (1:Int).natAbs).length+1≤_ by rw[show(1:Int).natAbs=1 by rfl,Oc];simp;omega))
  rw[B3,B3] at i b
  rw[M,Av I L,iV,b6 q,hZ,b,Av c1 i]
  rfl
 have keep:(cond (Nat.ble 2 ((As q).length)) (cond ((Nat.beq 0 0)&&((Nat.beq (((As q).take 2).length) 2)&&(Nat.beq 2 2))) (cond (Nat.ble 2 (((As q).take 2).length)) (K (((As q).take 2).take 2)) none) none) none)=K (As q):=rfl
 have step:∀ odd:Bool,odd=decide (q%2=1)→Ov N K (Xu (r+r) (d:Int)) (As q) odd=K (As (if (d:Int)<2*r∨(2*r=d∧q%2=1) then q+1 else q)):=by
  intro odd y
  unfold Ov
  rw[keep]
  by_cases c1:(d:Int)<r+r
  ·have:Xu (r+r) d=1:=by unfold Xu;rw[if_neg (by omega),if_pos c1]
   rw[this,show((decide ((1:Int)>0))==false)=false by decide,cf,Tm,ct,one,if_pos (.inl (by omega))]
  ·by_cases i:r+r=(d:Int)
   ·have:Xu (r+r) d=0:=by unfold Xu;rw[if_neg (by omega),if_neg (by omega)]
    rw[this,show((decide ((0:Int)>0))==false)=true by decide,ct,show(((0:Int)==0)==true)=true by decide,ct]
    by_cases b:q%2=1
    ·rw[y,decide_eq_true b,show cond false true (cond true true false)=true by rfl,ct,Tm,ct,one,if_pos (.inr ⟨by omega,b⟩)]
    ·rw[y,decide_eq_false b,show cond false true (cond true false false)=false by rfl,cf,if_neg (by omega)]
   ·have:Xu (r+r) d=-1:=by unfold Xu;rw[if_pos (by omega)]
    rw[this,show((decide ((-1:Int)>0))==false)=true by decide,ct,show(((-1:Int)==0)==true)=false by decide,cf,if_neg (by omega)]
 cases j:Ae q.natAbs with
 | nil =>
  rw[show((decide ((((([]:List Nat).length:Nat):Int)>0))==true))=false by decide,cf]
  exact step false (by rw[xj j];rfl)
 | cons a t =>
  have T:(decide (((((a::t).length:Nat):Int)>0))==true)=true:=by simp
  rw[T,ct,v7,j,show Ao 0 (a::t).length=true by unfold Ao;simp,ct,Ni,Rp]
  have:cond true (Int.tmod (a:Int) 2==1) false=decide (q%2=1):=by
   rw[tD,show Int.tmod (a:Int) 2=((a%2:Nat):Int) by rfl]
   have:=xD j
   by_cases h:a%2=1
   ·rw[h,decide_eq_true (this.1 h)];rfl
   ·rw[show a%2=0 by omega,decide_eq_false (fun e=>h (this.2 e))];rfl
  exact step _ this
end
end Gx

namespace Gx
open Go Go.Proofs
section
variable {R:Type}
theorem zy (q:Rat):((Nat.beq 0 0)&&((Nat.beq (List.length (cq q)) 3)&&(Nat.beq 3 3)))=true:=rfl
theorem zN (q:Rat):Nat.ble 3 (List.length (cq q))=true:=rfl
theorem zh (q:Rat):List.take 3 (cq q)=cq q:=rfl
theorem zB (q:Rat) (f:LA→Nat→O R):Ip 1 (List.drop 2 (cq q)) f=f (Ab (Ae q.den)) (Ae q.den).length:=XG (x:=sG q)
theorem FG (q:Rat):(Ae q.num.natAbs).length≤qm q:=Nat.le_max_left _ _
theorem XJ (q:Rat):(Ae q.den).length≤qm q:=Nat.le_max_right _ _
theorem yk {N:Nat} {p q:Rat} {o o':Bool} {K:Bool→O R} (b:fit (qm p) N):Dn N (cq p) o (cq q) o' K=K (decide (p=q)):=by
 rw[V3];unfold Zr
 rw[LE,ct,LE,ct,V5,V5,wy (b.le (FG p)),zB,zB]
 by_cases h:p.num=q.num
 ·rw[decide_eq_true h,show(true==true)=true by rfl,ct,SF rfl rfl (b.le (XJ p)),tD]
  congr 1
  rw[decide_eq_decide]
  constructor
  ·intro c
   have:=congrArg val c
   rw[Ac,Ac] at this
   exact Rat.ext h this
  ·intro e;rw[e]
 ·rw[decide_eq_false h,show(false==true)=false by rfl,cf]
  have:decide (p=q)=false:=by rw[decide_eq_false_iff_not];intro e;exact h (by rw[e])
  rw[this]
theorem pk {N:Nat} {x:RatD} {o:Bool} {K:LA→O R} (b:x.ok) (c:fit (8*x.m+40) N):Q7 N x.av o K=K (As (x.q.num/(x.q.den:Int))):=by
 have e:=So x b
 have f:=FG x.q
 have i:=XJ x.q
 have d:fit ((Ae x.q.num.natAbs).length+2*(Ae x.q.den).length+10) N:=c.le (by omega)
 rw[KZ];unfold OG
 rw[Kr,ct,Eh,E5 b (c.le (by omega)),LE,ct,ct,Q9 b (c.le (by omega)),V5,xi x.q.den_pos d]
 rfl
theorem ym {N:Nat} {z:Int} {o:Bool} {K:LA→O R} (b:fit (4*((Ae z.natAbs).length+1)+30) N):Q6 N (As z) o K=K (cq (z:Rat)):=by
 have hN:=b.1
 have c:(Ae (1:Int).natAbs).length=1:=by rw[show(1:Int).natAbs=1 by rfl,Oc];rfl
 rw[KX];unfold OD
 rw[Tm,ct,iV,Jz (by omega) (by omega),tM (by omega) (b.le (by rw[c];omega)),show(1:Int).natAbs=1 by rfl,mu,zy,ct,zN,ct,zh]
end
end Gx

namespace Gx
open Go Go.Proofs
section
variable {R:Type}
theorem vL (z:Int):qm (z:Rat)=max (Ae z.natAbs).length 1:=by unfold qm;rw[Rat.num_intCast,Rat.den_intCast,Oc];rfl
theorem kz (q:Rat):(q.num/(q.den:Int)).natAbs≤q.num.natAbs:=TS _ _ q.den_pos
theorem xE (q:Rat):qm ((q.num/(q.den:Int):Int):Rat)≤max (qm q) 1:=by
 rw[vL]
 have:=Nat.le_trans (An (kz q)) (FG q)
 omega
end
end Gx

namespace Gx
open Go Go.Proofs
open IntKind (wrap)
set_option maxRecDepth 100000
noncomputable section
variable {R:Type} (N:Nat)
def Bu (N:Nat) (b c:List UInt8) (r0:Bool→O R):O R :=
 (cond ((decide ((((b.length):Nat):Int)≥(((c.length):Nat):Int)))==true) (cond ((decide ((0:Int)≤(0:Int)))&&((decide (0≤(((c.length):Nat):Int)))&&((decide ((((c.length):Nat):Int)≤(((b.length):Nat):Int)))&&(decide ((((b.length):Nat):Int)≤(((b.length):Nat):Int)))))) (r0 (cond true ((List.take (c.length) b)==c) false)) none) (r0 false))
def B4:=(Aj (@Bu R)).1
theorem Ce:@B4 R=@Bu R:=(Aj _).2
def Eo (F:KF R):Bool→O R:=(fun d=>F (.bool d) [])
theorem Ep (b c:List UInt8) (F:KF R):Cy [] Cl N 270 [(.str b),(.str c)] [] F=(B4 N b c (Eo F)):=by
 rw[Ce]
 kernel_rfl
def Ei (a:LA) (h:Ah) (k:KF R):O R :=
 match a,h with
 | [(.str b),(.str c)],[]=>(B4 N b c (Eo k))
 | _,_=>none
theorem Er:Ap N 270 @Ei:=by
 intro R Q a h k j;unfold Ei;split;exact Ax (Ep ..) (Ep ..) trivial;exact A2
def Lc:=Ay (Er N)
def Ld:=Cz (Er N)
def Bv (b c:List UInt8) (r0:List UInt8→Bool→O R):O R :=
 (B4 N b c (fun d=>(cond (!d) (r0 b false) (cond ((decide (0≤(((c.length):Nat):Int)))&&((decide ((((c.length):Nat):Int)≤(((b.length):Nat):Int)))&&((decide ((((b.length):Nat):Int)≤(((b.length):Nat):Int)))&&(decide ((((b.length):Nat):Int)≤(((b.length):Nat):Int)))))) (r0 (List.take ((b.length) - (c.length)) (List.drop (c.length) b)) true) none))))
def B5:=(Aj (@Bv R)).1
theorem Cf:@B5 R=@Bv R:=(Aj _).2
def Mc:D7:=[(270,Lc N)]
def Es (F:KF R):List UInt8→Bool→O R:=(fun e f=>F (.tup [(.str e),(.bool f)]) [])
theorem Et (b c:List UInt8) (F:KF R):Cy (Mc N) Cl N 218 [(.str b),(.str c)] [] F=(B5 N b c (Es F)):=by
 rw[Cf]
 kernel_rfl
def Ej (a:LA) (h:Ah) (k:KF R):O R :=
 match a,h with
 | [(.str b),(.str c)],[]=>(B5 N b c (Es k))
 | _,_=>none
theorem Eu:Ap N 218 @Ej:=by
 intro R Q a h k j;unfold Ej;split;exact Ax (Et ..) (Et ..) ⟨Ld N,trivial⟩;exact A2
def Le:=Ay (Eu N)
def Lf:=Cz (Eu N)
def Gw (b c:List UInt8) (r0:List UInt8→Bool→O R):O R :=
 (B5 N b c (fun d e=>(r0 d e)))
def Ca:=(Aj (@Gw R)).1
theorem Hm:@Ca R=@Gw R:=(Aj _).2
def H_:D7:=[(218,Le N)]
def Oy (F:KF R):List UInt8→Bool→O R:=(fun f g=>F (.tup [(.str f),(.bool g)]) [])
theorem Oz (b c:List UInt8) (F:KF R):Cy (H_ N) Cl N 145 [(.str b),(.str c)] [] F=(Ca N b c (Oy F)):=by
 rw[Hm]
 kernel_rfl
def Mw (a:LA) (h:Ah) (k:KF R):O R :=
 match a,h with
 | [(.str b),(.str c)],[]=>(Ca N b c (Oy k))
 | _,_=>none
theorem O0:Ap N 145 @Mw:=by
 intro R Q a h k j;unfold Mw;split;exact Ax (Oz ..) (Oz ..) ⟨Lf N,trivial⟩;exact A2
def Ib:=Ay (O0 N)
def Ic:=Cz (O0 N)
def Ke (N:Nat) (r0:Bool→O R) (b:List UInt8) (k0:Int→O R) (c:Int):O R :=
 (cond (decide (c<(((b.length):Nat):Int))) (cond ((decide ((((Wl b c).1:Nat):Int)<48))==false) (cond (cond false true (decide ((((Wl b c).1:Nat):Int)>57))) (r0 false) (k0 (c+(((Wl b c).2:Nat):Int)))) (r0 false)) (r0 (!(b==([]:List UInt8)))))
def Ek (r0:Bool→O R) (b:List UInt8):Nat→Int→O R
 | 0,_=>none
 | n+1,c=>(Ke N r0 b (Ek r0 b n) c)
def Ql (N:Nat) (r0:Bool→O R) (q0:Int→O R) (b:List UInt8):O R :=
 (q0 0)
def Gc:=(Aj (fun (N:Nat) (b:List UInt8) (r0:Bool→O R)=>(Ql N r0 (fun c=>(Ek N r0 b N c)) b))).1
theorem BG (b r0):(@Gc R N b r0)=(Ql N r0 (fun c=>(Ek N r0 b N c)) b):=by rw[Gc,(Aj _).2]
def FH:Hints:={ H:=(hS hL (hS (hS hL (hS (hP [0,6] hL) hL)) hL)) }
def iD (F:KF R):=Ty Tryz.f149 FH [] [] N F
def If (F:KF R):Bool→O R:=(fun d=>F (.bool d) [])
def iE (b:List UInt8) (c:Int):St:=⟨[(0,(.str b)),(6,(.omap 300000))],(hq [⟨false,false,true,false,1,[(.str b),(iv c)],true,none⟩])⟩
def iF (F:KF R):=iD N F [1,0,1,0] []
theorem U5 (F:KF R) (b:List UInt8):∀ (n:Nat) (c:Int),A5 (iF N F) n (iE b c)=(Ek N (If F) b n c)
 | 0,_=>by kernel_rfl
 | n+1,c=>Eq.trans (by kernel_rfl) (E9 (Ke N (If F) b · c) (funext fun c=>(U5 F b n c)):_)
theorem FI (b:List UInt8) (F:KF R):Cy [] FH N 149 [(.str b)] [] F=(Gc N b (If F)):=by
 rw[BG]
 exact Eq.trans (by kernel_rfl) (E9 (Ql N (If F) · b) (funext fun c=>(Aw ..).trans (U5 N F b N c)):_)
def BH (a:LA) (h:Ah) (k:KF R):O R :=
 match a,h with
 | [(.str b)],[]=>(Gc N b (If k))
 | _,_=>none
theorem FJ:Ap N 149 @BH:=by
 intro R Q a h k j;unfold BH;split;exact Ax (FI ..) (FI ..) trivial;exact A2
def FK:=Ay (FJ N)
def FL:=Cz (FJ N)
def FM (b:List UInt8) (r0:Bool→O R):O R :=
 (Gc N b (fun c=>(cond (c==true) (cond ((b==([48]:List UInt8))==false) (cond (Ao 0 (b.length)) (r0 (cond true (cond false true (((UInt8.toNat (List.getD b 0 0):Nat):Int) != 48)) false)) none) (r0 true)) (r0 false))))
def Ig:=(Aj (@FM R)).1
theorem FN:@Ig R=@FM R:=(Aj _).2
def mv:D7:=[(149,FK N)]
def LF (F:KF R):Bool→O R:=(fun d=>F (.bool d) [])
theorem LG (b:List UInt8) (F:KF R):Cy (mv N) Cl N 146 [(.str b)] [] F=(Ig N b (LF F)):=by
 rw[FN]
 kernel_rfl
def FO (a:LA) (h:Ah) (k:KF R):O R :=
 match a,h with
 | [(.str b)],[]=>(Ig N b (LF k))
 | _,_=>none
theorem LH:Ap N 146 @FO:=by
 intro R Q a h k j;unfold FO;split;exact Ax (LG ..) (LG ..) ⟨FL N,trivial⟩;exact A2
def LI:=Ay (LH N)
def LJ:=Cz (LH N)
def Zy (b:List UInt8) (r0:Bool→O R):O R :=
 (Ca N b ([45]:List UInt8) (fun c d=>(Ig N c (fun e=>(cond (e==true) (cond (d==true) (r0 (cond true (!(cond true (c==([48]:List UInt8)) false)) false)) (r0 true)) (r0 false))))))
def Ih:=(Aj (@Zy R)).1
theorem BI:@Ih R=@Zy R:=(Aj _).2
def jM:D7:=[(145,Ib N),(146,LI N)]
def FP (F:KF R):Bool→O R:=(fun f=>F (.bool f) [])
theorem FQ (b:List UInt8) (F:KF R):Cy (jM N) Cl N 78 [(.str b)] [] F=(Ih N b (FP F)):=by
 rw[BI]
 kernel_rfl
def BJ (a:LA) (h:Ah) (k:KF R):O R :=
 match a,h with
 | [(.str b)],[]=>(Ih N b (FP k))
 | _,_=>none
theorem FR:Ap N 78 @BJ:=by
 intro R Q a h k j;unfold BJ;split;exact Ax (FQ ..) (FQ ..) ⟨Ic N,LJ N,trivial⟩;exact A2
def FS:=Ay (FR N)
def FT:=Cz (FR N)
def K5 (r0:List UInt8→List UInt8→Bool→O R) (e:Bool) (d c b:List UInt8):O R :=
 (cond (Nat.ble ((d.length)+(c.length)) 140737488355328) (cond e (cond (Nat.ble (1+(List.length (d++c))) 140737488355328) (strings_Repeat N ([48]:List UInt8) (((c.length):Nat):Int) (fun i=>(cond (Nat.ble (1+(i.length)) 140737488355328) (r0 (([45]:List UInt8)++(d++c)) (([49]:List UInt8)++i) true) none))) none) (strings_Repeat N ([48]:List UInt8) (((c.length):Nat):Int) (fun l=>(cond (Nat.ble (1+(l.length)) 140737488355328) (r0 (d++c) (([49]:List UInt8)++l) true) none)))) none)
def Ra (r0:List UInt8→List UInt8→Bool→O R) (q0:Bool→List UInt8→List UInt8→O R) (b:List UInt8):O R :=
 (Ih N b (fun m=>(cond m (r0 b ([49]:List UInt8) true) (strings_Cut N b ([47]:List UInt8) (fun f g n=>(cond n (Ih N f (fun o=>(cond (o==true) (Ig N g (fun p=>(r0 f g (cond true p false)))) (r0 f g false)))) (Ca N b ([45]:List UInt8) (fun q e=>(strings_Cut N q ([46]:List UInt8) (fun d c w=>(Ig N d (fun r=>(cond ((!r)==false) (Gc N c (fun s=>(cond (cond false true (!s)) (r0 ([]:List UInt8) ([]:List UInt8) false) (q0 e d c)))) (r0 ([]:List UInt8) ([]:List UInt8) false))))))))))))))
def Md:=(Aj (fun (N:Nat) (b:List UInt8) (r0:List UInt8→List UInt8→Bool→O R)=>(Ra N r0 (fun e d c=>(K5 N r0 e d c b)) b))).1
theorem Qm (b r0):(@Md R N b r0)=(Ra N r0 (fun e d c=>(K5 N r0 e d c b)) b):=by rw[Md,(Aj _).2]
def b7:Hints:={ H:=(hS hL (hS hL (hS hL (hS hL (hS hL (hJ [6,7,8] hL hL)))))) }
def iG:D7:=[(78,FS N),(105,DJ N),(146,LI N),(145,Ib N),(149,FK N),(124,Ho N)]
def pm (F:KF R):=Ty Tryz.f81 b7 (iG N) [] N F
def U6 (F:KF R):List UInt8→List UInt8→Bool→O R:=(fun t u v=>F (.tup [(.str t),(.str u),(.bool v)]) [])
def pn (e:Bool) (d c b:List UInt8):St:=⟨[(6,(.bool e)),(7,(.str d)),(8,(.str c))],[]⟩
def po (F:KF R):=pm N F [1,1,1,1,1,1] []
theorem iH (F:KF R) (e:Bool) (d c b:List UInt8):Dx (po N F) (pn e d c b)=(K5 N (U6 F) e d c b):=by
 kernel_rfl
theorem b8 (b:List UInt8) (F:KF R):Cy (iG N) b7 N 81 [(.str b)] [] F=(Md N b (U6 F)):=by
 rw[Qm]
 exact Eq.trans (by kernel_rfl) (E9 (Ra N (U6 F) · b) (funext fun e=>funext fun d=>funext fun c=>(Bh ..).trans (iH N F e d c b)):_)
def TT (a:LA) (h:Ah) (k:KF R):O R :=
 match a,h with
 | [(.str b)],[]=>(Md N b (U6 k))
 | _,_=>none
theorem b9:Ap N 81 @TT:=by
 intro R Q a h k j;unfold TT;split;exact Ax (b8 ..) (b8 ..) ⟨FT N,dz N,LJ N,Ic N,FL N,Lp N,trivial⟩;exact A2
def pp:=Ay (b9 N)
def pq:=Cz (b9 N)
def Me (N:Nat) (r0:Bool→O R) (b:List UInt8) (k0:Int→Int→O R) (d c:Int):O R :=
 (cond (decide (c<(((b.length):Nat):Int))) (cond ((decide ((((Wl b c).1:Nat):Int)≥48))==true) (cond (cond true (decide ((((Wl b c).1:Nat):Int)≤57)) false) (k0 (wrap .i64 (d+1)) (c+(((Wl b c).2:Nat):Int))) (k0 d (c+(((Wl b c).2:Nat):Int)))) (k0 d (c+(((Wl b c).2:Nat):Int)))) (r0 (decide (d>4096))))
def Fm (r0:Bool→O R) (b:List UInt8):Nat→Int→Int→O R
 | 0,_,_=>none
 | n+1,d,c=>(Me N r0 b (Fm r0 b n) d c)
def U7 (N:Nat) (r0:Bool→O R) (q0:Int→Int→O R) (b:List UInt8):O R :=
 (q0 0 0)
def Kt:=(Aj (fun (N:Nat) (b:List UInt8) (r0:Bool→O R)=>(U7 N r0 (fun d c=>(Fm N r0 b N d c)) b))).1
theorem FU (b r0):(@Kt R N b r0)=(U7 N r0 (fun d c=>(Fm N r0 b N d c)) b):=by rw[Kt,(Aj _).2]
def LK:Hints:={ H:=(hS hL (hS hL (hS (hS hL (hS (hP [3,7] hL) hL)) hL))) }
def jN (F:KF R):=Ty Tryz.f79 LK [] [] N F
def J3 (F:KF R):Bool→O R:=(fun e=>F (.bool e) [])
def jO (b:List UInt8) (d c:Int):St:=⟨[(3,(iv d)),(7,(.omap 300000))],(hq [⟨false,false,true,false,1,[(.str b),(iv c)],true,none⟩])⟩
def jP (F:KF R):=jN N F [1,1,0,1,0] []
theorem Xw (F:KF R) (b:List UInt8):∀ (n:Nat) (d c:Int),A5 (jP N F) n (jO b d c)=(Fm N (J3 F) b n d c)
 | 0,_,_=>by kernel_rfl
 | n+1,d,c=>Eq.trans (by kernel_rfl) (E9 (Me N (J3 F) b · d c) (funext fun d=>funext fun c=>(Xw F b n d c)):_)
theorem LL (b:List UInt8) (F:KF R):Cy [] LK N 79 [(.str b)] [] F=(Kt N b (J3 F)):=by
 rw[FU]
 exact Eq.trans (by kernel_rfl) (E9 (U7 N (J3 F) · b) (funext fun d=>funext fun c=>(Aw ..).trans (Xw N F b N d c)):_)
def FV (a:LA) (h:Ah) (k:KF R):O R :=
 match a,h with
 | [(.str b)],[]=>(Kt N b (J3 k))
 | _,_=>none
theorem LM:Ap N 79 @FV:=by
 intro R Q a h k j;unfold FV;split;exact Ax (LL ..) (LL ..) trivial;exact A2
def LN:=Ay (LM N)
def LO:=Cz (LM N)
def Jc (r0:Bool→Nat→LA→O R) (k0:Int→Bool→LA→Bool→Nat→LA→O R) (d:Int) (c:Bool) (b:LA) (f:Bool) (e:Nat) (g:LA):O R :=
 (cond (decide (d>0)) (cond ((Int.tmod d 2)==1) (cond (Nat.ble 2 (b.length)) (Nn N [(.bool f),(.imm (g.take (e*1)) e 1 false true)] true (b.take 2) c (fun o p q=>(cond (decide (d>1)) (cond (Nat.ble 2 (b.length)) (cond (Nat.ble 2 (b.length)) (Nn N (b.take 2) c (b.take 2) c (fun t r u=>(cond ((Nat.beq 2 2)&&((Nat.ble 2 (b.length))&&(!false))) (k0 (wrap .i64 (Int.tdiv d 2)) (c||false) (H0 b 0 [(.bool t),(.imm (u.take (r*1)) r 1 false false)]) o p q) none))) none) none) (k0 (wrap .i64 (Int.tdiv d 2)) c b o p q)))) none) (cond (decide (d>1)) (cond (Nat.ble 2 (b.length)) (cond (Nat.ble 2 (b.length)) (Nn N (b.take 2) c (b.take 2) c (fun v s w=>(cond ((Nat.beq 2 2)&&((Nat.ble 2 (b.length))&&(!false))) (k0 (wrap .i64 (Int.tdiv d 2)) (c||false) (H0 b 0 [(.bool v),(.imm (w.take (s*1)) s 1 false false)]) f e g) none))) none) none) (k0 (wrap .i64 (Int.tdiv d 2)) c b f e g))) (r0 f e g))
def E6 (r0:Bool→Nat→LA→O R):Nat→Int→Bool→LA→Bool→Nat→LA→O R
 | 0,_,_,_,_,_,_=>none
 | n+1,d,c,b,f,e,g=>(Jc N r0 (E6 r0 n) d c b f e g)
def HT (r0:Bool→Nat→LA→O R) (q0:Int→Bool→LA→Bool→Nat→LA→O R) (i:LA) (l:Bool) (m:Int):O R :=
 (Bf N 1 (fun x y z=>(q0 m l i x y z)))
def J4:=(Aj (fun (N:Nat) (i:LA) (l:Bool) (m:Int) (r0:Bool→Nat→LA→O R)=>(HT N r0 (fun d c b f e g=>(E6 N r0 N d c b f e g)) i l m))).1
theorem TU (i l m r0):(@J4 R N i l m r0)=(HT N r0 (fun d c b f e g=>(E6 N r0 N d c b f e g)) i l m):=by rw[J4,(Aj _).2]
def b_:Hints:={ H:=(hS hL (hS hL (hS (hS (hP [1,2,4,5] hL) hL) hL))) }
def iI:D7:=[(64,Fb N),(68,W0 N)]
def pu (F:KF R):=Ty Tryz.f69 b_ (iI N) [] N F
def O1 (F:KF R):Bool→Nat→LA→O R:=(fun aa ab ac=>F (.agg [(.bool aa),(.own 300000 0 ab)]) (hq [(bQ 1 ac)]))
def pv (d:Int) (c:Bool) (b:LA) (f:Bool) (e:Nat) (g:LA):St:=⟨[(1,(iv d)),(2,(op 0)),(4,(op 1)),(5,(op 2))],(hq [(bP c 0 b),(bN 0 [(.bool false),.nsl]),(bN 0 [(.bool f),(.own 300003 0 e)]),(bQ 1 g)])⟩
def pw (F:KF R):=pu N F [1,1,0,0] []
theorem FW (F:KF R):∀ (n:Nat) (d:Int) (c:Bool) (b:LA) (f:Bool) (e:Nat) (g:LA),A5 (pw N F) n (pv d c b f e g)=(E6 N (O1 F) n d c b f e g)
 | 0,_,_,_,_,_,_=>by kernel_rfl
 | n+1,d,c,b,f,e,g=>Eq.trans (by kernel_rfl) (E9 (Jc N (O1 F) · d c b f e g) (funext fun d=>funext fun c=>funext fun b=>funext fun f=>funext fun e=>funext fun g=>(FW F n d c b f e g)):_)
theorem bp (i:LA) (l:Bool) (m:Int) (F:KF R):Cy (iI N) b_ N 69 [(.pagg i l),(iv m)] [] F=(J4 N i l m (O1 F)):=by
 rw[TU]
 exact Eq.trans (by kernel_rfl) (E9 (HT N (O1 F) · i l m) (funext fun d=>funext fun c=>funext fun b=>funext fun f=>funext fun e=>funext fun g=>(Aw ..).trans (FW N F N d c b f e g)):_)
def TV (a:LA) (h:Ah) (k:KF R):O R :=
 match a,h with
 | [(.pagg i l),(.int .i64 m)],[]=>(J4 N i l m (O1 k))
 | _,_=>none
theorem bq:Ap N 69 @TV:=by
 intro R Q a h k j;unfold TV;split;exact Ax (bp ..) (bp ..) ⟨Fc N,W1 N,trivial⟩;exact A2
def U8:=Ay (bq N)
def U9:=Cz (bq N)
def Mf (k0:List UInt8→Bool→Nat→LA→O R) (r0:LA→O R) (c d:Bool) (b:Nat) (e:LA) (m:List UInt8) (o:Int) (q:Bool) (p:Nat) (r:LA):O R :=
 (cond ((decide ((0:Int)≤(0:Int)))&&((decide (0≤o))&&((decide (o≤(((m.length):Nat):Int)))&&(decide ((((m.length):Nat):Int)≤(((m.length):Nat):Int)))))) (P6 N (List.take (o.toNat) m) (fun x=>(Nn N [(.bool q),(.imm (r.take (p*1)) p 1 false true)] true [(.bool d),(.imm (e.take (b*1)) b 1 false true)] true (fun y t z=>(Bf N x (fun aa u ab=>(Y8 N [(.bool y),(.imm (z.take (t*1)) t 1 false true)] true [(.bool aa),(.imm (ab.take (u*1)) u 1 false true)] true (fun ac ad ae=>(cond ((decide (0≤o))&&((decide (o≤(((m.length):Nat):Int)))&&((decide ((((m.length):Nat):Int)≤(((m.length):Nat):Int)))&&(decide ((((m.length):Nat):Int)≤(((m.length):Nat):Int)))))) (k0 (List.take ((m.length) - (o.toNat)) (List.drop (o.toNat) m)) ac ad ae) none))))))))) none)
def V6 (r0:LA→O R) (c d:Bool) (b:Nat) (e:LA) (k0:List UInt8→Bool→Nat→LA→O R) (q1:List UInt8→Int→Bool→Nat→LA→O R) (g:List UInt8) (i:Bool) (f:Nat) (l:LA):O R :=
 (cond (!(g==([]:List UInt8))) (cond ((Int.tmod (((g.length):Nat):Int) 9)==0) (q1 g 9 i f l) (q1 g (Int.tmod (((g.length):Nat):Int) 9) i f l)) (cond c (eI N [(.bool i),(.imm (l.take (f*1)) f 1 false true)] true (fun af v ag=>(r0 [(.bool af),(.imm (ag.take (v*1)) v 1 false false)]))) (r0 [(.bool i),(.imm (l.take (f*1)) f 1 false false)])))
def E7 (r0:LA→O R) (c d:Bool) (b:Nat) (e:LA):Nat→List UInt8→Bool→Nat→LA→O R
 | 0,_,_,_,_=>none
 | n+1,g,i,f,l=>(V6 N r0 c d b e (E7 r0 c d b e n) (fun m o q p r=>(Mf N (E7 r0 c d b e n) r0 c d b e m o q p r)) g i f l)
def Zz (r0:LA→O R) (q0:Bool→Bool→Nat→LA→List UInt8→Bool→Nat→LA→O R) (s:List UInt8):O R :=
 (Ca N s ([45]:List UInt8) (fun ah c=>(Bf N 0 (fun ai aj ak=>(Bf N 10 (fun al w am=>(J4 N [(.bool al),(.imm (am.take (w*1)) w 1 false true)] true 9 (fun d b e=>(q0 c d b e ah ai aj ak)))))))))
def K6:=(Aj (fun (N:Nat) (s:List UInt8) (r0:LA→O R)=>(Zz N r0 (fun c d b e g i f l=>(E7 N r0 c d b e N g i f l)) s))).1
theorem LP (s r0):(@K6 R N s r0)=(Zz N r0 (fun c d b e g i f l=>(E7 N r0 c d b e N g i f l)) s):=by rw[K6,(Aj _).2]
def TW:Hints:={ H:=(hS hL (hS hL (hS hL (hS hL (hS (hS (hP [0,2,3,4,5] (hS hL (hS (hS hL (hJ [0,2,3,4,5,6] hL hL)) hL))) hL) hL))))),modes:=[(3,0)] }
def br:D7:=[(145,Ib N),(64,Fb N),(69,U8 N),(148,uH N),(147,AK N),(68,W0 N),(144,kM N)]
def TX (F:KF R):=Ty Tryz.f80 TW (br N) [] N F
def Gy (F:KF R):LA→O R:=(fun an=>F (.pagg an false) [])
def mw (c d:Bool) (b:Nat) (e:LA) (m:List UInt8) (o:Int) (q:Bool) (p:Nat) (r:LA):St:=⟨[(0,(.str m)),(2,(op 0)),(3,(.bool c)),(4,(op 1)),(5,(op 2)),(6,(iv o))],(hq [(bN 0 [(.bool false),.nsl]),(bN 0 [(.bool q),(.own 300003 0 p)]),(bN 0 [(.bool d),(.own 300004 0 b)]),(bQ 1 r),(bQ 1 e)])⟩
def mz (F:KF R) (Q0:St→O R):=TX N F [1,1,1,1,0,0,0,1,0,1,1] [Q0]
def TY (c d:Bool) (b:Nat) (e:LA) (g:List UInt8) (i:Bool) (f:Nat) (l:LA):St:=⟨[(0,(.str g)),(2,(op 0)),(3,(.bool c)),(4,(op 1)),(5,(op 2))],(hq [(bN 0 [(.bool false),.nsl]),(bN 0 [(.bool i),(.own 300003 0 f)]),(bN 0 [(.bool d),(.own 300004 0 b)]),(bQ 1 l),(bQ 1 e)])⟩
def TZ (F:KF R):=TX N F [1,1,1,1,0,0] []
theorem cY (Q0:St→O R) (F:KF R) (c d:Bool) (b:Nat) (e:LA):∀ (m:List UInt8) (o:Int) (q:Bool) (p:Nat) (r:LA),Dx (mz N F Q0) (mw c d b e m o q p r)=(Mf N (fun g i f l=>Q0 (TY c d b e g i f l)) (Gy F) c d b e m o q p r):=by
 intro m o q p r
 kernel_rfl
theorem BK (F:KF R) (c d:Bool) (b:Nat) (e:LA):∀ (n:Nat) (g:List UInt8) (i:Bool) (f:Nat) (l:LA),A5 (TZ N F) n (TY c d b e g i f l)=(E7 N (Gy F) c d b e n g i f l)
 | 0,_,_,_,_=>by kernel_rfl
 | n+1,g,i,f,l=>have e0:=(funext fun g=>funext fun i=>funext fun f=>funext fun l=>(BK F c d b e n g i f l))
  Eq.trans (by kernel_rfl) (ti (V6 N (Gy F) c d b e · · g i f l) e0 (funext fun m=>funext fun o=>funext fun q=>funext fun p=>funext fun r=>(Bh ..).trans ((cY N (A5 (TZ N F) n) F c d b e m o q p r).trans (E9 (Mf N · (Gy F) c d b e m o q p r) e0))):_)
theorem T_ (s:List UInt8) (F:KF R):Cy (br N) TW N 80 [(.str s)] [] F=(K6 N s (Gy F)):=by
 rw[LP]
 exact Eq.trans (by kernel_rfl) (E9 (Zz N (Gy F) · s) (funext fun c=>funext fun d=>funext fun b=>funext fun e=>funext fun g=>funext fun i=>funext fun f=>funext fun l=>(Aw ..).trans (BK N F c d b e N g i f l)):_)
def LQ (a:LA) (h:Ah) (k:KF R):O R :=
 match a,h with
 | [(.str s)],[]=>(K6 N s (Gy k))
 | _,_=>none
theorem T':Ap N 80 @LQ:=by
 intro R Q a h k j;unfold LQ;split;exact Ax (T_ ..) (T_ ..) ⟨Ic N,Fc N,U9 N,uI N,strconv_Atoi_ok N,W1 N,kN N,trivial⟩;exact A2
def UA:=Ay (T' N)
def UB:=Cz (T' N)
def Z0 (b:List UInt8) (r0:LA→Int→O R):O R :=
 (Md N b (fun d e f=>(cond (!f) (r0 [(.bool false),.nsl,.nsl] 2) (Kt N b (fun g=>(cond g (r0 [(.bool false),.nsl,.nsl] 8) (K6 N d (fun i=>(K6 N e (fun l=>(fG N i false l false (fun c m=>(cond ((Nat.beq 0 0)&&((Nat.beq (c.length) 3)&&(Nat.beq 3 3))) (cond (!m) (r0 [(.bool false),.nsl,.nsl] 5) (cond (Nat.ble 3 (c.length)) (cond ((Nat.beq 0 0)&&((Nat.beq ((c.take 3).length) 3)&&(Nat.beq 3 3))) (cond (Nat.ble 3 ((c.take 3).length)) (r0 ((c.take 3).take 3) 0) none) none) none)) none)))))))))))))
def Di:=(Aj (@Z0 R)).1
theorem BL:@Di R=@Z0 R:=(Aj _).2
def jQ:D7:=[(81,pp N),(79,LN N),(80,UA N),(82,ua N)]
def FX (F:KF R):LA→Int→O R:=(fun n o=>F (.tup [(.pagg n false),(iv o)]) [])
theorem FY (b:List UInt8) (F:KF R):Cy (jQ N) wM N 24 [(.str b)] [] F=(Di N b (FX F)):=by
 rw[BL]
 kernel_rfl
def BM (a:LA) (h:Ah) (k:KF R):O R :=
 match a,h with
 | [(.str b)],[]=>(Di N b (FX k))
 | _,_=>none
theorem FZ:Ap N 24 @BM:=by
 intro R Q a h k j;unfold BM;split;exact Ax (FY ..) (FY ..) ⟨pq N,LO N,UB N,ud N,trivial⟩;exact A2
def Sp:=Ay (FZ N)
def Ss:=Cz (FZ N)
def HU (rec:LA→Bool→Bool→Nat→LA→(LA→Bool→Int→O R)→O R) (e:LA) (g f:Bool) (b:Nat) (c:LA) (r0:LA→Bool→Int→O R):O R :=
 (cond (Nat.ble 2 (e.length)) (Dm N (e.take 2) g [(.bool f),(.imm (c.take (b*1)) b 1 false true)] true (fun i m z=>(cond ((Nat.beq 0 0)&&((Nat.beq (i.length) 2)&&(Nat.beq 2 2))) (cond ((Nat.beq 0 0)&&((Nat.beq (m.length) 2)&&(Nat.beq 2 2))) (cond (Nat.ble 2 (m.length)) (Hr N (m.take 2) false (fun r=>(cond (r != 0) (cond (Nat.ble 2 (e.length)) (cond ((Nat.beq 0 0)&&((Nat.beq ((e.take 2).length) 2)&&(Nat.beq 2 2))) (cond (Nat.ble 2 ((e.take 2).length)) (r0 ((e.take 2).take 2) g 0) none) none) none) (cond (Nat.ble 2 (i.length)) (Nn N [(.bool f),(.imm (c.take (b*1)) b 1 false true)] true [(.bool f),(.imm (c.take (b*1)) b 1 false true)] true (fun s t u=>(rec (i.take 2) false s t u (fun l p q=>(cond ((Nat.beq 0 0)&&((Nat.beq (l.length) 2)&&(Nat.beq 2 2))) (cond (Nat.ble 2 (l.length)) (Dm N (l.take 2) p [(.bool f),(.imm (c.take (b*1)) b 1 false true)] true (fun n o aa=>(cond ((Nat.beq (n.length) 2)&&((Nat.ble 2 (i.length))&&(!false))) (cond ((Nat.beq (o.length) 2)&&((Nat.ble 2 (m.length))&&(!false))) (cond (Nat.ble 2 ((setCells m 0 o).length)) (Hr N ((setCells m 0 o).take 2) false (fun v=>(cond (v != 0) (cond (Nat.ble 2 (l.length)) (cond ((Nat.beq 0 0)&&((Nat.beq ((l.take 2).length) 2)&&(Nat.beq 2 2))) (cond (Nat.ble 2 ((l.take 2).length)) (r0 ((l.take 2).take 2) p (wrap .i64 ((wrap .i64 (2*q))+1))) none) none) none) (cond (Nat.ble 2 ((setCells i 0 n).length)) (cond ((Nat.beq 0 0)&&((Nat.beq (((setCells i 0 n).take 2).length) 2)&&(Nat.beq 2 2))) (cond (Nat.ble 2 (((setCells i 0 n).take 2).length)) (r0 (((setCells i 0 n).take 2).take 2) false (wrap .i64 ((wrap .i64 ((wrap .i64 (2*q))+1))+1))) none) none) none)))) none) none) none))) none) none))))) none)))) none) none) none))) none)
def Gz:Nat→LA→Bool→Bool→Nat→LA→(LA→Bool→Int→O R)→O R
 | 0=>fun _ _ _ _ _ _=>none
 | d+1=>fun e g f b c r0=>HU N (Gz d) e g f b c r0
def pz (e:LA) (g f:Bool) (b:Nat) (c:LA) (r0:LA→Bool→Int→O R):O R:=Gz N N e g f b c r0
def sN:D7:=[(67,Qh N),(125,Ry N),(68,W0 N)]
def bs (c:LA) (F:KF R):LA→Bool→Int→O R:=(fun w x y=>F (.tup [(.pagg w x),(iv y)]) [(100000,(bQ 1 c))])
def Qn (d:Nat) (a:LA) (h:Ah) (k:KF R):O R :=
 match a,h with
 | [(.pagg e g),(.agg [(.bool f),(.own 100000 0 b)])],[(100000,⟨false,false,true,false,1,c,false,none⟩)]=>Gz N d e g f b c (bs c k)
 | _,_=>none
theorem bu (d:Nat) (H:Ap N 66 fun R N=>@Qn R N d) (e:LA) (g f:Bool) (b:Nat) (c:LA) (F:KF R):Cy ((66,Ay @H)::(sN N)) wM N 66 [(.pagg e g),(.agg [(.bool f),(.own 100000 0 b)])] [(100000,(bQ 1 c))] F=(Gz N (d+1) e g f b c (bs c F)):=by kernel_rfl
theorem O2:∀ d,Ap N 66 fun R N=>@Qn R N d
 | 0=>by
  intro a h k j;simp only[Qn];right;constructor<;>split<;>rfl
 | d+1=>by
  intro a h k j;simp only[Qn];split;exact Ax (bu N d (O2 d) ..) (bu N d (O2 d) ..) ⟨Cz (O2 d),Qi N,Rz N,W1 N,trivial⟩;exact A2
def qA:=Ay (O2 N N)
def qB:=Cz (O2 N N)
def V7 (N:Nat) (r0:O R):O R :=
 r0
def Qo:=(Aj (@V7 R)).1
theorem Xx:@Qo R=@V7 R:=(Aj _).2
def BN (F:KF R):O R:=F (.tup []) [(100000,⟨false,false,false,false,0,[(.optr 100000 0),.nsl],false,(some (168,2))⟩)]
theorem BO (F:KF R):Cy [] Cl N 191 [(.optr 100000 0)] [(100000,⟨false,false,false,false,0,[.nilptr,.nsl],false,(some (168,2))⟩)] F=(Qo N (BN F)):=by
 rw[Xx]
 kernel_rfl
def Xy (a:LA) (h:Ah) (k:KF R):O R :=
 match a,h with
 | [(.optr 100000 0)],[(100000,⟨false,false,false,false,0,[.nilptr,.nsl],false,(some (168,2))⟩)]=>(Qo N (BN k))
 | _,_=>none
theorem BP:Ap N 191 @Xy:=by
 intro R Q a h k j;unfold Xy;split;exact Ax (BO ..) (BO ..) trivial;exact A2
def cZ:=Ay (BP N)
def c_:=Cz (BP N)
def Pg (b:List UInt8) (r0:Int→Nat→LA→O R):O R :=
 (Qo N (cond ((Nat.ble (0+(b.length)) 140737488355328)&&(Nat.ble ((0+(b.length))*1) 140737488355328)) (r0 (((b.length):Nat):Int) (0+(b.length)) (C2 b)) none))
def Ii:=(Aj (@Pg R)).1
theorem Sw:@Ii R=@Pg R:=(Aj _).2
def XK:D7:=[(191,cZ N)]
def Va (F:KF R):Int→Nat→LA→O R:=(fun c d e=>F (.tup [(iv c),.undef]) [(100000,⟨false,false,false,false,0,[(.optr 100000 0),(.own 300000 0 d)],false,(some (168,2))⟩),(300000,⟨false,false,true,false,1,e,false,(some (5,0))⟩)])
theorem Vb (b:List UInt8) (F:KF R):Cy (XK N) Cl N 113 [(.optr 100000 0),(.str b)] [(100000,⟨false,false,false,false,0,[.nilptr,.nsl],false,(some (168,2))⟩)] F=(Ii N b (Va F)):=by
 rw[Sw]
 kernel_rfl
def iJ (N:Nat) (r0:O R):O R :=
 r0
def HV:=(Aj (@iJ R)).1
theorem jR:@HV R=@iJ R:=(Aj _).2
def UC (F:KF R):O R:=F (.str ([]:List UInt8)) [(100000,⟨false,false,false,false,0,[.nilptr,.nsl],false,(some (168,2))⟩)]
theorem UD (F:KF R):Cy [] Cl N 116 [(.optr 100000 0)] [(100000,⟨false,false,false,false,0,[.nilptr,.nsl],false,(some (168,2))⟩)] F=(HV N (UC F)):=by
 rw[jR]
 kernel_rfl
def Nz (N b:Nat) (c:LA) (r0:O R):O R :=
 r0
def Kf:=(Aj (@Nz R)).1
theorem Pv:@Kf R=@Nz R:=(Aj _).2
def Sz (b:Nat) (c:LA) (F:KF R):O R:=F (.tup []) [(100000,⟨false,false,false,false,0,[(.optr 100000 0),(.own 100001 0 b)],false,(some (168,2))⟩),(100001,⟨false,false,true,false,1,c,false,(some (5,0))⟩)]
theorem S6 (b:Nat) (c:LA) (F:KF R):Cy [] Cl N 191 [(.optr 100000 0)] [(100000,⟨false,false,false,false,0,[(.optr 100000 0),(.own 100001 0 b)],false,(some (168,2))⟩),(100001,⟨false,false,true,false,1,c,false,(some (5,0))⟩)] F=(Kf N b c (Sz b c F)):=by
 rw[Pv]
 kernel_rfl
def Pw (a:LA) (h:Ah) (k:KF R):O R :=
 match a,h with
 | [(.optr 100000 0)],[(100000,⟨false,false,false,false,0,[(.optr 100000 0),(.own 100001 0 b)],false,(some (168,2))⟩),(100001,⟨false,false,true,false,1,c,false,(some (5,0))⟩)]=>(Kf N b c (Sz b c k))
 | _,_=>none
theorem S7:Ap N 191 @Pw:=by
 intro R Q a h k j;unfold Pw;split;exact Ax (S6 ..) (S6 ..) trivial;exact A2
def OK:=Ay (S7 N)
def OL:=Cz (S7 N)
def Ku (b:List UInt8) (c:Nat) (d:LA) (r0:Int→Nat→LA→O R):O R :=
 (Kf N c d (cond ((Nat.ble (c+(b.length)) 140737488355328)&&(Nat.ble ((c+(b.length))*1) 140737488355328)) (r0 (((b.length):Nat):Int) (c+(b.length)) ((d.take (c*1))++(C2 b))) none))
def Cu:=(Aj (@Ku R)).1
theorem Mx:@Cu R=@Ku R:=(Aj _).2
def H':D7:=[(191,OK N)]
def O3 (F:KF R):Int→Nat→LA→O R:=(fun e f g=>F (.tup [(iv e),.undef]) [(100000,⟨false,false,false,false,0,[(.optr 100000 0),(.own 300000 0 f)],false,(some (168,2))⟩),(300000,⟨false,false,true,false,1,g,false,(some (5,0))⟩)])
theorem O4 (b:List UInt8) (c:Nat) (d:LA) (F:KF R):Cy (H' N) Cl N 113 [(.optr 100000 0),(.str b)] [(100000,⟨false,false,false,false,0,[(.optr 100000 0),(.own 100001 0 c)],false,(some (168,2))⟩),(100001,⟨false,false,true,false,1,d,false,(some (5,0))⟩)] F=(Cu N b c d (O3 F)):=by
 rw[Mx]
 kernel_rfl
end
end Gx

namespace Gx
open Go Go.Proofs
section
variable {R:Type}
theorem V8 {N:Nat} {b:List UInt8} {c:UInt8} {K:List UInt8→Bool→O R}:Ca N (c::b) [c] K=K b true:=by
 rw[Hm];unfold Gw
 rw[Cf];unfold Bv
 rw[Ce];unfold Bu
 have d:((decide ((((c::b).length:Nat):Int)≥((([c]:List UInt8).length:Nat):Int)))==true)=true:=by simp;omega
 have e:((decide ((0:Int)≤(0:Int)))&&((decide ((0:Int)≤((([c]:List UInt8).length:Nat):Int)))&&((decide (((([c]:List UInt8).length:Nat):Int)≤(((c::b).length:Nat):Int)))&&(decide ((((c::b).length:Nat):Int)≤(((c::b).length:Nat):Int))))))=true:=by simp;omega
 have f:((decide ((0:Int)≤((([c]:List UInt8).length:Nat):Int)))&&((decide (((([c]:List UInt8).length:Nat):Int)≤(((c::b).length:Nat):Int)))&&((decide ((((c::b).length:Nat):Int)≤(((c::b).length:Nat):Int)))&&(decide ((((c::b).length:Nat):Int)≤(((c::b).length:Nat):Int))))))=true:=by simp;omega
 rw[d,ct,e,ct,show cond true ((List.take ([c]:List UInt8).length (c::b))==[c]) false=true by simp]
 dsimp only
 rw[show(!true)=false by rfl,cf,f,ct]
 simp
theorem S8 {N:Nat} {b:List UInt8} {c:UInt8} {K:List UInt8→Bool→O R} (h:b.head?≠some c):Ca N b [c] K=K b false:=by
 rw[Hm];unfold Gw
 rw[Cf];unfold Bv
 rw[Ce];unfold Bu
 cases b with
 | nil=>rfl
 | cons d r =>
  have e:d≠c:=by simpa using h
  have f:((decide ((((d::r).length:Nat):Int)≥((([c]:List UInt8).length:Nat):Int)))==true)=true:=by simp;omega
  have i:((decide ((0:Int)≤(0:Int)))&&((decide ((0:Int)≤((([c]:List UInt8).length:Nat):Int)))&&((decide (((([c]:List UInt8).length:Nat):Int)≤(((d::r).length:Nat):Int)))&&(decide ((((d::r).length:Nat):Int)≤(((d::r).length:Nat):Int))))))=true:=by simp;omega
  rw[f,ct,i,ct,show cond true ((List.take ([c]:List UInt8).length (d::r))==[c]) false=false by simp[e]]
  rfl
theorem iK {s:List UInt8} {p:Nat} (h:p<s.length) (b:s[p].toNat<128):Wl s (p:Int)=(s[p].toNat,1):=by
 unfold Wl
 rw[Int.toNat_natCast]
 exact decode_ascii ⟨⟨s⟩⟩ p h b
theorem vM {s:List UInt8} {p:Nat} (h:p<s.length) (b:128≤s[p].toNat):128≤(Wl s (p:Int)).1:=by
 unfold Wl
 rw[Int.toNat_natCast]
 exact(decode_high ⟨⟨s⟩⟩ p h b).1
theorem jS {N:Nat} {s:List UInt8} {K:Bool→O R} (d:s≠[]):∀ (m p b:Nat),p≤s.length→s.length - p=m→m<b→Ek N K s b (p:Int)=K ((s.drop p).all Be):=by
 intro m
 induction m with
 | zero =>
  intro p b e f i
  cases b with
  | zero=>omega
  | succ b =>
   rw[Ek];unfold Ke
   rw[US (by omega),cf,List.drop_eq_nil_of_le (by omega),show(!(s==([]:List UInt8)))=true by simp[d]]
   rfl
 | succ m j =>
  intro p b e f i
  cases b with
  | zero=>omega
  | succ b =>
   have c:p<s.length:=by omega
   rw[Ek];unfold Ke
   rw[NG c,ct,List.drop_eq_getElem_cons c,List.all_cons]
   by_cases k:s[p].toNat<128
   ·rw[iK c k]
    simp only
    by_cases l:s[p].toNat<48
    ·rw[show(decide (((s[p].toNat:Nat):Int)<48)==false)=false by simp;omega,cf]
     have:Be s[p]=false:=by simp[Be];omega
     rw[this];rfl
    ·rw[show(decide (((s[p].toNat:Nat):Int)<48)==false)=true by simp;omega,ct]
     by_cases n:s[p].toNat>57
     ·rw[show cond false true (decide (((s[p].toNat:Nat):Int)>57))=true by simp;omega,ct]
      have:Be s[p]=false:=by simp[Be];omega
      rw[this];rfl
     ·rw[show cond false true (decide (((s[p].toNat:Nat):Int)>57))=false by simp;omega,cf]
      have:Be s[p]=true:=by simp[Be];omega
      rw[this,Bool.true_and,show((p:Int)+((1:Nat):Int))=((p+1:Nat):Int) by omega]
      exact j (p+1) b (by omega) (by omega) (by omega)
   ·have q:=vM c (by omega)
    have:Be s[p]=false:=by simp[Be];omega
    rw[this,show(decide ((((Wl s (p:Int)).1:Nat):Int)<48)==false)=true by simp;omega,ct,show cond false true (decide ((((Wl s (p:Int)).1:Nat):Int)>57))=true by simp;omega,ct]
    rfl
theorem LR {N:Nat} {s:List UInt8} {K:Bool→O R} (b:s.length<N):Gc N s K=K (MW s):=by
 rw[BG];unfold Ql
 cases s with
 | nil =>
  obtain⟨n,rfl⟩:∃ n,N=n+1:=⟨N - 1,by simp at b;omega⟩
  rfl
 | cons c r =>
  have:=jS (R:=R) (N:=N) (s:=c::r) (K:=K) (by simp) (c::r).length 0 N (by omega) (by omega) b
  refine Eq.trans this ?_
  congr 1
  simp[MW]
theorem Qp {N:Nat} {s:List UInt8} {K:Bool→O R} (i:s.length<N):Ig N s K=K (Do s):=by
 rw[FN];unfold FM
 rw[LR i]
 by_cases b:MW s=true
 ·rw[b,show(true==true)=true by rfl,ct]
  unfold Do
  rw[b,Bool.true_and]
  by_cases f:s=[48]
  ·subst f;rfl
  ·have j:(s==[48])=false:=by simpa using f
   rw[j,show(false==false)=true by rfl,ct,Bool.false_or]
   cases s with
   | nil=>simp[MW] at b
   | cons c r =>
    rw[show Ao 0 (c::r).length=true by unfold Ao;simp,ct]
    congr 1
    simp only[cond_true,cond_false,List.getD_cons_zero,List.head?_cons]
    by_cases d:c=48
    ·subst d;rfl
    ·have:(((c.toNat:Nat):Int) != 48)=true:=by
      rw[bne_iff_ne];intro e
      apply d;apply UInt8.toNat_inj.1
      have:c.toNat=48:=by omega
      rw[this];rfl
     rw[this]
     have k:((some c:Option UInt8) != some 48)=true:=by rw[bne_iff_ne];simpa using d
     rw[k]
 ·have b:MW s=false:=by simpa using b
  rw[b,show(false==true)=false by rfl,cf]
  unfold Do
  rw[b];rfl
def IA (s:List UInt8):Bool:=match s with
 | 45::r=>Do r&&!(r==[48])
 | s=>Do s
theorem Hk {N:Nat} {s:List UInt8} {K:Bool→O R} (b:s.length<N):Ih N s K=K (IA s):=by
 rw[BI];unfold Zy
 by_cases h:s.head?=some 45
 ·obtain⟨r,rfl⟩:∃ r,s=45::r:=by
   cases s with
   | nil=>simp at h
   | cons c r=>simp at h;exact⟨r,by rw[h]⟩
  rw[V8,Qp (by simp at b;omega)]
  show _=K (Do r&&!(r==[48]))
  cases Do r
  ·rfl
  ·rw[Bool.true_and];cases r==[48]<;>rfl
 ·rw[S8 h,Qp b]
  have:IA s=Do s:=by
   unfold IA
   split
   ·simp at h
   ·rfl
  rw[this]
  cases Do s<;>rfl
def Tn (s:List UInt8):Nat:=s.countP Be
theorem nA {N:Nat} {s:List UInt8} {K:Bool→O R} (i:∀ c ∈ s,c.toNat<128) (u:s.length≤1000000000000):∀ (m p d b:Nat),p≤s.length→s.length - p=m→m<b→d≤p→Fm N K s b (d:Int) (p:Int)=K (decide (4096<d+Tn (s.drop p))):=by
 intro m
 induction m with
 | zero =>
  intro p d b j k l n
  cases b with
  | zero=>omega
  | succ b =>
   rw[Fm];unfold Me
   rw[US (by omega),cf,List.drop_eq_nil_of_le (by omega)]
   congr 1
   rw[decide_eq_decide];simp[Tn];omega
 | succ m f =>
  intro p d b j k l n
  cases b with
  | zero=>omega
  | succ b =>
   have e:p<s.length:=by omega
   have q:s[p].toNat<128:=i _ (List.getElem_mem e)
   rw[Fm];unfold Me
   rw[NG e,ct,List.drop_eq_getElem_cons e,iK e q]
   simp only
   rw[show((p:Int)+((1:Nat):Int))=((p+1:Nat):Int) by omega]
   have t:Tn (s[p]::s.drop (p+1))=Tn (s.drop (p+1))+(if Be s[p] then 1 else 0):=by unfold Tn;rw[List.countP_cons]
   rw[t]
   by_cases v:48≤s[p].toNat
   ·rw[show(decide (((s[p].toNat:Nat):Int)≥48)==true)=true by simp;omega,ct]
    by_cases x:s[p].toNat≤57
    ·rw[show cond true (decide (((s[p].toNat:Nat):Int)≤57)) false=true by simp;omega,ct,wS (by omega),f (p+1) (d+1) b (by omega) (by omega) (by omega) (by omega)]
     have:Be s[p]=true:=by simp[Be];omega
     rw[this,if_pos rfl]
     congr 1;rw[decide_eq_decide];omega
    ·rw[show cond true (decide (((s[p].toNat:Nat):Int)≤57)) false=false by simp;omega,cf,f (p+1) d b (by omega) (by omega) (by omega) (by omega)]
     have:Be s[p]=false:=by simp[Be];omega
     rw[this];rfl
   ·rw[show(decide (((s[p].toNat:Nat):Int)≥48)==true)=false by simp;omega,cf,f (p+1) d b (by omega) (by omega) (by omega) (by omega)]
    have:Be s[p]=false:=by simp[Be];omega
    rw[this];rfl
theorem UE {N:Nat} {s:List UInt8} {K:Bool→O R} (b:∀ c ∈ s,c.toNat<128) (d:s.length≤1000000000000) (e:s.length<N):Kt N s K=K (decide (4096<Tn s)):=by
 rw[FU];unfold U7
 have:=nA (R:=R) (N:=N) (K:=K) b d s.length 0 0 N (by omega) (by omega) e (by omega)
 simpa using this
end
end Gx

namespace Gx
open Go Go.Proofs
open IntKind (wrap)
set_option maxRecDepth 100000
noncomputable section
variable {R:Type} (N:Nat)
def V9 (N b:Nat) (c:LA) (r0:List UInt8→O R):O R :=
 (cond (Nat.blt 0 b) (cond ((Nat.beq 5 5)&&((Nat.beq 1 1)&&(true&&((!false)&&((Nat.beq 0 0)&&((decide (0<((b:Nat):Int)))&&((decide (((b:Nat):Int)≤(((c.length):Nat):Int)))&&(decide (((b:Nat):Int)≤9223372036854775807))))))))) (Option.bind (Of (c.take b)) fun d=>(r0 d)) none) none)
def Mg:=(Aj (@V9 R)).1
theorem Xz:@Mg R=@V9 R:=(Aj _).2
def BQ (F:KF R):List UInt8→O R:=(fun e=>F (.str e) [(100000,⟨false,false,false,false,0,[(.optr 100000 0),.undef],false,(some (168,2))⟩)])
theorem BR (b:Nat) (c:LA) (F:KF R):Cy [] Cl N 116 [(.optr 100000 0)] [(100000,⟨false,false,false,false,0,[(.optr 100000 0),(.own 100001 0 b)],false,(some (168,2))⟩),(100001,⟨false,false,true,false,1,c,false,(some (5,0))⟩)] F=(Mg N b c (BQ F)):=by
 rw[Xz]
 kernel_rfl
def Wa (r0:List UInt8→O R) (b:Nat) (c:LA) (k3:Int→Int→Nat→LA→O R) (p m:Int) (q:Nat) (r:LA):O R :=
 (cond (decide (m<p)) (cond (Ao (wrap .i64 ((wrap .i64 (((b:Nat):Int) - 1)) - m)) b) (F3 .i64 (c.drop (0+(((wrap .i64 ((wrap .i64 (((b:Nat):Int) - 1)) - m)).toNat)*1))) fun ae=>(strconv_Itoa N ae (fun x=>(cond (decide (m>0)) (strings_Repeat N ([48]:List UInt8) (wrap .i64 (9 - (((x.length):Nat):Int))) (fun af=>(Cu N af q r (fun ba ag ah=>(Cu N x ag ah (fun bb ai aj=>(k3 p (wrap .i64 (m+1)) ai aj))))))) (Cu N x q r (fun bc ak al=>(k3 p (wrap .i64 (m+1)) ak al))))))) none) (Mg N q r (fun am=>(r0 am))))
def Mh (r0:List UInt8→O R) (b:Nat) (c:LA):Nat→Int→Int→Nat→LA→O R
 | 0,_,_,_,_=>none
 | n+1,p,m,q,r=>(Wa N r0 b c (Mh r0 b c n) p m q r)
def Wb (r0:List UInt8→O R) (b:Nat) (c:LA) (k2:Int→O R) (k3:Int→Int→Nat→LA→O R) (s:Int):O R :=
 (cond (decide (0<s)) (cond (Ao (wrap .i64 ((wrap .i64 (((b:Nat):Int) - 1)) - 0)) b) (F3 .i64 (c.drop (0+(((wrap .i64 ((wrap .i64 (((b:Nat):Int) - 1)) - 0)).toNat)*1))) fun an=>(strconv_Itoa N an (fun ao=>(Ii N ao (fun bd ap aq=>(k3 s 1 ap aq)))))) none) (HV N (r0 ([]:List UInt8))))
def Mi (r0:List UInt8→O R) (b:Nat) (c:LA):Nat→Int→O R
 | 0,_=>none
 | n+1,s=>(Wb N r0 b c (Mi r0 b c n) (fun p m q r=>(Mh N r0 b c n p m q r)) s)
def Wc (r0:List UInt8→O R) (f:Bool) (d:Nat) (g:LA) (i:Bool) (e:Nat) (l:LA) (k1:Nat→LA→LA→O R) (q2:Int→O R) (b:Nat) (o c:LA):O R :=
 (cond (Nat.ble 2 (o.length)) (Hr N (o.take 2) false (fun ar=>(cond (decide (ar>0)) (cond (Nat.ble 2 (o.length)) (Dm N (o.take 2) false [(.bool f),(.imm (g.take (d*1)) d 1 false true)] true (fun v y be=>(cond ((Nat.beq 0 0)&&((Nat.beq (v.length) 2)&&(Nat.beq 2 2))) (cond ((Nat.beq 0 0)&&((Nat.beq (y.length) 2)&&(Nat.beq 2 2))) (cond (Nat.ble 2 (y.length)) (Ou N (y.take 2) false (fun au bf=>(cond ((Nat.ble (b+1) 140737488355328)&&(Nat.ble ((b+1)*8) 140737488355328)) (cond (Nat.ble 2 (v.length)) (cond ((Nat.beq ((v.take 2).length) 2)&&((Nat.ble 2 (o.length))&&(!false))) (k1 (b+1) (setCells o 0 (v.take 2)) ((c.take (b*1))++[(.int .i64 au)])) none) none) none))) none) none) none))) none) (cond (((b:Nat):Int)==0) (r0 ([48]:List UInt8)) (q2 ((b:Nat):Int)))))) none)
def Mj (r0:List UInt8→O R) (f:Bool) (d:Nat) (g:LA) (i:Bool) (e:Nat) (l:LA):Nat→Nat→LA→LA→O R
 | 0,_,_,_=>none
 | n+1,b,o,c=>(Wc N r0 f d g i e l (Mj r0 f d g i e l n) (fun s=>(Mi N r0 b c N s)) b o c)
def Wd (r0:List UInt8→O R) (f:Bool) (d:Nat) (i:Bool) (e:Nat) (g l:LA) (k0:O R) (k1:Nat→LA→LA→O R):O R :=
 (Hr N [(.bool i),(.imm (l.take (e*1)) e 1 false true)] true (fun av=>(cond (decide (av>0)) (Dm N [(.bool i),(.imm (l.take (e*1)) e 1 false true)] true [(.bool f),(.imm (g.take (d*1)) d 1 false true)] true (fun w z bg=>(cond ((Nat.beq 0 0)&&((Nat.beq (w.length) 2)&&(Nat.beq 2 2))) (cond ((Nat.beq 0 0)&&((Nat.beq (z.length) 2)&&(Nat.beq 2 2))) (cond (Nat.ble 2 (z.length)) (Ou N (z.take 2) false (fun aw bh=>(cond (Nat.ble 2 (w.length)) (cond ((Nat.beq 0 0)&&((Nat.beq ((w.take 2).length) 2)&&(Nat.beq 2 2))) (k1 1 (w.take 2) [(.int .i64 aw)]) none) none))) none) none) none))) (r0 ([48]:List UInt8)))))
def Jd (r0:List UInt8→O R) (f:Bool) (d:Nat) (i:Bool) (e:Nat) (g l:LA):Nat→O R
 | 0=>none
 | n+1=>(Wd N r0 f d i e g l (Jd r0 f d i e g l n) (fun b o c=>(Mj N r0 f d g i e l n b o c)))
def Z1 (r0:List UInt8→O R) (q0:Bool→Nat→Bool→Nat→LA→LA→O R) (t:LA) (u:Bool):O R :=
 (Bf N 10 (fun ax ad ay=>(J4 N [(.bool ax),(.imm (ay.take (ad*1)) ad 1 false true)] true 9 (fun f d g=>(cond (Nat.ble 2 (t.length)) (gO N (t.take 2) u (fun i e l=>(q0 f d i e g l))) none)))))
def Rb:=(Aj (fun (N:Nat) (t:LA) (u:Bool) (r0:List UInt8→O R)=>(Z1 N r0 (fun f d i e g l=>(Jd N r0 f d i e g l N)) t u))).1
theorem LT (t u r0):(@Rb R N t u r0)=(Z1 N r0 (fun f d i e g l=>(Jd N r0 f d i e g l N)) t u):=by rw[Rb,(Aj _).2]
def UF:Hints:={ H:=(hS hL (hS hL (hS hL (hS hL (hS (hS (hP [3,4,5] hL) hL) (hS hL (hS hL (hS (hS hL (hS (hP [5,11,42,43] hL) hL)) hL)))))))),nils:=[(5,1)] }
def C3 (a:LA) (h:Ah) (k:KF R):O R :=
 match a,h with
 | [(.optr 100000 0),(.str aa)],[(100000,⟨false,false,false,false,0,[.nilptr,.nsl],false,(some (168,2))⟩)]=>(Ii N aa (Va k))
 | [(.optr 100000 0),(.str aa)],[(100000,⟨false,false,false,false,0,[(.optr 100000 0),(.own 100001 0 ab)],false,(some (168,2))⟩),(100001,⟨false,false,true,false,1,ac,false,(some (5,0))⟩)]=>(Cu N aa ab ac (O3 k))
 | _,_=>none
theorem C9:Ap N 113 @C3:=by
 intro R Q a h k j;unfold C3;split;exact Ax (Vb ..) (Vb ..) ⟨c_ N,trivial⟩;exact Ax (O4 ..) (O4 ..) ⟨OL N,trivial⟩;exact A2
def Hy:=Ay (C9 N)
def Hz:=Cz (C9 N)
def F1 (a:LA) (h:Ah) (k:KF R):O R :=
 match a,h with
 | [(.optr 100000 0)],[(100000,⟨false,false,false,false,0,[.nilptr,.nsl],false,(some (168,2))⟩)]=>(HV N (UC k))
 | [(.optr 100000 0)],[(100000,⟨false,false,false,false,0,[(.optr 100000 0),(.own 100001 0 ab)],false,(some (168,2))⟩),(100001,⟨false,false,true,false,1,ac,false,(some (5,0))⟩)]=>(Mg N ab ac (BQ k))
 | _,_=>none
theorem Gd:Ap N 116 @F1:=by
 intro R Q a h k j;unfold F1;split;exact Ax (UD ..) (UD ..) trivial;exact Ax (BR ..) (BR ..) trivial;exact A2
def O5:=Ay (Gd N)
def O6:=Cz (Gd N)
def bw:D7:=[(64,Fb N),(69,U8 N),(200,um N),(125,Ry N),(67,Qh N),(201,pM N),(114,AJ N),(113,Hy N),(116,O5 N),(124,Ho N)]
def UG (F:KF R):=Ty Tryz.f123 UF (bw N) [] N F
def Cv (F:KF R):List UInt8→O R:=(fun az=>F (.str az) [])
def nB (b:Nat) (c:LA) (p m:Int) (q:Nat) (r:LA):St:=⟨[(5,(.own 300000 0 b)),(11,(op 1)),(42,(iv p)),(43,(iv m))],(hq [(bQ 1 c),⟨false,false,false,false,0,[(op 1),(.own 300002 0 q)],false,(some (168,2))⟩,⟨false,false,true,false,1,r,false,(some (5,0))⟩])⟩
def nC (b:Nat) (c:LA) (s:Int):St:=⟨[(5,(.own 300000 0 b)),(11,(op 1)),(42,(iv s)),(43,(iv 0))],(hq [(bQ 1 c),⟨false,false,false,false,0,[.nilptr,.nsl],false,(some (168,2))⟩])⟩
def UH (F:KF R):=UG N F [1,1,1,1,1,1,1,0,1,0] []
def nD (f:Bool) (d:Nat) (g:LA) (i:Bool) (e:Nat) (l:LA) (b:Nat) (o c:LA):St:=⟨[(3,(op 0)),(4,(op 1)),(5,(.own 300002 0 b))],(hq [(bN 0 [(.bool f),(.own 300003 0 d)]),(bQ 0 o),(bQ 1 c),(bQ 1 g)])⟩
def nE (f:Bool) (d:Nat) (i:Bool) (e:Nat) (g l:LA):St:=⟨[(3,(op 0)),(4,(op 1)),(5,(.own 300002 0 0))],(hq [(bN 0 [(.bool f),(.own 300003 0 d)]),(bN 0 [(.bool i),(.own 300004 0 e)]),(bQ 1 []),(bQ 1 g),(bQ 1 l)])⟩
def UI (F:KF R):=UG N F [1,1,1,1,0,0] []
theorem BS (F:KF R) (b:Nat) (c:LA):∀ (n:Nat) (p m:Int) (q:Nat) (r:LA),A5 (UH N F) n (nB b c p m q r)=(Mh N (Cv F) b c n p m q r)
 | 0,_,_,_,_=>by kernel_rfl
 | n+1,p,m,q,r=>Eq.trans (by kernel_rfl) (E9 (Wa N (Cv F) b c · p m q r) (funext fun p=>funext fun m=>funext fun q=>funext fun r=>(BS F b c n p m q r)):_)
theorem BT (F:KF R) (b:Nat) (c:LA):∀ (n:Nat) (s:Int),A5 (UH N F) n (nC b c s)=(Mi N (Cv F) b c n s)
 | 0,_=>by kernel_rfl
 | n+1,s=>Eq.trans (by kernel_rfl) (ti (Wb N (Cv F) b c · · s) (funext fun s=>(BT F b c n s)) (funext fun p=>funext fun m=>funext fun q=>funext fun r=>(BS N F b c n p m q r)):_)
theorem BU (F:KF R) (f:Bool) (d:Nat) (g:LA) (i:Bool) (e:Nat) (l:LA):∀ (n b:Nat) (o c:LA),A5 (UI N F) n (nD f d g i e l b o c)=(Mj N (Cv F) f d g i e l n b o c)
 | 0,_,_,_=>by kernel_rfl
 | n+1,b,o,c=>Eq.trans (by kernel_rfl) (ti (Wc N (Cv F) f d g i e l · · b o c) (funext fun b=>funext fun o=>funext fun c=>(BU F f d g i e l n b o c)) (funext fun s=>(Aw ..).trans (BT N F b c N s)):_)
theorem BV (F:KF R) (f:Bool) (d:Nat) (i:Bool) (e:Nat) (g l:LA):∀ (n:Nat) ,A5 (UI N F) n (nE f d i e g l)=(Jd N (Cv F) f d i e g l n)
 | 0=>by kernel_rfl
 | n+1=>Eq.trans (by kernel_rfl) (ti (Wd N (Cv F) f d i e g l · ·) (BV F f d i e g l n) (funext fun b=>funext fun o=>funext fun c=>(BU N F f d g i e l n b o c)):_)
theorem UJ (t:LA) (u:Bool) (F:KF R):Cy (bw N) UF N 123 [(.pagg t u)] [] F=(Rb N t u (Cv F)):=by
 rw[LT]
 exact Eq.trans (by kernel_rfl) (E9 (Z1 N (Cv F) · t u) (funext fun f=>funext fun d=>funext fun i=>funext fun e=>funext fun g=>funext fun l=>(Aw ..).trans (BV N F f d i e g l N)):_)
def LU (a:LA) (h:Ah) (k:KF R):O R :=
 match a,h with
 | [(.pagg t u)],[]=>(Rb N t u (Cv k))
 | _,_=>none
theorem UK:Ap N 123 @LU:=by
 intro R Q a h k j;unfold LU;split;exact Ax (UJ ..) (UJ ..) ⟨Fc N,U9 N,uo N,Rz N,Qi N,pN N,cI N,Hz N,O6 N,Lp N,trivial⟩;exact A2
def nF:=Ay (UK N)
def nG:=Cz (UK N)
def Hb (r0:List UInt8→O R) (c:Int) (e:Bool) (d:LA) (b:List UInt8):O R :=
 (cond ((decide ((0:Int)≤(0:Int)))&&((decide (0≤(wrap .i64 ((((b.length):Nat):Int) - c))))&&((decide ((wrap .i64 ((((b.length):Nat):Int) - c))≤(((b.length):Nat):Int)))&&(decide ((((b.length):Nat):Int)≤(((b.length):Nat):Int)))))) (cond (Nat.ble ((List.length (List.take ((wrap .i64 ((((b.length):Nat):Int) - c)).toNat) b))+1) 140737488355328) (cond ((decide (0≤(wrap .i64 ((((b.length):Nat):Int) - c))))&&((decide ((wrap .i64 ((((b.length):Nat):Int) - c))≤(((b.length):Nat):Int)))&&((decide ((((b.length):Nat):Int)≤(((b.length):Nat):Int)))&&(decide ((((b.length):Nat):Int)≤(((b.length):Nat):Int)))))) (cond (Nat.ble ((List.length ((List.take ((wrap .i64 ((((b.length):Nat):Int) - c)).toNat) b)++([46]:List UInt8)))+(List.length (List.take ((b.length) - ((wrap .i64 ((((b.length):Nat):Int) - c)).toNat)) (List.drop ((wrap .i64 ((((b.length):Nat):Int) - c)).toNat) b)))) 140737488355328) (cond (Nat.ble 2 (d.length)) (Hr N (d.take 2) e (fun i=>(cond (decide (i<0)) (cond (Nat.ble (1+(List.length (((List.take ((wrap .i64 ((((b.length):Nat):Int) - c)).toNat) b)++([46]:List UInt8))++(List.take ((b.length) - ((wrap .i64 ((((b.length):Nat):Int) - c)).toNat)) (List.drop ((wrap .i64 ((((b.length):Nat):Int) - c)).toNat) b))))) 140737488355328) (r0 (([45]:List UInt8)++(((List.take ((wrap .i64 ((((b.length):Nat):Int) - c)).toNat) b)++([46]:List UInt8))++(List.take ((b.length) - ((wrap .i64 ((((b.length):Nat):Int) - c)).toNat)) (List.drop ((wrap .i64 ((((b.length):Nat):Int) - c)).toNat) b))))) none) (r0 (((List.take ((wrap .i64 ((((b.length):Nat):Int) - c)).toNat) b)++([46]:List UInt8))++(List.take ((b.length) - ((wrap .i64 ((((b.length):Nat):Int) - c)).toNat)) (List.drop ((wrap .i64 ((((b.length):Nat):Int) - c)).toNat) b))))))) none) none) none) none) none)
def Od (r0:List UInt8→O R) (q0:List UInt8→O R) (d:LA) (e:Bool) (c:Int):O R :=
 (cond (Nat.ble 2 (d.length)) (Rb N (d.take 2) e (fun f=>(cond (decide (c>0)) (cond (decide ((((f.length):Nat):Int)≤c)) (strings_Repeat N ([48]:List UInt8) (wrap .i64 ((wrap .i64 (c+1)) - (((f.length):Nat):Int))) (fun g=>(cond (Nat.ble ((g.length)+(f.length)) 140737488355328) (q0 (g++f)) none))) (q0 f)) (cond (Nat.ble 2 (d.length)) (Hr N (d.take 2) e (fun l=>(cond (decide (l<0)) (cond (Nat.ble (1+(f.length)) 140737488355328) (r0 (([45]:List UInt8)++f)) none) (r0 f)))) none)))) none)
def Dy:=(Aj (fun (N:Nat) (d:LA) (e:Bool) (c:Int) (r0:List UInt8→O R)=>(Od N r0 (fun b=>(Hb N r0 c e d b)) d e c))).1
theorem X0 (d e c r0):(@Dy R N d e c r0)=(Od N r0 (fun b=>(Hb N r0 c e d b)) d e c):=by rw[Dy,(Aj _).2]
def BW:Hints:={ H:=(hS hL (hS hL (hS (hS hL (hS (hJ [1,2,5] hL hL) hL)) hL))) }
def F_:D7:=[(123,nF N),(124,Ho N),(125,Ry N)]
def ca (F:KF R):=Ty Tryz.f60 BW (F_ N) [] N F
def Kg (F:KF R):List UInt8→O R:=(fun m=>F (.str m) [])
def cb (c:Int) (e:Bool) (d:LA) (b:List UInt8):St:=⟨[(1,(iv c)),(2,(op 0)),(5,(.str b))],(hq [(bP e 0 d)])⟩
def cc (F:KF R):=ca N F [1,1,0,1,0,1] []
theorem OM (F:KF R) (c:Int) (e:Bool) (d:LA):∀ (b:List UInt8),Dx (cc N F) (cb c e d b)=(Hb N (Kg F) c e d b):=by
 intro b
 kernel_rfl
theorem BX (d:LA) (e:Bool) (c:Int) (F:KF R):Cy (F_ N) BW N 60 [(.pagg d e),(iv c)] [] F=(Dy N d e c (Kg F)):=by
 rw[X0]
 exact Eq.trans (by kernel_rfl) (E9 (Od N (Kg F) · d e c) (funext fun b=>(Bh ..).trans (OM N F c e d b)):_)
def X1 (a:LA) (h:Ah) (k:KF R):O R :=
 match a,h with
 | [(.pagg d e),(.int .i64 c)],[]=>(Dy N d e c (Kg k))
 | _,_=>none
theorem BY:Ap N 60 @X1:=by
 intro R Q a h k j;unfold X1;split;exact Ax (BX ..) (BX ..) ⟨nG N,Lp N,Rz N,trivial⟩;exact A2
def Ph:=Ay (BY N)
def Pi:=Cz (BY N)
def F' (b:LA) (c:Bool) (r0:List UInt8→Bool→O R):O R :=
 (cond (Nat.ble 3 (b.length)) (Zj N (b.take 3) c (fun e=>(cond ((Nat.beq (e.length) 3)&&((Nat.ble 3 (b.length))&&(!false))) (Ip 1 ((setCells b 0 e).drop 2) fun i l=>(Bf N 2 (fun t u v=>(pz N [(.bool false),(.imm i l 1 false (c||false))] ((c||false)||false) t u v (fun d m n=>(cond ((Nat.beq 0 0)&&((Nat.beq (d.length) 2)&&(Nat.beq 2 2))) (cond (Nat.ble 2 (d.length)) (Bf N 5 (fun w x y=>(pz N (d.take 2) m w x y (fun f z o=>(cond ((Nat.beq (f.length) 2)&&((Nat.ble 2 (d.length))&&(!false))) (cond (Nat.ble 2 ((setCells d 0 f).length)) (Bf N 1 (fun aa p ab=>(Kp N ((setCells d 0 f).take 2) (m||z) [(.bool aa),(.imm (ab.take (p*1)) p 1 false true)] true (fun ac=>(cond (ac != 0) (r0 ([]:List UInt8) false) (cond (Nat.ble 2 ((setCells b 0 e).length)) (Bf N 10 (fun ad q ae=>(J4 N [(.bool ad),(.imm (ae.take (q*1)) q 1 false true)] true (Yn n o) (fun af r ag=>(Nn N ((setCells b 0 e).take 2) (c||false) [(.bool af),(.imm (ag.take (r*1)) r 1 false true)] true (fun ah s ai=>(Dm N [(.bool ah),(.imm (ai.take (s*1)) s 1 false true)] true [(.bool false),(.imm i l 1 false (c||false))] ((c||false)||false) (fun g aj an=>(cond ((Nat.beq 0 0)&&((Nat.beq (g.length) 2)&&(Nat.beq 2 2))) (cond ((Nat.beq 0 0)&&((Nat.beq (aj.length) 2)&&(Nat.beq 2 2))) (cond (Nat.ble 2 (g.length)) (Dy N (g.take 2) false (Yn n o) (fun ak=>(r0 ak true))) none) none) none))))))))) none)))))) none) none))))) none) none)))))) none))) none)
def G0:=(Aj (@F' R)).1
theorem GA:@G0 R=@F' R:=(Aj _).2
def nH:D7:=[(62,NX N),(64,Fb N),(66,qA N),(63,Vz N),(69,U8 N),(68,W0 N),(67,Qh N),(60,Ph N)]
def LV (F:KF R):List UInt8→Bool→O R:=(fun al am=>F (.tup [(.str al),(.bool am)]) [])
theorem LW (b:LA) (c:Bool) (F:KF R):Cy (nH N) Cl N 19 [(.pagg b c)] [] F=(G0 N b c (LV F)):=by
 rw[GA]
 kernel_rfl
def GB (a:LA) (h:Ah) (k:KF R):O R :=
 match a,h with
 | [(.pagg b c)],[]=>(G0 N b c (LV k))
 | _,_=>none
theorem LX:Ap N 19 @GB:=by
 intro R Q a h k j;unfold GB;split;exact Ax (LW ..) (LW ..) ⟨NY N,Fc N,qB N,V0 N,U9 N,W1 N,Qi N,Pi N,trivial⟩;exact A2
def LY:=Ay (LX N)
def LZ:=Cz (LX N)
def Vc (r0:List UInt8→Int→O R) (b:Int) (d:Bool) (c:LA):O R :=
 (Bf N 10 (fun g e i=>(J4 N [(.bool g),(.imm (i.take (e*1)) e 1 false true)] true b (fun l f m=>(cond (Nat.ble 3 (c.length)) (WX N (c.take 3) d [(.bool l),(.imm (m.take (f*1)) f 1 false true),(.imm [(.int .u32 1)] 1 1 false true)] true (fun n=>(Xt N n false (fun o=>(Dy N o false b (fun p=>(r0 p 0))))))) none)))))
def HW (N:Nat) (r0:List UInt8→Int→O R) (q0:O R) (c:LA) (d:Bool) (b:Int):O R :=
 (cond ((decide (b<0))==false) (cond (cond false true (decide (b>100))) (r0 ([]:List UInt8) 3) q0) (r0 ([]:List UInt8) 3))
def Ta:=(Aj (fun (N:Nat) (c:LA) (d:Bool) (b:Int) (r0:List UInt8→Int→O R)=>(HW N r0 (Vc N r0 b d c) c d b))).1
theorem UL (c d b r0):(@Ta R N c d b r0)=(HW N r0 (Vc N r0 b d c) c d b):=by rw[Ta,(Aj _).2]
def bx:Hints:={ H:=(hS hL (hJ [1,2] hL hL)) }
def iL:D7:=[(64,Fb N),(69,U8 N),(76,uv N),(75,pV N),(60,Ph N)]
def qC (F:KF R):=Ty Tryz.f21 bx (iL N) [] N F
def Vd (F:KF R):List UInt8→Int→O R:=(fun q r=>F (.tup [(.str q),(iv r)]) [])
def qD (b:Int) (d:Bool) (c:LA):St:=⟨[(1,(iv b)),(2,(op 0))],(hq [(bP d 0 c)])⟩
def qE (F:KF R):=qC N F [1,1] []
theorem iM (F:KF R) (b:Int) (d:Bool) (c:LA):Dx (qE N F) (qD b d c)=(Vc N (Vd F) b d c):=by
 kernel_rfl
theorem bz (c:LA) (d:Bool) (b:Int) (F:KF R):Cy (iL N) bx N 21 [(.pagg c d),(iv b)] [] F=(Ta N c d b (Vd F)):=by
 rw[UL]
 exact Eq.trans (by kernel_rfl) (E9 (HW N (Vd F) · c d b) ((Bh ..).trans (iM N F b d c)):_)
def UM (a:LA) (h:Ah) (k:KF R):O R :=
 match a,h with
 | [(.pagg c d),(.int .i64 b)],[]=>(Ta N c d b (Vd k))
 | _,_=>none
theorem cA:Ap N 21 @UM:=by
 intro R Q a h k j;unfold UM;split;exact Ax (bz ..) (bz ..) ⟨Fc N,U9 N,uw N,pW N,Pi N,trivial⟩;exact A2
def qF:=Ay (cA N)
def qG:=Cz (cA N)
def We (b:LA) (c:Bool) (r0:List UInt8→O R):O R :=
 (cond (Nat.ble 2 (b.length)) (Dy N (b.take 2) c 0 (fun d=>(r0 d))) none)
def Bo:=(Aj (@We R)).1
theorem X2:@Bo R=@We R:=(Aj _).2
def iN:D7:=[(60,Ph N)]
def BZ (F:KF R):List UInt8→O R:=(fun e=>F (.str e) [])
theorem B_ (b:LA) (c:Bool) (F:KF R):Cy (iN N) Cl N 15 [(.pagg b c)] [] F=(Bo N b c (BZ F)):=by
 rw[X2]
 kernel_rfl
def X3 (a:LA) (h:Ah) (k:KF R):O R :=
 match a,h with
 | [(.pagg b c)],[]=>(Bo N b c (BZ k))
 | _,_=>none
theorem B':Ap N 15 @X3:=by
 intro R Q a h k j;unfold X3;split;exact Ax (B_ ..) (B_ ..) ⟨Pi N,trivial⟩;exact A2
def Kh:=Ay (B' N)
def Ki:=Cz (B' N)
def Wf (b:LA) (c:Bool) (r0:List UInt8→O R):O R :=
 (cond (Nat.ble 3 (b.length)) (Zj N (b.take 3) c (fun d=>(cond ((Nat.beq (d.length) 3)&&((Nat.ble 3 (b.length))&&(!false))) (Ip 1 ((setCells b 0 d).drop 2) fun f g=>(Bf N 1 (fun m i n=>(Kp N [(.bool false),(.imm f g 1 false (c||false))] ((c||false)||false) [(.bool m),(.imm (n.take (i*1)) i 1 false true)] true (fun o=>(cond (o==0) (cond (Nat.ble 2 ((setCells b 0 d).length)) (Bo N ((setCells b 0 d).take 2) (c||false) (fun p=>(r0 p))) none) (cond (Nat.ble 2 ((setCells b 0 d).length)) (Bo N ((setCells b 0 d).take 2) (c||false) (fun e=>(cond (Nat.ble ((e.length)+1) 140737488355328) (Bo N [(.bool false),(.imm f g 1 false (c||false))] ((c||false)||false) (fun l=>(cond (Nat.ble ((List.length (e++([47]:List UInt8)))+(l.length)) 140737488355328) (r0 ((e++([47]:List UInt8))++l)) none))) none))) none))))))) none))) none)
def Dd:=(Aj (@Wf R)).1
theorem X4:@Dd R=@Wf R:=(Aj _).2
def iO:D7:=[(62,NX N),(64,Fb N),(63,Vz N),(15,Kh N)]
def CA (F:KF R):List UInt8→O R:=(fun q=>F (.str q) [])
theorem CB (b:LA) (c:Bool) (F:KF R):Cy (iO N) Cl N 17 [(.pagg b c)] [] F=(Dd N b c (CA F)):=by
 rw[X4]
 kernel_rfl
def X5 (a:LA) (h:Ah) (k:KF R):O R :=
 match a,h with
 | [(.pagg b c)],[]=>(Dd N b c (CA k))
 | _,_=>none
theorem CC:Ap N 17 @X5:=by
 intro R Q a h k j;unfold X5;split;exact Ax (CB ..) (CB ..) ⟨NY N,Fc N,V0 N,Ki N,trivial⟩;exact A2
def Pj:=Ay (CC N)
def Pk:=Cz (CC N)
def Z2 (r0:Bool→O R):O R :=
 (Di N ([45,48,46,50,53]:List UInt8) (fun b c=>(cond ((Nat.beq 0 0)&&((Nat.beq (b.length) 3)&&(Nat.beq 3 3))) (Pe N 7 40 (fun d=>(G0 N d false (fun e f=>(Pe N 5 2 (fun g=>(Ta N g false 0 (fun i l=>(Pe N 6 4 (fun m=>(Dd N m false (fun n=>(cond ((n==([51,47,50]:List UInt8))==true) (cond ((cond true (c==0) false)==true) (cond (Nat.ble 3 (b.length)) (Pe N (-1) 4 (fun o=>(Dn N (b.take 3) false o false (fun p=>(cond ((cond true p false)==true) (cond ((cond true f false)==true) (cond ((cond true (e==([48,46,49,55,53]:List UInt8)) false)==true) (cond ((cond true (l==0) false)==true) (r0 (cond true (i==([50]:List UInt8)) false)) (r0 false)) (r0 false)) (r0 false)) (r0 false)))))) none) (r0 false)) (r0 false)))))))))))))) none)))
def Cj:=(Aj (@Z2 R)).1
theorem CD:@Cj R=@Z2 R:=(Aj _).2
def jT:D7:=[(24,Sp N),(59,uk N),(19,LY N),(21,qF N),(17,Pj N),(27,Zs N)]
def GC (F:KF R):Bool→O R:=(fun q=>F (.bool q) [])
theorem GD (F:KF R):Cy (jT N) Cl N 14 [] [] F=(Cj N (GC F)):=by
 rw[CD]
 kernel_rfl
def CE (a:LA) (h:Ah) (k:KF R):O R :=
 match a,h with
 | [],[]=>(Cj N (GC k))
 | _,_=>none
theorem GE:Ap N 14 @CE:=by
 intro R Q a h k j;unfold CE;split;exact Ax (GD ..) (GD ..) ⟨Ss N,ul N,LZ N,qG N,Pk N,Zt N,trivial⟩;exact A2
def Mk:=Ay (GE N)
def Ml:=Cz (GE N)
def Tb (r0:List UInt8→O R) (b:LA) (c:Nat) (e d:Bool) (k1:Nat→List UInt8→LA→O R) (g:Nat) (f:List UInt8) (i:LA):O R :=
 (Fj N (i.take (g*1)) g false true [(.int .u32 10)] 1 false true (fun o p x s t=>(Ef N (t.take (p*1)) p false true (fun l y=>(cond ((decide (0≤l))&&((decide (l≤(wrap .u64 (l+1))))&&((decide ((wrap .u64 (l+1))≤10))&&(decide ((10:Int)≤(10:Int)))))) (cond (Nat.ble ((List.length (List.take (((wrap .u64 (l+1)).toNat) - (l.toNat)) (List.drop (l.toNat) ([48,49,50,51,52,53,54,55,56,57]:List UInt8))))+(f.length)) 140737488355328) (cond (((o:Nat):Int)==0) (r0 ((List.take (((wrap .u64 (l+1)).toNat) - (l.toNat)) (List.drop (l.toNat) ([48,49,50,51,52,53,54,55,56,57]:List UInt8)))++f)) (k1 o ((List.take (((wrap .u64 (l+1)).toNat) - (l.toNat)) (List.drop (l.toNat) ([48,49,50,51,52,53,54,55,56,57]:List UInt8)))++f) s)) none) none)))))
def J5 (r0:List UInt8→O R) (b:LA) (c:Nat) (e d:Bool):Nat→Nat→List UInt8→LA→O R
 | 0,_,_,_=>none
 | n+1,g,f,i=>(Tb N r0 b c e d (J5 r0 b c e d n) g f i)
def Tc (r0:List UInt8→O R) (b:LA) (c:Nat) (e d:Bool) (k0:O R) (k1:Nat→List UInt8→LA→O R):O R :=
 (Fj N b c false d [(.int .u32 10)] 1 false true (fun q r z u v=>(Ef N (v.take (r*1)) r false true (fun m aa=>(cond ((decide (0≤m))&&((decide (m≤(wrap .u64 (m+1))))&&((decide ((wrap .u64 (m+1))≤10))&&(decide ((10:Int)≤(10:Int)))))) (cond (Nat.ble (List.length (List.take (((wrap .u64 (m+1)).toNat) - (m.toNat)) (List.drop (m.toNat) ([48,49,50,51,52,53,54,55,56,57]:List UInt8)))) 140737488355328) (cond (((q:Nat):Int)==0) (r0 ((List.take (((wrap .u64 (m+1)).toNat) - (m.toNat)) (List.drop (m.toNat) ([48,49,50,51,52,53,54,55,56,57]:List UInt8)))++([]:List UInt8))) (k1 q ((List.take (((wrap .u64 (m+1)).toNat) - (m.toNat)) (List.drop (m.toNat) ([48,49,50,51,52,53,54,55,56,57]:List UInt8)))++([]:List UInt8)) u)) none) none)))))
def J6 (r0:List UInt8→O R) (b:LA) (c:Nat) (e d:Bool):Nat→O R
 | 0=>none
 | n+1=>(Tc N r0 b c e d (J6 r0 b c e d n) (fun g f i=>(J5 N r0 b c e d n g f i)))
def Ve (N:Nat) (r0:List UInt8→O R) (q0:O R) (b:LA) (c:Nat) (e d:Bool):O R :=
 q0
def Ij:=(Aj (fun (N:Nat) (b:LA) (c:Nat) (e d:Bool) (r0:List UInt8→O R)=>(Ve N r0 (J6 N r0 b c e d N) b c e d))).1
theorem GF (b c e d r0):(@Ij R N b c e d r0)=(Ve N r0 (J6 N r0 b c e d N) b c e d):=by rw[Ij,(Aj _).2]
def L_:Hints:={ H:=(hS hL (hS hL (hS (hP [0,3] hL) hL))) }
def UN:D7:=[(126,Vx N),(89,Vu N)]
def jU (F:KF R):=Ty Tryz.f61 L_ (UN N) [] N F
def Fn (F:KF R):List UInt8→O R:=(fun w=>F (.str w) [])
def jV (b:LA) (c:Nat) (e d:Bool) (g:Nat) (f:List UInt8) (i:LA):St:=⟨[(0,(.own 300000 0 g)),(3,(.str f))],(hq [(bQ 1 i)])⟩
def jW (b:LA) (c:Nat) (e d:Bool):St:=⟨[(0,(.imm b c 1 e d)),(3,(.str ([]:List UInt8)))],[]⟩
def MA (F:KF R):=jU N F [1,1,0] []
theorem X6 (F:KF R) (b:LA) (c:Nat) (e d:Bool):∀ (n g:Nat) (f:List UInt8) (i:LA),A5 (MA N F) n (jV b c e d g f i)=(J5 N (Fn F) b c e d n g f i)
 | 0,_,_,_=>by kernel_rfl
 | n+1,g,f,i=>Eq.trans (by kernel_rfl) (E9 (Tb N (Fn F) b c e d · g f i) (funext fun g=>funext fun f=>funext fun i=>(X6 F b c e d n g f i)):_)
theorem X7 (F:KF R) (b:LA) (c:Nat) (e d:Bool):∀ (n:Nat) ,A5 (MA N F) n (jW b c e d)=(J6 N (Fn F) b c e d n)
 | 0=>by kernel_rfl
 | n+1=>Eq.trans (by kernel_rfl) (ti (Tc N (Fn F) b c e d · ·) (X7 F b c e d n) (funext fun g=>funext fun f=>funext fun i=>(X6 N F b c e d n g f i)):_)
theorem MB (b:LA) (c:Nat) (e d:Bool) (F:KF R):Cy (UN N) L_ N 61 [(.imm b c 1 e d)] [] F=(Ij N b c e d (Fn F)):=by
 rw[GF]
 exact Eq.trans (by kernel_rfl) (E9 (Ve N (Fn F) · b c e d) ((Aw ..).trans (X7 N F b c e d N)):_)
def GG (a:LA) (h:Ah) (k:KF R):O R :=
 match a,h with
 | [(.imm b c 1 e d)],[]=>(Ij N b c e d (Fn k))
 | _,_=>none
theorem MC:Ap N 61 @GG:=by
 intro R Q a h k j;unfold GG;split;exact Ax (MB ..) (MB ..) ⟨Vy N,Vv N,trivial⟩;exact A2
def MD:=Ay (MC N)
def ME:=Cz (MC N)
def Mm (b:LA) (c:Bool) (r0:List UInt8→O R):O R :=
 (cond (Nat.ble 2 (b.length)) (Fz N (b.take 2) c (fun d=>(cond ((Nat.beq (d.length) 2)&&((Nat.ble 2 (b.length))&&(!false))) (Pa (setCells b 0 d) fun f=>(cond f (Ip 1 ((setCells b 0 d).drop 1) fun g i=>(Ij N g i false (c||false) (fun e=>(cond (Nat.ble (1+(e.length)) 140737488355328) (r0 (([45]:List UInt8)++e)) none)))) (Ip 1 ((setCells b 0 d).drop 1) fun l m=>(Ij N l m false (c||false) (fun n=>(r0 n)))))) none))) none)
def Cq:=(Aj (@Mm R)).1
theorem Mn:@Cq R=@Mm R:=(Aj _).2
def cd:D7:=[(26,Ol N),(61,MD N)]
def X8 (F:KF R):List UInt8→O R:=(fun o=>F (.str o) [])
theorem X9 (b:LA) (c:Bool) (F:KF R):Cy (cd N) Cl N 16 [(.pagg b c)] [] F=(Cq N b c (X8 F)):=by
 rw[Mn]
 kernel_rfl
def Vf (a:LA) (h:Ah) (k:KF R):O R :=
 match a,h with
 | [(.pagg b c)],[]=>(Cq N b c (X8 k))
 | _,_=>none
theorem Ya:Ap N 16 @Vf:=by
 intro R Q a h k j;unfold Vf;split;exact Ax (X9 ..) (X9 ..) ⟨Om N,ME N,trivial⟩;exact A2
def Yb:=Ay (Ya N)
def Yc:=Cz (Ya N)
def Td (b:LA) (c:Bool) (r0:List UInt8→O R):O R :=
 (cond (Nat.ble 3 (b.length)) (Cs N (b.take 3) c (fun d=>(cond ((Nat.beq (d.length) 3)&&((Nat.ble 3 (b.length))&&(!false))) (Ip 1 ((setCells b 0 d).drop 2) fun g i=>(Ja N g i false (c||false) [(.int .u32 1)] 1 false true (fun l=>(cond l (cond (Nat.ble 2 ((setCells b 0 d).length)) (Cq N ((setCells b 0 d).take 2) (c||false) (fun m=>(r0 m))) none) (cond (Nat.ble 2 ((setCells b 0 d).length)) (Cq N ((setCells b 0 d).take 2) (c||false) (fun e=>(cond (Nat.ble ((e.length)+1) 140737488355328) (Ip 1 ((setCells b 0 d).drop 2) fun n o=>(Ij N n o false (c||false) (fun f=>(cond (Nat.ble ((List.length (e++([47]:List UInt8)))+(f.length)) 140737488355328) (r0 ((e++([47]:List UInt8))++f)) none)))) none))) none))))) none))) none)
def Hl:=(Aj (@Td R)).1
theorem Vg:@Hl R=@Td R:=(Aj _).2
def ce:D7:=[(28,Ga N),(65,Qb N),(16,Yb N),(61,MD N)]
def Yd (F:KF R):List UInt8→O R:=(fun p=>F (.str p) [])
theorem Ye (b:LA) (c:Bool) (F:KF R):Cy (ce N) Cl N 18 [(.pagg b c)] [] F=(Hl N b c (Yd F)):=by
 rw[Vg]
 kernel_rfl
def Vh (a:LA) (h:Ah) (k:KF R):O R :=
 match a,h with
 | [(.pagg b c)],[]=>(Hl N b c (Yd k))
 | _,_=>none
theorem Yf:Ap N 18 @Vh:=by
 intro R Q a h k j;unfold Vh;split;exact Ax (Ye ..) (Ye ..) ⟨Gb N,Qc N,Yc N,ME N,trivial⟩;exact A2
def XL:=Ay (Yf N)
def XM:=Cz (Yf N)
def Hn (e:Bool) (f:LA) (g:Nat) (p b i:Bool) (l:LA) (m:Nat) (q c:Bool) (n:LA) (o:Nat) (r d:Bool) (r0:Bool→O R):O R :=
 (Cj N (fun s=>(cond (s==true) (Bo N [(.bool e),(.imm f g 1 false b)] (b||false) (fun t=>(Cq N [(.bool e),(.imm f g 1 false b)] (b||false) (fun u=>(cond ((cond true (t==u) false)==true) (Dd N [(.bool i),(.imm l m 1 false c),(.imm n o 1 false d)] (c||(d||false)) (fun v=>(Hl N [(.bool i),(.imm l m 1 false c),(.imm n o 1 false d)] (c||(d||false)) (fun w=>(r0 (cond true (v==w) false)))))) (r0 false)))))) (r0 false))))
def E8:=(Aj (@Hn R)).1
theorem J7:@E8 R=@Hn R:=(Aj _).2
def Z3:D7:=[(14,Mk N),(15,Kh N),(16,Yb N),(17,Pj N),(18,XL N)]
def K7 (F:KF R):Bool→O R:=(fun x=>F (.bool x) [])
theorem K8 (e:Bool) (f:LA) (g:Nat) (p b i:Bool) (l:LA) (m:Nat) (q c:Bool) (n:LA) (o:Nat) (r d:Bool) (F:KF R):Cy (Z3 N) Cl N 3 [(.agg [(.bool e),(.imm f g 1 p b)]),(.agg [(.bool i),(.imm l m 1 q c),(.imm n o 1 r d)])] [] F=(E8 N e f g p b i l m q c n o r d (K7 F)):=by
 rw[J7]
 kernel_rfl
def J8 (a:LA) (h:Ah) (k:KF R):O R :=
 match a,h with
 | [(.agg [(.bool e),(.imm f g 1 p b)]),(.agg [(.bool i),(.imm l m 1 q c),(.imm n o 1 r d)])],[]=>(E8 N e f g p b i l m q c n o r d (K7 k))
 | _,_=>none
theorem K9:Ap N 3 @J8:=by
 intro R Q a h k j;unfold J8;split;exact Ax (K8 ..) (K8 ..) ⟨Ml N,Ki N,Yc N,Pk N,XM N,trivial⟩;exact A2
def Yg:=Ay (K9 N)
def Yh:=Cz (K9 N)
end
end Gx

namespace Gx
open Go Go.Proofs
section
variable {R:Type}
theorem xF (m:Nat):(Int.tmod (m:Int) 2==1)=decide (m%2=1):=by
 rw[show Int.tmod (m:Int) 2=((m%2:Nat):Int) by rfl]
 rw[Bool.eq_iff_iff];simp;omega
theorem xG {m:Nat} (h:m≤1000000000000):IntKind.wrap .i64 (Int.tdiv (m:Int) 2)=((m/2:Nat):Int):=by
 rw[show Int.tdiv (m:Int) 2=((m/2:Nat):Int) by rfl,i64 (by omega)]
theorem tN (n:Bool) (s:LS) (x y:AV):H0 (A8 n s) 0 [x,y]=[x,y]:=rfl
theorem iP (s:LS):Am false s=(val s.l:Int):=rfl
theorem tO {N:Nat} {s1 s2:LS} {o1 o2:Bool} (b:Ad s1.l) (c:Ad s2.l) (d:fit (s1.l.length+s2.l.length) N):∃ S,Ad S∧val S=val s1.l*val s2.l∧∀ K:Bool→Nat→LA→O R,Nn N (A8 false s1) o1 (A8 false s2) o2 K=K false (Ae (val s1.l*val s2.l)).length (Ab S):=by
 obtain⟨S,a1,a2,a3⟩:=XE (R:=R) (N:=N) (n1:=false) (n2:=false) (o1:=o1) (o2:=o2) b c d
 rw[iP,iP,←Int.natCast_mul] at a2 a3
 rw[Int.natAbs_natCast] at a2 a3
 refine⟨S,a1,a2,fun K=>?_⟩
 rw[a3,decide_eq_false (by omega)]
theorem ON {P Q m j:Nat} (hP:1≤P) (hQ:1≤Q) (b:j≤m):P ^ j≤Q*P ^ m:=by
 have c:P ^ j≤P ^ m:=Nat.pow_le_pow_right hP b
 have d:1*P ^ m≤Q*P ^ m:=Nat.mul_le_mul_right _ hQ
 omega
theorem sO {N k:Nat} (F:fit (2*k+4) N):∀ (b m P Q:Nat) (c:Bool) (s:LS) (S:List Nat),m<b→m≤1000000000→1≤P→1≤Q→Q*P ^ m<4294967296 ^ k→Ad s.l→val s.l=P→s.l.length≤k+1→Ad S→val S=Q →
  ∃ S',Ad S'∧val S'=Q*P ^ m∧∀ K:Bool→Nat→LA→O R,E6 N K b (m:Int) c (A8 false s) false (Ae Q).length (Ab S)=K false (Ae (Q*P ^ m)).length (Ab S'):=by
 intro b
 induction b with
 | zero=>intro m P Q c s S h;omega
 | succ b x =>
  intro m P Q c s S M I hP hQ f v y z hS hSv
  rcases Nat.eq_zero_or_pos m with A | A
  ·subst A
   refine⟨S,hS,by simp[hSv],fun K=>?_⟩
   rw[E6];unfold Jc
   rw[show decide (((0:Nat):Int)>0)=false by decide,cf,Nat.pow_zero,Nat.mul_one]
  ·have lQ:(Ae Q).length≤k:=Bj (Nat.lt_of_le_of_lt (Nat.le_mul_of_pos_right Q (Nat.pow_pos hP)) f)
   have hPm:P ^ 1≤Q*P ^ m:=ON hP hQ A
   obtain⟨S1,a1,a2,a3⟩:=tO (R:=R) (N:=N) (s1:=.of (Ae Q) false true) (s2:=s) (o1:=true) (o2:=c) (Aa _) v (F.le (show(Ae Q).length+s.l.length≤_ by omega))
   have vQ:val (LS.of (Ae Q) false true).l=Q:=Ac Q
   rw[vQ,y] at a2 a3
   obtain⟨S2,G,B,C⟩:=tO (R:=R) (N:=N) (s1:=s) (s2:=s) (o1:=c) (o2:=c) v v (F.le (show s.l.length+s.l.length≤_ by omega))
   rw[y] at B C
   have sq:∀ n t:Nat,(P*P) ^ n=P ^ (2*n):=fun n t=>by rw[←Nat.pow_two,←Nat.pow_mul]
   have gt0:decide (((m:Nat):Int)>0)=true:=by simp;omega
   have cell:∀ (t:Nat) (u:List Nat),([.bool false,.imm (List.take ((Ae t).length*1) (Ab u)) (Ae t).length 1 false false]:LA)=[.bool false,.imm (List.take ((Ae t).length*1) (Ab u)) (Ae t).length 1 false false]:=fun _ _=>rfl
   by_cases d:m%2=1
   ·by_cases L:1<m
    ·have e:Q*P ^ m=(Q*P)*(P*P) ^ (m/2):=by
      rw[sq _ 0,Nat.mul_assoc,←Nat.pow_succ']
      congr 2;omega
     have l2:(Ae (P*P)).length≤k:=Bj (Nat.lt_of_le_of_lt (by have:=ON (j:=2) hP hQ (show 2≤m by omega);rwa [Nat.pow_two] at this) f)
     obtain⟨S',c1,i,q⟩:=x (m/2) (P*P) (Q*P) (c||false) (.of (Ae (P*P)) false false) S1 (by omega) (by omega) (Nat.mul_pos hP hP) (Nat.mul_pos hQ hP) (by rw[←e];exact f) (Aa _) (Ac _) (by show(Ae (P*P)).length≤_;omega) a1 a2
     refine⟨S',c1,by rw[i,e],fun K=>?_⟩
     rw[E6];unfold Jc
     rw[gt0,ct,xF,decide_eq_true d,ct,Pf,ct,NV,Av hS hSv,hZ,a3,show decide (((m:Nat):Int)>1)=true by simp;omega,ct,ct,ct,C,show((Nat.beq 2 2)&&(true&&(!false)))=true by rfl,ct,xG (by omega),tN,Av G B,hZ,q,e]
    ·have D:m=1:=by omega
     subst D
     obtain⟨S',c1,i,q⟩:=x 0 P (Q*P) c s S1 (by omega) (by omega) hP (Nat.mul_pos hQ hP) (by simpa using f) v y z a1 a2
     rw[Nat.pow_zero,Nat.mul_one] at i q
     refine⟨S',c1,by rw[i,Nat.pow_one],fun K=>?_⟩
     rw[E6];unfold Jc
     rw[gt0,ct,xF,decide_eq_true d,ct,Pf,ct,NV,Av hS hSv,hZ,a3,show decide (((1:Nat):Int)>1)=false by decide,cf,xG (by omega),q,Nat.pow_one]
   ·have L:1<m:=by omega
    have e:Q*P ^ m=Q*(P*P) ^ (m/2):=by
     rw[sq _ 0];congr 2;omega
    have l2:(Ae (P*P)).length≤k:=Bj (Nat.lt_of_le_of_lt (by have:=ON (j:=2) hP hQ (show 2≤m by omega);rwa [Nat.pow_two] at this) f)
    obtain⟨S',c1,i,q⟩:=x (m/2) (P*P) Q (c||false) (.of (Ae (P*P)) false false) S (by omega) (by omega) (Nat.mul_pos hP hP) hQ (by rw[←e];exact f) (Aa _) (Ac _) (by show(Ae (P*P)).length≤_;omega) hS hSv
    refine⟨S',c1,by rw[i,e],fun K=>?_⟩
    rw[E6];unfold Jc
    rw[gt0,ct,xF,decide_eq_false d,cf,show decide (((m:Nat):Int)>1)=true by simp;omega,ct,Pf,ct,ct,NV,C,show((Nat.beq 2 2)&&(true&&(!false)))=true by rfl,ct,xG (by omega),tN,Av G B,hZ,q,e]
theorem xk:Ae 10=[10]:=by rw[Tz (by omega)];simp[Bt]
theorem iQ (n:Nat):10 ^ n<4294967296 ^ (n+1):=by
 have b:10 ^ n≤4294967296 ^ n:=Nat.pow_le_pow_left (by omega) n
 have c:4294967296 ^ n<4294967296 ^ (n+1):=Nat.pow_lt_pow_right (by omega) (by omega)
 omega
theorem HX {N n:Nat} (b:fit (2*n+6) N):∃ S,Ad S∧val S=10 ^ n∧∀ (K:Bool→Nat→LA→O R),(Bf N 10 fun g e i=>J4 N [(.bool g),(.imm (i.take (e*1)) e 1 false true)] true (n:Int) K)=K false (Ae (10 ^ n)).length (Ab S):=by
 have q:=b.1;have s:=b.2
 obtain⟨S0,a1,a2,a3⟩:=Fl (R:=R) (N:=N) (v:=1) (by omega) (by omega)
 obtain⟨S1,f,j,m⟩:=Fl (R:=R) (N:=N) (v:=10) (by omega) (by omega)
 obtain⟨S',c1,c,d⟩:=sO (R:=R) (N:=N) (k:=n+1) (b.le (by omega)) N n 10 1 true (.of (Ae 10) false true) S0 (by omega) (by omega) (by omega) (by omega) (by rw[Nat.one_mul];exact iQ n) (Aa _) (Ac _) (by rw[xk];simp[LS.l]) a1 a2
 rw[Nat.one_mul] at c d
 refine⟨S',c1,c,fun K=>?_⟩
 rw[m,TU];unfold HT
 rw[a3]
 refine Eq.trans ?_ (d K)
 rw[show(10:Int).natAbs=10 by rfl,show(1:Int).natAbs=1 by rfl] at *
 rw[Av f j]
 rfl
def B9:Nat:=1000000000
def qH:Nat→Nat→List Nat
 | 0,_=>[]
 | n+1,a=>if a=0 then [] else a%B9::qH n (a/B9)
def sP (a:Nat):List Nat:=qH a a
theorem xm:∀ (n m a:Nat),a≤n→a≤m→qH n a=qH m a:=by
  intro n
  induction n with
  | zero=>intro m a h _;cases m<;>simp[qH];omega
  | succ n b =>
    intro m a c d
    cases m with
    | zero => have : a = 0 := by omega
              subst this;simp[qH]
    | succ m =>
      unfold qH
      split
      · rfl
      · have:a/B9<a:=Nat.div_lt_self (by omega) (by decide)
        rw[b m (a/B9) (by omega) (by omega)]
theorem UO:sP 0=[]:=rfl
theorem Vi {a:Nat} (h:0<a):sP a=a%B9::sP (a/B9):=by
 unfold sP
 obtain⟨n,rfl⟩:∃ n,a=n+1:=⟨a - 1,by omega⟩
 rw[qH,if_neg (by omega)]
 have:(n+1)/B9<n+1:=Nat.div_lt_self (by omega) (by decide)
 rw[xm n ((n+1)/B9) _ (by omega) (Nat.le_refl _)]
theorem yn:∀ (a:Nat),∀ g ∈ sP a,g<B9:=by
 intro a
 induction a using Nat.strongRecOn with
 | ind a d =>
  intro g b
  rcases Nat.eq_zero_or_pos a with c | c
  ·subst c;cases b
  ·rw[Vi c] at b
   rcases List.mem_cons.1 b with rfl | b
   ·exact Nat.mod_lt _ (by decide)
   ·exact d (a/B9) (Nat.div_lt_self c (by decide)) g b
def vN (g:Nat):List UInt8:=List.replicate (9 - (En g).length) 48++En g
def Px:List Nat→List UInt8
 | []=>[]
 | [g]=>En g
 | g::h::r=>Px (h::r)++vN g
theorem GH {g:Nat} (h:g<B9):(En g).length≤9:=(tC (by omega)).2 h
theorem vO:∀ (a:Nat),0<a→Px (sP a)=En a:=by
 intro a
 induction a using Nat.strongRecOn with
 | ind a f =>
  intro d
  rw[Vi d]
  have c:a/B9<a:=Nat.div_lt_self d (by decide)
  rcases Nat.eq_zero_or_pos (a/B9) with b | b
  ·rw[b,UO]
   show En (a%B9)=En a
   have:a<B9:=(Nat.div_eq_zero_iff_lt (by decide)).1 b
   rw[Nat.mod_eq_of_lt this]
  ·have e:=f (a/B9) c b
   rw[Vi b] at e ⊢
   rw[Px,e,vN]
   have i:a=a/B9*10 ^ 9+a%B9:=by
    have:=Nat.div_add_mod a B9
    rw[Nat.mul_comm] at this
    exact this.symm
   conv=>rhs;rw[i]
   exact(tw (k:=9) (r:=a%B9) b (Nat.mod_lt _ (by decide)) (GH (Nat.mod_lt _ (by decide)))).symm
theorem lA:∀ (gs:List Nat),(∀ g ∈ gs,g<B9)→(Px gs).length≤9*gs.length
 | [],_=>by simp[Px]
 | [g],h=>by have:=GH (h g (by simp));simp[Px];omega
 | g::k::r,h=>by
  have c:=lA (k::r) (fun x b=>h x (by simp at b ⊢;exact .inr b))
  have d:=GH (h g (by simp))
  rw[Px,List.length_append,vN,List.length_append,List.length_replicate]
  simp only[List.length_cons] at *
  omega
def gI (l:List Nat):LA:=l.map fun n:Nat=>.int .i64 (n:Int)
theorem yp (a:List Nat) (g:Nat):gI a++[.int .i64 (g:Int)]=gI (a++[g]):=by simp[gI]
theorem xn (a:List Nat):List.take (a.length*1) (gI a)=gI a:=by rw[Nat.mul_one];exact List.take_of_length_le (by simp[gI])
theorem Aaa {l:List Nat} {j:Nat} (h:j<l.length) {f:Int→O R}:F3 .i64 (List.drop (0+((Int.toNat (j:Int))*1)) (gI l)) f=f (l[j]:Nat):=by
 rw[Nat.zero_add,Nat.mul_one,Int.toNat_natCast]
 have e:List.drop j (gI l)=.int .i64 ((l[j]:Nat):Int)::gI (List.drop (j+1) l):=by
  unfold gI;rw[←List.map_drop,List.drop_eq_getElem_cons h];rfl
 rw[e];rfl
theorem sQ (s:List UInt8) (n:Nat) (h:n=s.length):List.take (n*1) (C2 s)=C2 s:=by
 rw[Nat.mul_one];exact List.take_of_length_le (by simp[C2,h])
theorem qI (s:List UInt8):List.take s.length (C2 s)=C2 s:=List.take_of_length_le (by simp[C2])
theorem vP (a b:List UInt8):C2 a++C2 b=C2 (a++b):=by simp[C2]
theorem cB:∀ (s:List UInt8),Of (C2 s)=some s
 | []=>rfl
 | c::r=>by
  have b:=cB r
  have e:C2 (c::r)=.int .u8 (c.toNat:Int)::C2 r:=rfl
  rw[e,Of,b]
  simp[cp]
theorem xo {N:Nat} {s:List UInt8} {K:List UInt8→O R} (b:s≠[]) (e:s.length≤9223372036854775807):Mg N s.length (C2 s) K=K s:=by
 rw[Xz];unfold V9
 have c:0<s.length:=List.length_pos_iff.2 b
 have d:((Nat.beq 5 5)&&((Nat.beq 1 1)&&(true&&((!false)&&((Nat.beq 0 0)&&((decide (0<((s.length:Nat):Int)))&&((decide (((s.length:Nat):Int)≤(((C2 s).length:Nat):Int)))&&(decide (((s.length:Nat):Int)≤9223372036854775807)))))))))=true:=by
  simp[C2];omega
 rw[show Nat.blt 0 s.length=true by simpa using c,ct,d,ct,qI,cB];rfl
theorem xp {N:Nat} {b:List UInt8} {K:Int→Nat→LA→O R} (c:b.length≤140737488355328):Ii N b K=K (b.length:Int) b.length (C2 b):=by
 rw[Sw];unfold Pg
 rw[Xx];unfold V7
 have:(Nat.ble (0+b.length) 140737488355328&&Nat.ble ((0+b.length)*1) 140737488355328)=true:=by simp;omega
 rw[this,ct,Nat.zero_add]
theorem tP {N:Nat} {s b:List UInt8} {K:Int→Nat→LA→O R} (c:s.length+b.length≤140737488355328):Cu N b s.length (C2 s) K=K (b.length:Int) (s++b).length (C2 (s++b)):=by
 rw[Mx];unfold Ku
 rw[Pv];unfold Nz
 have:(Nat.ble (s.length+b.length) 140737488355328&&Nat.ble ((s.length+b.length)*1) 140737488355328)=true:=by simp;omega
 rw[this,ct,sQ s _ rfl,vP,List.length_append]
theorem lB {N n:Nat} {K:List UInt8→O R} (h:n≤9223372036854775807):strconv_Itoa N (n:Int) K=K (En n):=by
 rw[Ix];unfold Jq
 have:(decide (-9223372036854775808≤(n:Int))&&decide ((n:Int)≤9223372036854775807))=true:=by simp;omega
 rw[this,ct,Lib.itoa,if_neg (by omega),Int.toNat_natCast]
theorem qJ (k:Nat):Lib.repeatL [48] k=List.replicate k 48:=by
 induction k with
 | zero=>rfl
 | succ k b=>rw[Lib.repeatL,b];rfl
theorem cz {N k:Nat} {K:List UInt8→O R} (h:k≤140737488355328):strings_Repeat N [48] (k:Int) K=K (List.replicate k 48):=by
 rw[Gi];unfold G5
 have:(decide ((0:Int)≤(k:Int))&&(decide ((k:Int)≤9223372036854775807)&&decide (((([48]:List UInt8).length:Nat):Int)*(k:Int)≤140737488355328)))=true:=by simp;omega
 rw[this,ct,Int.toNat_natCast,qJ]
end
end Gx

namespace Gx
open Go Go.Proofs
section
variable {R:Type}
theorem xq:∀ (k a:Nat),a<B9 ^ k→(sP a).length≤k:=by
  intro k
  induction k with
  | zero => intro a h; have : a = 0 := by simpa using h
            subst this;simp[UO]
  | succ k c =>
    intro a h
    rcases Nat.eq_zero_or_pos a with b | b
    · subst b;simp[UO]
    · rw[Vi b,List.length_cons]
      have:=c (a/B9) (Nat.div_lt_of_lt_mul (by rw[Nat.pow_succ,Nat.mul_comm] at h;exact h))
      omega
theorem xH {l:List Nat} (h:Ad l):(sP (val l)).length≤2*l.length:=by
 refine xq _ _ (Nat.lt_of_lt_of_le (Bb h) ?_)
 rw[Nat.pow_mul]
 exact Nat.pow_le_pow_left (by decide) _
theorem zO:(Ae (10 ^ 9)).length≤1:=Bj (by decide)
theorem zi:(10:Nat) ^ 9=B9:=by decide
theorem Bl (v:Nat) (a b:Bool):Ad (LS.of (Ae v) a b).l:=Aa v
theorem yO {N v:Nat} {S:List Nat} {o:Bool} {K:LA→LA→Bool→O R} (b:Ad S) (c:val S=10 ^ 9) {s:LS} (d:Ad s.l) (e:val s.l=v) (f:fit (s.l.length+5) N) :
  Dm N (A8 false s) o [(.bool false),(.imm (List.take ((Ae (10 ^ 9)).length*1) (Ab S)) (Ae (10 ^ 9)).length 1 false true)] true K=K (As ((v/B9:Nat):Int)) (As ((v%B9:Nat):Int)) true:=by
 rw[Av b c,hZ,Qk d (Bl _ _ _) (by rw[iP];simp only[LS.l];rw[Ac];decide) (f.le (by have:=zO;simp only[LS.l];omega)),iP,iP,e]
 simp only[LS.l]
 rw[Ac,zi];rfl
theorem lC {N v:Nat} {o:Bool} {K:Int→Bool→O R} (c:v≤9223372036854775807) (b:fit 3 N):Ou N (As (v:Int)) o K=K (v:Int) true:=by
 have:(Ae v).length≤2:=Bj (by omega)
 rw[Xv,pg (Bl _ _ _) (b.le (by simp only[LS.l];omega)) (by rw[iP];simp only[LS.l];rw[Ac];omega),iP]
 simp only[LS.l]
 rw[Ac]
theorem GI {N v:Nat} {o:Bool} {K:Int→O R} (b:fit ((Ae v).length) N):Hr N (As (v:Int)) o K=K (v:Int).sign:=by
 rw[Xv,Ny (Bl _ _ _) b,iP]
 simp only[LS.l]
 rw[Ac]
theorem xI {v:Nat}:decide ((v:Int).sign>0)=decide (0<v):=by
 rw[decide_eq_decide]
 cases v with
 | zero=>simp
 | succ v=>simp
theorem zP {l:List Nat} {j:Nat} {i:Int} (b:i=(j:Int)) (h:j<l.length) {f:Int→O R}:F3 .i64 (List.drop (0+((Int.toNat i)*1)) (gI l)) f=f (l[j]:Nat):=by subst b;exact Aaa h
theorem vR {N:Nat} {G:List Nat} {K:List UInt8→O R} (hG:∀ g ∈ G,g<B9) (s:G.length≤2000000000):∀ (b m:Nat),1≤m→m≤G.length→G.length - m<b →
  Mh N K G.length (gI G) b (G.length:Int) (m:Int) (Px (G.drop (G.length - m))).length (C2 (Px (G.drop (G.length - m))))=K (Px G):=by
 intro b
 induction b with
 | zero=>intro m _ _ h;omega
 | succ b k =>
  intro m i t u
  have hT:=lA (G.drop (G.length - m)) (fun g d=>hG g (List.mem_of_mem_drop d))
  rw[List.length_drop] at hT
  rw[Mh];unfold Wa
  by_cases e:m<G.length
  ·rw[NG e,ct]
   have j:IntKind.wrap .i64 ((IntKind.wrap .i64 (((G.length:Nat):Int) - 1)) - (m:Int))=((G.length - m - 1:Nat):Int):=by
    rw[show IntKind.wrap .i64 (((G.length:Nat):Int) - 1)=((G.length - 1:Nat):Int) by rw[i64 (by omega)];omega,i64 (by omega)];omega
   have c:G.length - m - 1<G.length:=by omega
   rw[show Ao (IntKind.wrap .i64 ((IntKind.wrap .i64 (((G.length:Nat):Int) - 1)) - (m:Int))) G.length=true by rw[j];unfold Ao;simp;omega,ct,zP j c]
   have d:=hG _ (List.getElem_mem c)
   have hB:B9=1000000000:=rfl
   have l:=GH d
   rw[lB (by omega),show decide (((m:Nat):Int)>0)=true by simp;omega,ct]
   rw[show IntKind.wrap .i64 (9 - (((En G[G.length - m - 1]).length:Nat):Int))=((9 - (En G[G.length - m - 1]).length:Nat):Int) by rw[i64 (by omega)];omega]
   have n:G.drop (G.length - (m+1))=G[G.length - m - 1]::G.drop (G.length - m):=by
    rw[show G.length - (m+1)=G.length - m - 1 by omega,List.drop_eq_getElem_cons c,show G.length - m - 1+1=G.length - m by omega]
   have f:Px (G.drop (G.length - (m+1)))=Px (G.drop (G.length - m))++vN G[G.length - m - 1]:=by
    rw[n]
    cases q:G.drop (G.length - m) with
    | nil=>have:=congrArg List.length q;rw[List.length_drop] at this;simp at this;omega
    | cons x y=>rw[Px]
   rw[cz (by omega),tP (by rw[List.length_replicate];omega),tP (by rw[List.length_append,List.length_replicate];omega),List.append_assoc,show List.replicate (9 - (En G[G.length - m - 1]).length) 48++En G[G.length - m - 1]=vN G[G.length - m - 1] from rfl,←f,wS (by omega)]
   exact k (m+1) (by omega) (by omega) (by omega)
  ·have e:m=G.length:=by omega
   subst e
   rw[US (by omega),cf]
   rw[Nat.sub_self,List.drop_zero] at hT ⊢
   rw[xo (by
    cases hG':G with
    | nil=>rw[hG'] at i;simp at i
    | cons g r =>
     cases r with
     | nil=>exact Rq g
     | cons h r =>
      rw[Px,vN];simp[Rq]) (by omega)]
theorem vS (g:Nat):Px [g]=En g:=rfl
theorem vT {N:Nat} {G:List Nat} {K:List UInt8→O R} (hG:∀ g ∈ G,g<B9) (d:G≠[]) (f:G.length≤2000000000) (hN:G.length+2≤N):Mi N K G.length (gI G) N (G.length:Int)=K (Px G):=by
 have k:=List.length_pos_iff.2 d
 obtain⟨n,rfl⟩:∃ n,N=n+1:=⟨N - 1,by omega⟩
 rw[Mi];unfold Wb
 have c:IntKind.wrap .i64 ((IntKind.wrap .i64 (((G.length:Nat):Int) - 1)) - 0)=((G.length - 1:Nat):Int):=by
  rw[show IntKind.wrap .i64 (((G.length:Nat):Int) - 1)=((G.length - 1:Nat):Int) by rw[i64 (by omega)];omega,i64 (by omega)];omega
 have b:G.length - 1<G.length:=by omega
 have i:=hG _ (List.getElem_mem b)
 have hB:B9=1000000000:=rfl
 have j:=GH i
 rw[show decide ((0:Int)<((G.length:Nat):Int))=true by simp;omega,ct,show Ao (IntKind.wrap .i64 ((IntKind.wrap .i64 (((G.length:Nat):Int) - 1)) - 0)) G.length=true by rw[c];unfold Ao;simp;omega,ct,zP c b,lB (by omega),xp (by omega)]
 have e:G.drop (G.length - 1)=[G[G.length - 1]]:=by
  rw[List.drop_eq_getElem_cons b,List.drop_eq_nil_of_le (by omega)]
 have:=vR (R:=R) (N:=n+1) (K:=K) hG f n 1 (by omega) (by omega) (by omega)
 rw[e,vS] at this
 exact this
theorem vU {N a:Nat} {S:List Nat} {i:Bool} {e:Nat} {l:LA} {K:List UInt8→O R} (m:Ad S) (n:val S=10 ^ 9) (q:0<a) (t:(sP a).length≤2000000000) (hN:(sP a).length+2≤N) (d:fit ((Ae a).length+5) N) :
  ∀ (b v:Nat) (G:List Nat),v≤a→G≠[]→G++sP v=sP a→(sP v).length<b→Mj N K false (Ae (10 ^ 9)).length (Ab S) i e l b G.length (As (v:Int)) (gI G)=K (En a):=by
 intro b
 induction b with
 | zero=>intro v G _ _ _ h;omega
 | succ b u =>
  intro v G f hG0 hG j
  have x:=An f
  rw[Mj];unfold Wc
  have k:=congrArg List.length hG
  rw[List.length_append] at k
  rw[Tm,ct,iV,GI (d.le (by omega)),xI]
  rcases Nat.eq_zero_or_pos v with c | c
  ·subst c
   rw[UO,List.append_nil] at hG
   have y:=List.length_pos_iff.2 hG0
   rw[show decide (0<0)=false by decide,cf,show(((G.length:Nat):Int)==0)=false by simp;omega,cf]
   rw[hG] at hG0 ⊢
   exact(vT (yn a) hG0 t hN).trans (by rw[vO a q])
  ·rw[decide_eq_true c,ct,ct,Xv,yO m n (s:=.of (Ae v) false false) (Bl _ _ _) (Ac v) (d.le (by simp only[LS.l];omega)),ph,ct,ph,ct,Tm,ct,iV]
   have hB:B9=1000000000:=rfl
   have z:v%B9<B9:=Nat.mod_lt _ (by decide)
   rw[lC (by omega) (d.le (by omega)),show((Nat.ble (G.length+1) 140737488355328)&&(Nat.ble ((G.length+1)*8) 140737488355328))=true by simp;omega,ct,Tm,ct,iV,sL,ct,←Xv,ws,xn,yp]
   have e:(G++[v%B9])++sP (v/B9)=sP a:=by rw[List.append_assoc,←hG,Vi c];rfl
   have:=u (v/B9) (G++[v%B9]) (by have:=Nat.div_le_self v B9;omega) (by simp) e (by rw[Vi c,List.length_cons] at j;omega)
   rw[List.length_append] at this
   exact this
theorem qK {N:Nat} {n:Bool} {s:LS} {u:Bool} {K:List UInt8→O R} (d:Ad s.l) (b:fit (2*s.l.length+40) N):Rb N (A8 n s) u K=K (En (Am n s).natAbs):=by
 have hN:=b.1;have hN2:=b.2
 obtain⟨S,j,k,q⟩:=HX (R:=R) (N:=N) (n:=9) (b.le (by omega))
 rw[LT];unfold Z1
 refine Eq.trans (q _) ?_
 rw[Pf,ct,NV,vJ d (b.le (by omega))]
 have e:=A6 n s
 have f:=xH d
 have i:=(Au d).2
 rw[←e] at f i
 generalize (Am n s).natAbs=a at *
 obtain⟨m,rfl⟩:∃ m,N=m+1:=⟨N - 1,by omega⟩
 show Jd (m+1) K false _ false _ _ _ (m+1)=_
 rw[Jd];unfold Wd
 rw[Av (Aa a) (Ac a),hZ,Ny (Bl _ _ _) (b.le (by show(Ae a).length≤_;omega)),iP,show val (LS.of (Ae a) false true).l=a from Ac a,xI]
 rcases Nat.eq_zero_or_pos a with c | c
 ·subst c
  rw[show decide (0<0)=false by decide,cf,C5 (by omega)];rfl
 ·have hB:B9=1000000000:=rfl
  have t:a%B9<B9:=Nat.mod_lt _ (by decide)
  rw[decide_eq_true c,ct,yO j k (s:=.of (Ae a) false true) (Bl _ _ _) (Ac a) (b.le (by show(Ae a).length+5≤_;omega)),ph,ct,ph,ct,Tm,ct,iV,lC (by omega) (b.le (by omega)),Tm,ct,iV,ph,ct]
  exact vU (R:=R) (G:=[a%B9]) j k c (by omega) (by omega) (b.le (by omega)) m (a/B9) (Nat.div_le_self _ _) (by simp) (by rw[Vi c];rfl) (by
   have:=congrArg List.length (Vi c)
   rw[List.length_cons] at this;omega)
end
end Gx

namespace Gx
open Go Go.Proofs
section
variable {R:Type}
theorem sR {v k:Nat} (h:v<10 ^ k):(En v).length≤k+1:=by
 have:=(tC (u:=v) (k:=k+1) (by omega)).2 (Nat.lt_of_lt_of_le h (Nat.pow_le_pow_right (by omega) (by omega)))
 exact this
theorem xr (k:Nat):4294967296 ^ k≤10 ^ (10*k):=by
 rw[Nat.pow_mul];exact Nat.pow_le_pow_left (by decide) _
theorem Ik (v:Nat):(En v).length≤10*(Ae v).length+1:=sR (Nat.lt_of_lt_of_le (OI (Nat.le_refl _)) (xr _))
def El (c:Nat) (s:List UInt8):List UInt8:=List.replicate (c+1 - s.length) 48++s
def CI (z:Int) (s:List UInt8):List UInt8:=if z<0 then 45::s else s
def zQ (c:Nat) (s:List UInt8):List UInt8:=if c=0 then s else (El c s).take ((El c s).length - c)++[46]++(El c s).drop ((El c s).length - c)
def pt (z:Int) (c:Nat):List UInt8:=CI z (zQ c (En z.natAbs))
theorem XN (c:Nat) (s:List UInt8):c+1≤(El c s).length∧(El c s).length≤c+1+s.length:=by
 unfold El;rw[List.length_append,List.length_replicate];omega
theorem Z4 {a b:Nat} (h:a≤b):Nat.ble a b=true:=by simpa using h
theorem yP {N:Nat} {n:Bool} {s:LS} {u:Bool} {c:Nat} {b:List UInt8} {K:List UInt8→O R} (d:Ad s.l) (f:fit s.l.length N) (j:c≤b.length) (k:b.length≤100000000000):Hb N K (c:Int) u (A8 n s) b=K (CI (Am n s) (b.take (b.length - c)++[46]++b.drop (b.length - c))):=by
 have i:IntKind.wrap .i64 ((((b.length):Nat):Int) - (c:Int))=((b.length - c:Nat):Int):=by rw[i64 (by omega)];omega
 unfold Hb
 rw[i]
 rw[show((decide ((0:Int)≤(0:Int)))&&((decide (0≤((b.length - c:Nat):Int)))&&((decide (((b.length - c:Nat):Int)≤(((b.length):Nat):Int)))&&(decide ((((b.length):Nat):Int)≤(((b.length):Nat):Int))))))=true by simp,ct]
 rw[Int.toNat_natCast,Z4 (by rw[List.length_take];omega),ct]
 rw[show((decide (0≤((b.length - c:Nat):Int)))&&((decide (((b.length - c:Nat):Int)≤(((b.length):Nat):Int)))&&((decide ((((b.length):Nat):Int)≤(((b.length):Nat):Int)))&&(decide ((((b.length):Nat):Int)≤(((b.length):Nat):Int))))))=true by simp,ct]
 rw[List.take_of_length_le (l:=List.drop (b.length - c) b) (by rw[List.length_drop];omega)]
 rw[Z4 (by rw[List.length_append,List.length_take,List.length_drop,List.length_singleton];omega),ct,Pf,ct,NV,Ny d f]
 unfold CI
 by_cases h:Am n s<0
 ·rw[show decide ((Am n s).sign<0)=true by rw[decide_eq_true_eq];exact Int.sign_neg_iff.2 h,ct,if_pos h,Z4 (by rw[List.length_append,List.length_append,List.length_take,List.length_drop,List.length_singleton];omega),ct];rfl
 ·rw[show decide ((Am n s).sign<0)=false by rw[decide_eq_false_iff_not];intro e;exact h (Int.sign_neg_iff.1 e),cf,if_neg h]
theorem Te {N:Nat} {n:Bool} {s:LS} {u:Bool} {c:Nat} {K:List UInt8→O R} (i:Ad s.l) (t:c≤1000000000) (d:fit (2*s.l.length+40) N):Dy N (A8 n s) u (c:Int) K=K (pt (Am n s) c):=by
 have hN:=d.1;have hN2:=d.2
 have v:(En (Am n s).natAbs).length≤10*s.l.length+1:=by
  have k:=Ik (Am n s).natAbs
  have m:=(Au i).2
  rw[←A6 n s] at m;omega
 have x:=List.length_pos_iff.2 (Rq (Am n s).natAbs)
 rw[X0];unfold Od
 rw[Pf,ct,NV,qK i d]
 unfold pt zQ
 generalize En (Am n s).natAbs=f at *
 have q:=XN c f
 by_cases j:c=0
 ·subst j
  rw[show decide (((0:Nat):Int)>0)=false by decide,cf,ct,Ny i (d.le (by omega)),if_pos rfl]
  unfold CI
  by_cases h:Am n s<0
  ·rw[show decide ((Am n s).sign<0)=true by rw[decide_eq_true_eq];exact Int.sign_neg_iff.2 h,ct,if_pos h,Z4 (by omega),ct];rfl
  ·rw[show decide ((Am n s).sign<0)=false by rw[decide_eq_false_iff_not];intro e;exact h (Int.sign_neg_iff.1 e),cf,if_neg h]
 ·rw[show decide (((c:Nat):Int)>0)=true by simp;omega,ct,if_neg j]
  by_cases k:f.length≤c
  ·rw[show decide ((((f.length):Nat):Int)≤(c:Int))=true by simp;omega,ct]
   rw[show IntKind.wrap .i64 ((IntKind.wrap .i64 (((c:Nat):Int)+1)) - (((f.length):Nat):Int))=((c+1 - f.length:Nat):Int) by rw[wS (by omega),i64 (by omega)];omega]
   rw[cz (by omega),Z4 (by rw[List.length_replicate];omega),ct]
   exact yP (b:=El c f) i (d.le (by omega)) (by omega) (by omega)
  ·rw[show decide ((((f.length):Nat):Int)≤(c:Int))=false by simp;omega,cf]
   have e:El c f=f:=by unfold El;rw[show c+1 - f.length=0 by omega];rfl
   rw[e]
   exact yP (b:=f) i (d.le (by omega)) (by omega) (by omega)
def Fo (z:Int):List UInt8:=CI z (En z.natAbs)
theorem dA (z:Int):pt z 0=Fo z:=rfl
theorem Yi (z:Int):(Fo z).length≤10*(Ae z.natAbs).length+2:=by
 have:=Ik z.natAbs
 unfold Fo CI;split<;>simp<;>omega
theorem Il {N:Nat} {n:Bool} {s:LS} {u:Bool} {K:List UInt8→O R} (b:Ad s.l) (d:fit (2*s.l.length+40) N):Bo N (A8 n s) u K=K (Fo (Am n s)):=by
 rw[X2];unfold We
 rw[Pf,ct,NV]
 exact Te (c:=0) b (by omega) d
def Lg (q:Rat):List UInt8:=if q.den=1 then Fo q.num else Fo q.num++[47]++En q.den
theorem xt {N v:Nat} {a b u:Bool} {K:List UInt8→O R} (c:fit (2*(Ae v).length+40) N):Bo N (A8 false (.of (Ae v) a b)) u K=K (En v):=by
 have:=Il (R:=R) (n:=false) (s:=.of (Ae v) a b) (u:=u) (K:=K) (Bl v a b) (by show fit (2*(Ae v).length+40) N;exact c)
 rw[this,iP,show val (LS.of (Ae v) a b).l=v from Ac v]
 unfold Fo CI
 rw[if_neg (by omega),Int.natAbs_natCast]
theorem tQ {d:RatD} {q:Rat} (h:d.can q):Am d.neg d.ns=q.num:=by
 unfold Am
 rw[h.1,h.2.1,Ac]
 by_cases b:q.num<0
 ·rw[decide_eq_true b,if_pos rfl];omega
 ·rw[decide_eq_false b,if_neg (by simp)];omega
theorem Tf {N:Nat} {x:RatD} {o:Bool} {K:List UInt8→O R} (i:x.ok) (c:fit (4*x.m+60) N):Dd N x.av o K=K (Lg x.q):=by
 have A:=c.1;have B:=c.2
 obtain⟨d,b,k⟩:=OH (R:=R) (N:=N) (o:=o) i (c.le (by omega))
 obtain⟨S,a1,a2,a3⟩:=Fl (R:=R) (N:=N) (v:=1) (by omega) (by omega)
 have n:=So x i
 rw[←b.m] at n
 have s:d.ns.l.length≤d.m:=Nat.le_max_left _ _
 have t:d.ds.l.length≤d.m:=Nat.le_max_right _ _
 have e:=Yi x.q.num
 have f:=Ik x.q.den
 rw[←b.2.1] at e
 rw[←b.2.2] at f
 rw[X4];unfold Wf
 rw[Kr,ct,Eh,k,show((Nat.beq (List.length d.av) 3)&&(true&&(!false)))=true by rfl,ct,show setCells x.av 0 d.av=d.av by rfl,XG,a3,Av a1 a2]
 have u:([.bool false,.imm (Ab d.ds.l) d.ds.l.length 1 false (o||false)]:LA)=A8 false (.of (Ae x.q.den) false (o||false)):=by rw[b.2.2];rfl
 rw[u,hZ,V4 (Bl _ _ _) (Bl _ _ _) (c.le (by
  have:(Ae (1:Int).natAbs).length≤1:=Bj (by decide)
  show(Ae x.q.den).length+(Ae (1:Int).natAbs).length≤_
  rw[←b.2.2];omega)),iP,show val (LS.of (Ae x.q.den) false (o||false)).l=x.q.den from Ac _]
 rw[show Am (decide ((1:Int)<0)) (LS.of (Ae (1:Int).natAbs) false true)=1 from B3]
 have y:Nat.ble 2 (List.length d.av)=true:=rfl
 have z:List.take 2 d.av=A8 d.neg d.ns:=rfl
 have j:∀ K:List UInt8→O R,Bo N (A8 d.neg d.ns) (o||false) K=K (Fo x.q.num):=fun K=>by
  rw[Il b.ok.1 (c.le (by omega)),tQ b]
 rw[y,ct,z,j]
 unfold Lg
 by_cases h:x.q.den=1
 ·rw[if_pos h,h,show((Xu ((1:Nat):Int) 1)==0)=true by decide,ct]
 ·have:Xu (x.q.den:Int) 1≠0:=by
   have:=x.q.den_pos
   unfold Xu;rw[if_neg (by omega),if_pos (by omega)];decide
  rw[if_neg h,show((Xu ((x.q.den:Nat):Int) 1)==0)=false by simpa using this,cf,ct,j,Z4 (by omega),ct,xt (c.le (by rw[←b.2.2];omega)),Z4 (by rw[List.length_append,List.length_singleton];omega),ct]
theorem iR {v:Nat} (b:v<10):(List.take ((IntKind.wrap .u64 ((v:Int)+1)).toNat - (v:Int).toNat) (List.drop (v:Int).toNat ([48,49,50,51,52,53,54,55,56,57]:List UInt8)))=[UInt8.ofNat (48+v)]:=by
 rw[show(v:Int)+1=((v+1:Nat):Int) by omega,Ex (by omega),Int.toNat_natCast,Int.toNat_natCast]
 rcases v with _ | _ | _ | _ | _ | _ | _ | _ | _ | _ | v<;>first | rfl | omega
theorem qL {v:Nat} (b:v<10):((decide (0≤(v:Int)))&&((decide ((v:Int)≤(IntKind.wrap .u64 ((v:Int)+1))))&&((decide ((IntKind.wrap .u64 ((v:Int)+1))≤10))&&(decide ((10:Int)≤(10:Int))))))=true:=by
 rw[show(v:Int)+1=((v+1:Nat):Int) by omega,Ex (by omega)]
 simp;omega
theorem zR {N v:Nat} {t o:Bool} {K:Nat→Nat→Bool→LA→LA→O R} (c:fit ((Ae v).length+6) N):Fj N (Ab (Ae v)) (Ae v).length t o [(.int .u32 10)] 1 false true K=K (Ae (v/10)).length (Ae (v%10)).length true (Ab (Ae (v/10))) (Ab (Ae (v%10))):=by
 have:=Ma (R:=R) (N:=N) (a:=Ae v) (b:=[10]) (t:=t) (o:=o) (t':=false) (o':=true) (K:=K) rfl rfl (Aa _) (by intro x d;simp at d;omega) (by decide) (c.le (by simp))
 rw[Ac] at this
 exact this
theorem xJ {N v:Nat} {K:Int→Bool→O R} (c:v<10) (b:fit 1 N):Ef N (List.take ((Ae v).length*1) (Ab (Ae v))) (Ae v).length false true K=K (v:Int) true:=by
 have:(Ae v).length≤1:=Bj (by omega)
 rw[sD,L9 rfl (Aa _) (b.le (by omega)),Ac,if_pos (by omega)]
theorem nI {N:Nat} {l:LA} {c:Nat} {e d:Bool} {K:List UInt8→O R}:∀ (b v:Nat) (f:List UInt8),0<v→(En v).length≤b→(En v).length+f.length≤100000000000→fit ((Ae v).length+6) N→J5 N K l c e d b (Ae v).length f (Ab (Ae v))=K (En v++f):=by
 intro b
 induction b with
 | zero=>intro v f _ h;exact absurd (List.length_eq_zero_iff.1 (by omega)) (Rq v)
 | succ b m =>
  intro v f t n q i
  have j:v%10<10:=Nat.mod_lt _ (by omega)
  have k:(([UInt8.ofNat (48+v%10)]:List UInt8).length)=1:=rfl
  rw[J5];unfold Tb
  rw[sD,zR i,xJ j (i.le (by omega)),qL j,ct,iR j,Z4 (by rw[k];omega),ct]
  by_cases h:v<10
  ·rw[Nat.div_eq_of_lt h,Bt,show(((([]:List Nat).length:Nat):Int)==0)=true by rfl,ct,C5 h,Nat.mod_eq_of_lt h]
  ·have s:0<v/10:=Nat.div_pos (by omega) (by omega)
   rw[cx (fun e=>by have:=A0.1 e;omega),cf]
   rw[N5 (by omega),List.length_append,List.length_singleton] at n q
   rw[m (v/10) _ s (by omega) (by rw[List.length_append,k];omega) (i.le (by have:=An (Nat.div_le_self v 10);omega)),N5 (u:=v) (by omega),List.append_assoc]
theorem Mo {N v:Nat} {e d:Bool} {K:List UInt8→O R} (b:fit ((Ae v).length+6) N):Ij N (Ab (Ae v)) (Ae v).length e d K=K (En v):=by
 have l:=b.1;have m:=b.2
 have q:=Ik v
 rw[GF];unfold Ve
 obtain⟨n,rfl⟩:∃ n,N=n+1:=⟨N - 1,by omega⟩
 have c:v%10<10:=Nat.mod_lt _ (by omega)
 have f:(([UInt8.ofNat (48+v%10)]:List UInt8).length)=1:=rfl
 rw[J6];unfold Tc
 rw[zR b,xJ c (b.le (by omega)),qL c,ct,iR c,Z4 (by rw[f];omega),ct]
 by_cases h:v<10
 ·rw[Nat.div_eq_of_lt h,Bt,show(((([]:List Nat).length:Nat):Int)==0)=true by rfl,ct,C5 h,Nat.mod_eq_of_lt h];rfl
 ·have i:0<v/10:=Nat.div_pos (by omega) (by omega)
  have j:=Ik (v/10)
  have k:=An (Nat.div_le_self v 10)
  rw[cx (fun e=>by have:=A0.1 e;omega),cf,List.append_nil]
  exact(nI (R:=R) n (v/10) _ i (by omega) (by rw[f];omega) (b.le (by omega))).trans (by rw[N5 (u:=v) (by omega)])
theorem xK {N:Nat} {z:Int} {u:Bool} {K:List UInt8→O R} (b:fit ((Ae z.natAbs).length+6) N):Cq N (As z) u K=K (Fo z):=by
 have c:=b.2
 have d:=Ik z.natAbs
 rw[Mn];unfold Mm
 rw[Tm,ct,iV,b6,Ks (Bl _ _ _) (b.le (by show(Ae z.natAbs).length≤_;omega)),B3,←b6,sL,ct,ws,ww]
 unfold Fo CI
 by_cases h:z<0
 ·rw[decide_eq_true h,ct,v7,Mo b,Z4 (by omega),ct,if_pos h];rfl
 ·rw[decide_eq_false h,cf,v7,Mo b,if_neg h]
theorem ci {N:Nat} {n:Bool} {s:LS} {u:Bool} {K:List UInt8→O R} (c:Ad s.l) (b:fit (s.l.length+6) N):Cq N (A8 n s) u K=K (Fo (Am n s)):=by
 have e:=b.2
 have d:=(Au c).2
 rw[←A6 n s] at d
 have f:=Ik (Am n s).natAbs
 rw[Mn];unfold Mm
 rw[Pf,ct,NV,Ks c (b.le (by omega)),sL,ct,show setCells (A8 n s) 0 (As (Am n s))=As (Am n s) by rfl,ww]
 generalize Am n s=z at *
 unfold Fo CI
 by_cases h:z<0
 ·rw[decide_eq_true h,ct,v7,Mo (b.le (by omega)),Z4 (by omega),ct,if_pos h];rfl
 ·rw[decide_eq_false h,cf,v7,Mo (b.le (by omega)),if_neg h]
theorem cj {N:Nat} {x:RatD} {o:Bool} {K:List UInt8→O R} (d:x.ok) (c:fit (8*x.m+20) N):Hl N x.av o K=K (Lg x.q):=by
 have l:=c.1;have n:=c.2
 have s:=So x d
 have u:=FG x.q
 have v:=XJ x.q
 have i:=Yi x.q.num
 have j:=Ik x.q.den
 rw[Vg];unfold Td
 rw[Kr,ct,Eh,E5 d (c.le (by omega)),show((Nat.beq (List.length (cq x.q)) 3)&&(true&&(!false)))=true by rfl,ct,show setCells x.av 0 (cq x.q)=cq x.q by rfl,zB]
 have k:=fun K=>SF (R:=R) (N:=N) (a:=Ae x.q.den) (b:=[1]) (t:=false) (o:=(o||false)) (t':=false) (o':=true) (K:=K) rfl rfl (c.le (by omega))
 have f:∀ K:List UInt8→O R,Cq N (As x.q.num) (o||false) K=K (Fo x.q.num):=fun K=>xK (c.le (by omega))
 refine Eq.trans (k _) ?_
 rw[LE,ct,ct,V5,f,f,zB]
 unfold Lg
 by_cases h:x.q.den=1
 ·rw[if_pos h,h,decide_eq_true Oc,ct]
 ·have:Ae x.q.den≠[1]:=by
   intro e
   have:=congrArg val e
   rw[Ac] at this
   exact h (by simpa[val] using this)
  rw[if_neg h,decide_eq_false this,cf,Z4 (by omega),ct,Mo (c.le (by omega)),Z4 (by rw[List.length_append,List.length_singleton];omega),ct]
end
end Gx

namespace Gx
open Go Go.Proofs
open IntKind (wrap)
set_option maxRecDepth 100000
noncomputable section
variable {R:Type} (N:Nat)
def Qq (b:List UInt8) (r0:LA→Int→O R):O R :=
 (Ih N b (fun d=>(cond (!d) (r0 [(.bool false),.nsl] 2) (Kt N b (fun e=>(cond e (r0 [(.bool false),.nsl] 8) (K6 N b (fun c=>(cond ((Nat.beq 0 0)&&((Nat.beq (c.length) 2)&&(Nat.beq 2 2))) (cond (Nat.ble 2 (c.length)) (r0 (c.take 2) 0) none) none)))))))))
def D3:=(Aj (@Qq R)).1
theorem Pl:@D3 R=@Qq R:=(Aj _).2
def jX:D7:=[(78,FS N),(79,LN N),(80,UA N)]
def GJ (F:KF R):LA→Int→O R:=(fun f g=>F (.tup [(.pagg f false),(iv g)]) [])
theorem GK (b:List UInt8) (F:KF R):Cy (jX N) wM N 23 [(.str b)] [] F=(D3 N b (GJ F)):=by
 rw[Pl]
 kernel_rfl
def CF (a:LA) (h:Ah) (k:KF R):O R :=
 match a,h with
 | [(.str b)],[]=>(D3 N b (GJ k))
 | _,_=>none
theorem GL:Ap N 23 @CF:=by
 intro R Q a h k j;unfold CF;split;exact Ax (GK ..) (GK ..) ⟨FT N,LO N,UB N,trivial⟩;exact A2
def Tg:=Ay (GL N)
def Th:=Cz (GL N)
def F2 (m:Bool) (n:LA) (o:Nat) (p d e:Bool) (f:LA) (g:Nat) (q b:Bool) (i:LA) (l:Nat) (r c:Bool) (r0:Bool→O R):O R :=
 (Bo N [(.bool m),(.imm n o 1 false d)] (d||false) (fun v=>(Dd N [(.bool e),(.imm f g 1 false b),(.imm i l 1 false c)] (b||(c||false)) (fun t=>(D3 N v (fun u x=>(cond ((Nat.beq 0 0)&&((Nat.beq (u.length) 2)&&(Nat.beq 2 2))) (Di N t (fun s w=>(cond ((Nat.beq 0 0)&&((Nat.beq (s.length) 3)&&(Nat.beq 3 3))) (Cj N (fun y=>(cond (y==true) (cond ((decide ((((v.length):Nat):Int)>4096))==false) (cond ((x==0)==true) (cond (Nat.ble 2 (u.length)) (Fz N [(.bool m),(.imm n o 1 false d)] (d||false) (fun z=>(Hj N (u.take 2) false z false (fun aa=>(cond ((cond true (cond false true (cond true aa false)) false)==true) (cond ((decide ((((t.length):Nat):Int)>4096))==false) (cond ((w==0)==true) (cond (Nat.ble 3 (s.length)) (Cs N [(.bool e),(.imm f g 1 false b),(.imm i l 1 false c)] (b||(c||false)) (fun ab=>(Dn N (s.take 3) false ab false (fun ac=>(r0 (cond true (cond false true (cond true ac false)) false)))))) none) (r0 false)) (r0 true)) (r0 false)))))) none) (r0 false)) (cond ((decide ((((t.length):Nat):Int)>4096))==false) (cond ((w==0)==true) (cond (Nat.ble 3 (s.length)) (Cs N [(.bool e),(.imm f g 1 false b),(.imm i l 1 false c)] (b||(c||false)) (fun ad=>(Dn N (s.take 3) false ad false (fun ae=>(r0 (cond true (cond false true (cond true ae false)) false)))))) none) (r0 false)) (r0 true))) (r0 false)))) none))) none)))))))
def Dz:=(Aj (@F2 R)).1
theorem Im:@Dz R=@F2 R:=(Aj _).2
def Wg:D7:=[(15,Kh N),(17,Pj N),(23,Tg N),(24,Sp N),(14,Mk N),(26,Ol N),(25,SW N),(28,Ga N),(27,Zs N)]
def Jf (F:KF R):Bool→O R:=(fun af=>F (.bool af) [])
theorem Jg (m:Bool) (n:LA) (o:Nat) (p d e:Bool) (f:LA) (g:Nat) (q b:Bool) (i:LA) (l:Nat) (r c:Bool) (F:KF R):Cy (Wg N) Cl N 5 [(.agg [(.bool m),(.imm n o 1 p d)]),(.agg [(.bool e),(.imm f g 1 q b),(.imm i l 1 r c)])] [] F=(Dz N m n o p d e f g q b i l r c (Jf F)):=by
 rw[Im]
 kernel_rfl
def In (a:LA) (h:Ah) (k:KF R):O R :=
 match a,h with
 | [(.agg [(.bool m),(.imm n o 1 p d)]),(.agg [(.bool e),(.imm f g 1 q b),(.imm i l 1 r c)])],[]=>(Dz N m n o p d e f g q b i l r c (Jf k))
 | _,_=>none
theorem Jh:Ap N 5 @In:=by
 intro R Q a h k j;unfold In;split;exact Ax (Jg ..) (Jg ..) ⟨Ki N,Pk N,Th N,Ss N,Ml N,Om N,SX N,Gb N,Zt N,trivial⟩;exact A2
def To:=Ay (Jh N)
def Tp:=Cz (Jh N)
def Ji (d:Bool) (e:LA) (f:Nat) (l b:Bool) (g:LA) (i:Nat) (m c:Bool) (r0:Bool→O R):O R :=
 (G0 N [(.bool d),(.imm e f 1 false b),(.imm g i 1 false c)] (b||(c||false)) (fun n p=>(cond (!p) (cond ((n==([]:List UInt8))==true) (Cj N (fun q=>(r0 (cond true q false)))) (r0 false)) (cond (decide ((((n.length):Nat):Int)>4096)) (Cj N (fun r=>(r0 r))) (Di N n (fun o s=>(cond ((Nat.beq 0 0)&&((Nat.beq (o.length) 3)&&(Nat.beq 3 3))) (D3 N n (fun t u=>(cond ((Nat.beq 0 0)&&((Nat.beq (t.length) 2)&&(Nat.beq 2 2))) (Q7 N [(.bool d),(.imm e f 1 false b),(.imm g i 1 false c)] (b||(c||false)) (fun v=>(Q6 N v false (fun w=>(K4 N [(.bool d),(.imm e f 1 false b),(.imm g i 1 false c)] (b||(c||false)) w false (fun x=>(Cj N (fun y=>(cond (y==true) (cond ((cond true (s==0) false)==true) (cond (Nat.ble 3 (o.length)) (Cs N [(.bool d),(.imm e f 1 false b),(.imm g i 1 false c)] (b||(c||false)) (fun z=>(Dn N (o.take 3) false z false (fun aa=>(cond ((cond true aa false)==true) (r0 (cond true ((u==0)==(x==0)) false)) (r0 false)))))) none) (r0 false)) (r0 false)))))))))) none))) none)))))))
def G1:=(Aj (@Ji R)).1
theorem Mp:@G1 R=@Ji R:=(Aj _).2
def GM:D7:=[(19,LY N),(14,Mk N),(24,Sp N),(23,Tg N),(31,mi N),(30,mg N),(29,gy N),(28,Ga N),(27,Zs N)]
def My (F:KF R):Bool→O R:=(fun ab=>F (.bool ab) [])
theorem Mz (d:Bool) (e:LA) (f:Nat) (l b:Bool) (g:LA) (i:Nat) (m c:Bool) (F:KF R):Cy (GM N) Cl N 6 [(.agg [(.bool d),(.imm e f 1 l b),(.imm g i 1 m c)])] [] F=(G1 N d e f l b g i m c (My F)):=by
 rw[Mp]
 kernel_rfl
def Mq (a:LA) (h:Ah) (k:KF R):O R :=
 match a,h with
 | [(.agg [(.bool d),(.imm e f 1 l b),(.imm g i 1 m c)])],[]=>(G1 N d e f l b g i m c (My k))
 | _,_=>none
theorem M0:Ap N 6 @Mq:=by
 intro R Q a h k j;unfold Mq;split;exact Ax (Mz ..) (Mz ..) ⟨LZ N,Ml N,Ss N,Th N,mj N,mh N,gz N,Gb N,Zt N,trivial⟩;exact A2
def CJ:=Ay (M0 N)
def CK:=Cz (M0 N)
def Io (b:Int) (r0:Bool→O R):O R :=
 (D2 N b (fun d=>(Bo N d false (fun e=>(D3 N e (fun c f=>(cond ((Nat.beq 0 0)&&((Nat.beq (c.length) 2)&&(Nat.beq 2 2))) (cond (Nat.ble 2 (c.length)) (Q8 N (c.take 2) false (fun g i=>(Cj N (fun l=>(cond (l==true) (cond ((cond true (f==0) false)==true) (cond ((cond true i false)==true) (r0 (cond true (g==b) false)) (r0 false)) (r0 false)) (r0 false)))))) none) none)))))))
def Fr:=(Aj (@Io R)).1
theorem La:@Fr R=@Io R:=(Aj _).2
def CL:D7:=[(32,L0 N),(15,Kh N),(23,Tg N),(33,mo N),(14,Mk N)]
def Mr (F:KF R):Bool→O R:=(fun m=>F (.bool m) [])
theorem Ms (b:Int) (F:KF R):Cy (CL N) Cl N 7 [(iv b)] [] F=(Fr N b (Mr F)):=by
 rw[La]
 kernel_rfl
def Lb (a:LA) (h:Ah) (k:KF R):O R :=
 match a,h with
 | [(.int .i64 b)],[]=>(Fr N b (Mr k))
 | _,_=>none
theorem Mt:Ap N 7 @Lb:=by
 intro R Q a h k j;unfold Lb;split;exact Ax (Ms ..) (Ms ..) ⟨L5 N,Ki N,Th N,mq N,Ml N,trivial⟩;exact A2
def Z5:=Ay (Mt N)
def Z6:=Cz (Mt N)
end
end Gx

namespace Gx
open Go Go.Proofs
section
variable {R:Type}
theorem qM:∀ (s:List UInt8) (b k:Nat),b<10 ^ k→s.length+k≤18→s.all Be=true→Lib.parseUint10 b s=.ok (b*10 ^ s.length+B7 s)
 | [],b,_,_,_,_=>by simp[Lib.parseUint10,B7]
 | c::r,b,k,m,l,e=>by
  simp only[List.all_cons,Bool.and_eq_true] at e
  have j:=e.1
  simp[Be] at j
  simp only[List.length_cons] at l
  have d:10 ^ (k+1)≤10 ^ 18:=Nat.pow_le_pow_right (by omega) (by omega)
  rw[Nat.pow_succ] at d
  have f:b*10+(c.toNat - 48)<10 ^ k*10:=by omega
  have i:(10:Nat) ^ 18=1000000000000000000:=by decide
  rw[i] at d
  rw[Lib.parseUint10,if_pos j,if_neg (by omega),if_neg (by omega),qM r (b*10+(c.toNat - 48)) (k+1) (by rw[Nat.pow_succ];exact f) (by omega) e.2,Qv,List.length_cons,Nat.pow_succ,Nat.add_mul]
  congr 1
  rw[show b*10*10 ^ r.length=b*(10 ^ r.length*10) by rw[Nat.mul_assoc,Nat.mul_comm 10]]
  omega
theorem vV {N:Nat} {s:List UInt8} {K:Int→O R} (b:s.all Be=true) (d:s≠[]) (e:s.length≤18):P6 N s K=K (B7 s:Int):=by
 have f:=PR b
 have i:10 ^ s.length≤10 ^ 18:=Nat.pow_le_pow_right (by omega) e
 have j:(10:Nat) ^ 18=1000000000000000000:=by decide
 have key:Lib.atoiAll s=.ok (B7 s:Int):=by
  cases s with
  | nil=>exact absurd rfl d
  | cons c r =>
   have k:Be c=true:=by simp only[List.all_cons,Bool.and_eq_true] at b;exact b.1
   simp[Be] at k
   rw[Lib.atoiAll_plain c r (by omega) (by omega),Lib.parseMag,if_neg d,qM (c::r) 0 0 (by decide) (by omega) b,Nat.zero_mul,Nat.zero_add,Lib.signless,if_neg (by omega)]
 rw[Iz];unfold Jr
 rw[Z4 (by omega),ct,key]
theorem xu (k:Nat):10 ^ k<4294967296 ^ (k+1):=iQ k
theorem tR {v k:Nat} (h:v<10 ^ k):(Ae v).length≤k+1:=Bj (Nat.lt_trans h (xu k))
theorem cC {N:Nat} {c:Bool} {q:Nat} {S9:List Nat} {K:LA→O R} (X:Ad S9) (Y:val S9=10 ^ q) (hq:q=9):∀ (b j v:Nat) (g:List UInt8) (S:List Nat),g.length<b→g.all Be=true→v<10 ^ j→(v=0∨g.length%9=0)→fit (j+g.length+20) N→Ad S→val S=v →
  E7 N K c false (Ae (10 ^ q)).length (Ab S9) b g false (Ae v).length (Ab S)=K (As (if c then -((v*10 ^ g.length+B7 g:Nat):Int) else ((v*10 ^ g.length+B7 g:Nat):Int))):=by
 intro b
 induction b with
 | zero=>intro j v g S h;omega
 | succ b ih =>
  intro j v g S hl y A k i hS hSv
  have f1:=i.1;have f2:=i.2
  have B:(Ae (10 ^ q)).length≤1:=by rw[hq];exact zO
  have hdv:=tR A
  rw[E7];unfold V6
  cases m:g with
  | nil =>
   rw[show(!(([]:List UInt8)==[]))=false by rfl,cf]
   rw[show v*10 ^ ([]:List UInt8).length+B7 []=v by simp[B7]]
   cases c
   ·rw[cf,Av hS hSv,if_neg (by simp)]
    congr 1
   ·rw[ct,Av hS hSv,hZ,vK (Bl _ _ _) (i.le (by show(Ae v).length≤_;omega)),iP,show val (LS.of (Ae v) false true).l=v from Ac v,Int.natAbs_natCast,sD,if_pos rfl]
    congr 1
    unfold As
    rw[Int.natAbs_neg,Int.natAbs_natCast];rfl
  | cons d r =>
   rw[←m]
   have n:g≠[]:=by rw[m];simp
   have G:=List.length_pos_iff.2 n
   rw[show(!(g==[]))=true by simp[n],ct]
   have step:∀ o:Nat,1≤o→o≤9→o≤g.length→(g.length - o)%9=0→(v=0∨o=q)→Mf N (E7 N K c false (Ae (10 ^ q)).length (Ab S9) b) K c false (Ae (10 ^ q)).length (Ab S9) g (o:Int) false (Ae v).length (Ab S)=K (As (if c then -((v*10 ^ g.length+B7 g:Nat):Int) else ((v*10 ^ g.length+B7 g:Nat):Int))):=by
    intro o o1 o9 ol om oz
    have I:(g.take o).all Be=true:=by
     rw[List.all_eq_true] at y ⊢;exact fun x C=>y x (List.mem_of_mem_take C)
    have f:(g.take o).length=o:=by rw[List.length_take];omega
    have s:(g.drop o).length=g.length - o:=List.length_drop ..
    have t:=PR I
    rw[f] at t
    have z:10 ^ o≤10 ^ q:=Nat.pow_le_pow_right (by omega) (by omega)
    have e9:10 ^ q=1000000000:=by rw[hq]
    obtain⟨S1,a1,a2,a3⟩:=tO (R:=R) (N:=N) (s1:=.of (Ae v) false true) (s2:=.of (Ae (10 ^ q)) false true) (o1:=true) (o2:=true) (Bl _ _ _) (Bl _ _ _) (i.le (by have:=B;show(Ae v).length+(Ae (10 ^ q)).length≤_;omega))
    rw[show val (LS.of (Ae v) false true).l=v from Ac v,show val (LS.of (Ae (10 ^ q)) false true).l=10 ^ q from Ac _] at a2 a3
    obtain⟨S2,b1,L,M⟩:=Fl (R:=R) (N:=N) (v:=(B7 (g.take o):Int)) (by omega) (by omega)
    rw[Int.natAbs_natCast] at L M
    have hm:v*10 ^ q<10 ^ (j+q):=by rw[Nat.pow_add];exact Nat.mul_lt_mul_of_pos_right A (Nat.pow_pos (by omega))
    have hdm:=tR hm
    have hdx:(Ae (B7 (g.take o))).length≤1:=Bj (by omega)
    obtain⟨S3,c1,T,U⟩:=XF (R:=R) (N:=N) (n1:=false) (n2:=false) (s1:=.of (Ae (v*10 ^ q)) false true) (s2:=.of (Ae (B7 (g.take o))) false true) (o1:=true) (o2:=true) (Bl _ _ _) (Bl _ _ _) (i.le (by show(Ae (v*10 ^ q)).length+(Ae (B7 (g.take o))).length+1≤_;omega))
    rw[iP,iP,show val (LS.of (Ae (v*10 ^ q)) false true).l=v*10 ^ q from Ac _,show val (LS.of (Ae (B7 (g.take o))) false true).l=B7 (g.take o) from Ac _,Vr,Int.natAbs_natCast] at T U
    unfold Mf
    rw[show((decide ((0:Int)≤(0:Int)))&&((decide (0≤(o:Int)))&&((decide ((o:Int)≤(((g.length):Nat):Int)))&&(decide ((((g.length):Nat):Int)≤(((g.length):Nat):Int))))))=true by simp;omega,ct,Int.toNat_natCast]
    rw[vV I (by intro e;rw[e] at f;simp at f;omega) (by omega)]
    rw[Av hS hSv,Av X Y,hZ,hZ,a3,M,Av a1 a2,Av b1 L,hZ,show decide (((B7 (g.take o):Nat):Int)<0)=false by simp,hZ,U]
    rw[show decide (((v*10 ^ q+B7 (g.take o):Nat):Int)<0)=false by rw[decide_eq_false_iff_not];omega]
    rw[show((decide (0≤(o:Int)))&&((decide ((o:Int)≤(((g.length):Nat):Int)))&&((decide ((((g.length):Nat):Int)≤(((g.length):Nat):Int)))&&(decide ((((g.length):Nat):Int)≤(((g.length):Nat):Int))))))=true by simp;omega,ct]
    rw[List.take_of_length_le (l:=g.drop o) (by omega)]
    have D:v*10 ^ q+B7 (g.take o)<10 ^ (j+q):=by
     rcases oz with oz | oz
     ·subst oz;rw[Nat.zero_mul,Nat.zero_add]
      have:10 ^ q≤10 ^ (j+q):=Nat.pow_le_pow_right (by omega) (by omega)
      omega
     ·have:(v+1)*10 ^ q≤10 ^ j*10 ^ q:=Nat.mul_le_mul_right _ A
      rw[Nat.add_mul,Nat.one_mul] at this
      rw[Nat.pow_add];omega
    have F:v*10 ^ q+B7 (g.take o)<10 ^ (j+o):=by
     rcases oz with oz | oz
     ·subst oz;rw[Nat.zero_mul,Nat.zero_add]
      have:10 ^ o≤10 ^ (j+o):=Nat.pow_le_pow_right (by omega) (by omega)
      omega
     ·rw[show j+o=j+q by rw[oz]];exact D
    rw[ih (j+o) (v*10 ^ q+B7 (g.take o)) (g.drop o) S3 (by omega) (by rw[List.all_eq_true] at y ⊢;exact fun x C=>y x (List.mem_of_mem_drop C)) F (.inr (by rw[s];exact om)) (i.le (by omega)) c1 T]
    have e:(v*10 ^ q+B7 (g.take o))*10 ^ (g.drop o).length+B7 (g.drop o)=v*10 ^ g.length+B7 g:=by
     have V:=Oi (g.take o) (g.drop o)
     rw[List.take_append_drop] at V
     rw[V,Nat.add_mul,Nat.add_assoc]
     congr 1
     rcases oz with oz | oz
     ·subst oz;simp
     ·rw[Nat.mul_assoc,←Nat.pow_add,s];congr 2;omega
    rw[e]
   have u:Int.tmod ((g.length:Nat):Int) 9=((g.length%9:Nat):Int):=rfl
   rw[u]
   by_cases z:g.length%9=0
   ·rw[z,show((((0:Nat):Int))==0)=true by rfl,ct]
    exact step 9 (by omega) (by omega) (by omega) (by omega) (.inr hq.symm)
   ·rw[cx z,cf]
    exact step (g.length%9) (by omega) (by omega) (Nat.mod_le _ _) (by omega) (.inl (by rcases k with k | k;exact k;exact absurd k z))
def Jj (s:List UInt8):Int:=match s with
 | 45::r=>-((B7 r:Nat):Int)
 | s=>((B7 s:Nat):Int)
def Jk (s:List UInt8):Bool:=match s with
 | 45::r=>r.all Be
 | s=>s.all Be
theorem GN {N:Nat} {s:List UInt8} {K:LA→O R} (d:Jk s=true) (b:fit (s.length+30) N):K6 N s K=K (As (Jj s)):=by
 have j:=b.1;have m:=b.2
 obtain⟨S0,a1,a2,a3⟩:=Fl (R:=R) (N:=N) (v:=0) (by omega) (by omega)
 obtain⟨S,e,f,i⟩:=HX (R:=R) (N:=N) (n:=9) (b.le (by omega))
 rw[LP];unfold Zz
 by_cases h:s.head?=some 45
 ·obtain⟨r,rfl⟩:∃ r,s=45::r:=by
   cases s with
   | nil=>simp at h
   | cons c r=>simp at h;exact⟨r,by rw[h]⟩
  rw[V8,a3]
  refine Eq.trans (i _) ?_
  have:=cC (R:=R) (N:=N) (c:=true) (K:=K) e f rfl N 0 0 r S0 (by rw[List.length_cons] at j;omega) d (by decide) (.inl rfl) (b.le (by rw[List.length_cons];omega)) a1 a2
  rw[Nat.zero_mul,Nat.zero_add] at this
  exact this
 ·have k:Jj s=((B7 s:Nat):Int):=by
   unfold Jj
   split
   ·simp at h
   ·rfl
  have l:s.all Be=true:=by
   rw[←d];unfold Jk
   split
   ·simp at h
   ·rfl
  rw[S8 h,a3]
  refine Eq.trans (i _) ?_
  have:=cC (R:=R) (N:=N) (c:=false) (K:=K) e f rfl N 0 0 s S0 (by omega) l (by decide) (.inl rfl) (b.le (by omega)) a1 a2
  rw[Nat.zero_mul,Nat.zero_add] at this
  rw[k]
  exact this
theorem Yj {s:List UInt8} (h:Do s=true):s.all Be=true:=by
 simp only[Do,MW,Bool.and_eq_true] at h;exact h.1.1
theorem Kj {s:List UInt8} (h:IA s=true):Jk s=true:=by
 by_cases b:s.head?=some 45
 ·obtain⟨r,rfl⟩:∃ r,s=45::r:=by
   cases s with
   | nil=>simp at b
   | cons c r=>simp at b;exact⟨r,by rw[b]⟩
  have h:(Do r&&!(r==[48]))=true:=h
  simp only[Bool.and_eq_true] at h;exact Yj h.1
 ·have d:IA s=Do s:=by
   unfold IA;split
   ·simp at b
   ·rfl
  have e:Jk s=s.all Be:=by
   unfold Jk;split
   ·simp at b
   ·rfl
  rw[e];rw[d] at h;exact Yj h
theorem HY {s:List UInt8} (h:s.all Be=true):∀ c ∈ s,c.toNat<128:=by
 intro c b
 have:=List.all_eq_true.1 h c b
 simp[Be] at this;omega
theorem UP {s:List UInt8} (h:Jk s=true):∀ c ∈ s,c.toNat<128:=by
 unfold Jk at h
 split at h
 ·intro c b
  rcases List.mem_cons.1 b with rfl | b
  ·decide
  ·exact HY h c b
 ·exact HY h
theorem Wh {N:Nat} {s:List UInt8} {K:LA→Int→O R} (b:IA s=true) (c:fit (s.length+30) N):D3 N s K=if 4096<Tn s then K [(.bool false),.nsl] 8 else K (As (Jj s)) 0:=by
 have d:=c.1;have e:=c.2
 rw[Pl];unfold Qq
 rw[Hk (by omega),b,show(!true)=false by rfl,cf,UE (UP (Kj b)) (by omega) (by omega)]
 by_cases h:4096<Tn s
 ·rw[decide_eq_true h,ct,if_pos h]
 ·rw[decide_eq_false h,cf,GN (Kj b) c,ph,ct,Tm,ct,iV,if_neg h]
theorem nK {N:Nat} {s:List UInt8} {K:LA→Int→O R} (b:IA s=false) (c:fit (s.length+30) N):D3 N s K=K [(.bool false),.nsl] 2:=by
 have d:=c.1
 rw[Pl];unfold Qq
 rw[Hk (by omega),b];rfl
theorem xL (u:Nat):IA (En u)=true:=by
 have b:=HD u
 unfold IA
 split
 ·rename_i r c
  have:=Yj b
  rw[c] at this
  simp only[List.all_cons,Bool.and_eq_true] at this
  exact absurd this.1 (by decide)
 ·exact b
theorem sS (u:Nat):Jj (En u)=(u:Int):=by
 unfold Jj
 split
 ·rename_i r b
  have:=Yj (HD u)
  rw[b] at this
  simp only[List.all_cons,Bool.and_eq_true] at this
  exact absurd this.1 (by decide)
 ·rw[Jp]
theorem E1 (z:Int):IA (Fo z)=true:=by
 unfold Fo CI
 by_cases h:z<0
 ·rw[if_pos h]
  show(Do (En z.natAbs)&&!(En z.natAbs==[48]))=true
  rw[HD,Bool.true_and]
  simp only[Bool.not_eq_true',beq_eq_false_iff_ne]
  intro e
  have:=congrArg B7 e
  rw[Jp] at this
  have:z.natAbs=0:=this
  omega
 ·rw[if_neg h];exact xL _
theorem O7 (z:Int):Jj (Fo z)=z:=by
 unfold Fo CI
 by_cases h:z<0
 ·rw[if_pos h]
  show -((B7 (En z.natAbs):Nat):Int)=z
  rw[Jp];omega
 ·rw[if_neg h,sS];omega
theorem vW (z:Int):Tn (Fo z)=(En z.natAbs).length:=by
 have e:Tn (En z.natAbs)=(En z.natAbs).length:=by
  unfold Tn
  rw[List.countP_eq_length]
  exact fun c b=>List.all_eq_true.1 (Jo _) c b
 unfold Fo CI
 split
 ·unfold Tn at *;rw[List.countP_cons,e];rfl
 ·exact e
end
end Gx

namespace Gx
open Go Go.Proofs
section
variable {R:Type}
theorem OO (c b:UInt8) (l:List UInt8):Lib.index (b::l) [c]=if c=b then 0 else if Lib.index l [c]=-1 then -1 else Lib.index l [c]+1:=by
 rw[Lib.index]
 have f:([c].isPrefixOf (b::l)=true)↔c=b:=by simp[List.isPrefixOf]
 by_cases h:c=b
 ·rw[if_pos (f.2 h),if_pos h]
 ·rw[if_neg (fun e=>h (f.1 e)),if_neg h]
  by_cases d:Lib.index l [c]=-1
  ·rw[d];rfl
  ·rw[if_neg (by simpa using d),if_neg d]
theorem qN (c:UInt8):∀ s:List UInt8,c ∉ s→Lib.index s [c]=-1
 | [],_=>rfl
 | b::l,h=>by
  rw[OO,if_neg (fun e=>h (by simp[e])),qN c l (fun e=>h (by simp[e])),if_pos rfl]
theorem qO (c:UInt8) (b:List UInt8):∀ a:List UInt8,c ∉ a→Lib.index (a++c::b) [c]=(a.length:Int)
 | [],_=>by rw[List.nil_append,OO,if_pos rfl];rfl
 | d::l,h=>by
  have:=qO c b l (fun e=>h (by simp[e]))
  rw[List.cons_append,OO,if_neg (fun e=>h (by simp[e])),this,if_neg (by omega),List.length_cons];omega
theorem yq {c:UInt8} {s:List UInt8} (h:c ∉ s):Lib.cut s [c]=(s,[],false):=by
 unfold Lib.cut;rw[qN c s h,if_neg (by omega)]
theorem xM {c:UInt8} {a b:List UInt8} (h:c ∉ a):Lib.cut (a++c::b) [c]=(a,b,true):=by
 unfold Lib.cut;rw[qO c b a h,if_pos (by omega),Int.toNat_natCast]
 rw[List.take_left,List.length_singleton,←List.drop_drop,List.drop_left];rfl
theorem yr {N:Nat} {s t:List UInt8} {K:List UInt8→List UInt8→Bool→O R} (h:s.length≤4294967280):strings_Cut N s t K=K (Lib.cut s t).1 (Lib.cut s t).2.1 (Lib.cut s t).2.2:=by
 rw[Ka];unfold Lo;rw[Z4 h,ct]
theorem UQ {c:UInt8} (h:Be c=false) {s:List UInt8} (b:s.all Be=true):c ∉ s:=by
 intro d;rw[List.all_eq_true.1 b c d] at h;cases h
theorem nL {c:UInt8} (h:Be c=false) (f:c≠45) {s:List UInt8} (b:Jk s=true):c ∉ s:=by
 unfold Jk at b
 split at b
 ·intro d
  rcases List.mem_cons.1 d with e | d
  ·exact f e
  ·exact UQ h b d
 ·exact UQ h b
theorem lD {N:Nat} {s:List UInt8} {K:List UInt8→List UInt8→Bool→O R} (b:IA s=true) (c:s.length<N):Md N s K=K s [49] true:=by
 rw[Qm];unfold Ra
 rw[Hk c,b,ct]
theorem sT {N:Nat} {a b:List UInt8} {K:List UInt8→List UInt8→Bool→O R} (d:IA a=true) (i:Do b=true) (j:(a++47::b).length≤4294967280) (k:(a++47::b).length<N):Md N (a++47::b) K=K a b true:=by
 have l:IA (a++47::b)=false:=by
  rw[←Bool.not_eq_true];intro e
  exact nL (c:=47) (by decide) (by decide) (Kj e) (by simp)
 have f:(a++47::b).length=a.length+(b.length+1):=by simp
 rw[Qm];unfold Ra
 rw[Hk k,l,cf,yr j,xM (nL (by decide) (by decide) (Kj d))]
 dsimp only
 rw[ct,Hk (by omega),d,show(true==true)=true by rfl,ct,Qp (by omega),i];rfl
theorem lE {N:Nat} {e:Bool} {d c:List UInt8} {K:List UInt8→List UInt8→Bool→O R} (k:Do d=true) (l:MW c=true) (F:d.length+c.length≤1000000000) (G:d.length+c.length+10<N):Md N ((if e then [45] else [])++(d++46::c)) K=K ((if e then [45] else [])++(d++c)) (49::List.replicate c.length 48) true:=by
 have f:=Yj k
 have m:c.all Be=true:=by simp only[MW,Bool.and_eq_true] at l;exact l.1
 have i:Be 46=false:=by decide
 have u:IA ((if e then [45] else [])++(d++46::c))=false:=by
  rw[←Bool.not_eq_true];intro v
  exact nL (c:=46) i (by decide) (Kj v) (by simp)
 have n:(47:UInt8) ∉ ((if e then [45] else [])++(d++46::c)):=by
  have z:=UQ (c:=47) (by decide) f
  have A:=UQ (c:=47) (by decide) m
  cases e<;>simp[z,A]
 have B:((if e then [45] else [])++(d++46::c):List UInt8).length≤d.length+c.length+2:=by cases e<;>simp<;>omega
 have q:d≠[]:=by intro h;subst h;simp[Do,MW] at k
 have fin:K5 N K e d c ((if e then [45] else [])++(d++46::c))=K ((if e then [45] else [])++(d++c)) (49::List.replicate c.length 48) true:=by
  unfold K5
  rw[Z4 (by omega),ct]
  cases e
  ·rw[cf,cz (by omega),Z4 (by rw[List.length_replicate];omega),ct];rfl
  ·rw[ct,Z4 (by rw[List.length_append];omega),ct,cz (by omega),Z4 (by rw[List.length_replicate];omega),ct];rfl
 rw[Qm];unfold Ra
 rw[Hk (by omega),u,cf,yr (by omega),yq n]
 dsimp only
 rw[cf]
 have go:∀ b:Bool,b=e→strings_Cut N (d++46::c) [46] (fun d' c' w=>Ig N d' fun r=>cond ((!r)==false) (Gc N c' fun s=>cond (cond false true (!s)) (K [] [] false) (K5 N K b d' c' ((if e then [45] else [])++(d++46::c)))) (K [] [] false))=K ((if e then [45] else [])++(d++c)) (49::List.replicate c.length 48) true:=by
  intro b C
  subst C
  have t:(d++46::c).length=d.length+(c.length+1):=by simp
  rw[yr (by omega),xM (UQ i f)]
  dsimp only
  rw[Qp (by omega),k,show((!true)==false)=true by rfl,ct,LR (by omega),l,show(cond false true (!true))=false by rfl,cf,fin]
 cases e
 ·have D:((if false=true then [45] else [])++(d++46::c):List UInt8).head?≠some 45:=by
   cases j:d with
   | nil=>exact absurd j q
   | cons x y =>
    rw[j] at f
    simp only[List.all_cons,Bool.and_eq_true] at f
    intro h
    simp at h
    rw[h] at f
    exact absurd f.1 (by decide)
  rw[S8 D]
  exact go false rfl
 ·exact(V8 (b:=d++46::c) (c:=45)).trans (go true rfl)
theorem xN {N:Nat} {a:Int} {b:Nat} (n:0<b) (c:fit (4*((Ae a.natAbs).length+(Ae b).length)+10) N):∃ d:RatD,d.can (mkRat a b)∧∀ K:LA→Bool→O R,fG N (As a) false (As (b:Int)) false K=K d.av true:=by
 let x:RatD:=⟨decide (a<0),.of (Ae a.natAbs) false false,.of (Ae b) false false⟩
 have f:x.ok:=⟨Aa _,Aa _⟩
 have hq:x.q=mkRat a b:=by
  show mkRat (Am (decide (a<0)) (.of (Ae a.natAbs) false false)) (val (Ae b))=_
  rw[B3,Ac]
 have s:x.m≤(Ae a.natAbs).length+(Ae b).length:=Nat.max_le.2 ⟨by show(Ae a.natAbs).length≤_;omega,by show(Ae b).length≤_;omega⟩
 obtain⟨d,e,i⟩:=OH (R:=R) (N:=N) (x:=x) (o:=(false||(false||false))) f (c.le (by omega))
 rw[hq] at e
 refine⟨d,e,fun K=>?_⟩
 rw[fH];unfold m0
 rw[ww,v7,yc,ct,ww,v7,yc,ct]
 have j:([(.bool (decide ((b:Int)<0))),(.imm (Ab (Ae (b:Int).natAbs)) (Ae (b:Int).natAbs).length 1 false false)]:LA)=As (b:Int):=rfl
 rw[j,GI (c.le (by omega))]
 have k:((b:Int).sign==0)=false:=by
  rw[beq_eq_false_iff_ne];intro h;have:=Int.sign_eq_zero_iff_zero.1 h;omega
 rw[k,cf]
 have l:([(.bool (!(decide (a<0)==decide ((b:Int)<0)))),(.imm (Ab (Ae a.natAbs)) (Ae a.natAbs).length 1 false false),(.imm (Ab (Ae (b:Int).natAbs)) (Ae (b:Int).natAbs).length 1 false false)]:LA)=x.av:=by
  rw[show decide ((b:Int)<0)=false by rw[decide_eq_false_iff_not];omega,Int.natAbs_natCast,show(!(decide (a<0)==false))=decide (a<0) by cases decide (a<0)<;>rfl];rfl
 rw[l,i];rfl
theorem Ti {N:Nat} {s n d:List UInt8} (l:∀ K:List UInt8→List UInt8→Bool→O R,Md N s K=K n d true) (q:Jk n=true) (m:d.all Be=true) (f:0<B7 d) (y:∀ c ∈ s,c.toNat<128) (i:fit (8*(s.length+n.length+d.length)+60) N) :
  ∃ x:RatD,x.can (mkRat (Jj n) (B7 d))∧∀ K:LA→Int→O R,Di N s K=if 4096<Tn s then K [(.bool false),.nsl,.nsl] 8 else K x.av 0:=by
 have A:=i.1;have B:=i.2
 have e:∀ t:List UInt8,Jk t=true→(Ae (Jj t).natAbs).length≤t.length+1:=by
  intro t k
  unfold Jk at k
  unfold Jj
  split at k
  ·have:=tR (PR k)
   rw[Int.natAbs_neg,Int.natAbs_natCast,List.length_cons];omega
  ·have:=tR (PR k)
   rw[Int.natAbs_natCast];omega
 have j:d.head?≠some 45:=by
  cases d with
  | nil=>simp
  | cons c r =>
   intro h
   simp at h;subst h
   simp only[List.all_cons,Bool.and_eq_true] at m
   exact absurd m.1 (by decide)
 have u:Jj d=((B7 d:Nat):Int):=by
  unfold Jj;split
  ·simp at j
  ·rfl
 have v:Jk d=true:=by
  unfold Jk;split
  ·simp at j
  ·exact m
 have C:=e n q
 have z:=e d v
 rw[u,Int.natAbs_natCast] at z
 obtain⟨x,x1,x2⟩:=xN (R:=R) (N:=N) (a:=Jj n) (b:=B7 d) f (i.le (by omega))
 refine⟨x,x1,fun K=>?_⟩
 rw[BL];unfold Z0
 rw[l,show(!true)=false by rfl,cf,UE y (by omega) (by omega)]
 by_cases h:4096<Tn s
 ·rw[decide_eq_true h,ct,if_pos h]
 ·rw[decide_eq_false h,cf,GN q (i.le (by omega)),GN v (i.le (by omega)),u,x2,if_neg h];rfl
end
end Gx

namespace Gx
open Go Go.Proofs
section
variable {R:Type}
theorem xT (v:Nat) (a b:Bool):val (LS.of (Ae v) a b).l=v:=Ac v
theorem yQ (v:Nat) (a b:Bool):(LS.of (Ae v) a b).l.length=(Ae v).length:=rfl
theorem sU {N x p:Nat} {a b c d o o':Bool} {K:LA→LA→Bool→O R} (f:0<p) (e:fit ((Ae x).length+(Ae p).length+4) N):Dm N (A8 false (.of (Ae x) a b)) o (A8 false (.of (Ae p) c d)) o' K=K (As ((x/p:Nat):Int)) (As ((x%p:Nat):Int)) true:=by
 rw[Qk (Bl _ _ _) (Bl _ _ _) (by rw[iP,xT];omega) e,iP,iP,xT,xT];rfl
theorem sV {v:Nat}:((v:Int).sign != 0)=decide (v≠0):=by
 cases v with
 | zero=>rfl
 | succ v=>simp[Int.sign]
theorem iS {N:Nat}:∀ (d x p L:Nat) (b g:Bool) (S:List Nat),0<x→2≤p→x<2 ^ d→(Ae x).length≤L→(Ae p).length≤2*L+1→fit (5*L+30) N→Ad S→val S=p →
  ∃ (r k:Nat) (j g':Bool),x=r*p ^ k∧¬ p∣r∧∀ K:LA→Bool→Int→O R,Gz N d (A8 false (.of (Ae x) false b)) g false (Ae p).length (Ab S) K=K (A8 false (.of (Ae r) false j)) g' (k:Int):=by
 intro d
 induction d with
 | zero=>intro x p L b g S h1 _ l;rw[Nat.pow_zero] at l;omega
 | succ d I =>
  intro x p L b g S h0 m M hL hpL f hS hSv
  have f2:=f.2
  have T:=Nat.div_add_mod x p
  have U:=Nat.mod_lt x (show 0<p by omega)
  have V:(Ae (x%p)).length≤(Ae p).length:=An (by omega)
  have c:∀ K:LA→Bool→Int→O R,Gz N (d+1) (A8 false (.of (Ae x) false b)) g false (Ae p).length (Ab S) K=HU N (Gz N d) (A8 false (.of (Ae x) false b)) g false (Ae p).length (Ab S) K:=fun _=>rfl
  by_cases C:x%p=0
  ·have i:p*(x/p)=x:=by omega
   have n:0<x/p:=by
    rcases Nat.eq_zero_or_pos (x/p) with e | e
    ·rw[e] at i;omega
    ·exact e
   have D:p≤x:=by rw[←i];exact Nat.le_mul_of_pos_right p n
   have hxL:=OI hL
   have u:(Ae (p*p)).length≤2*L+1:=by
    refine Nat.le_trans (Bj (k:=L+L) ?_) (by omega)
    rw[Nat.pow_add]
    exact Nat.mul_lt_mul_of_lt_of_lt (by omega) (by omega)
   have q:(Ae (x/p)).length≤L:=Nat.le_trans (An (Nat.div_le_self _ _)) hL
   have v:x/p<2 ^ d:=by
    rw[Nat.pow_succ] at M
    have:2*(x/p)≤p*(x/p):=Nat.mul_le_mul_right _ m
    omega
   obtain⟨S',m1,m2,m3⟩:=tO (R:=R) (N:=N) (s1:=.of (Ae p) false true) (s2:=.of (Ae p) false true) (o1:=true) (o2:=true) (Bl _ _ _) (Bl _ _ _) (f.le (by rw[yQ];omega))
   rw[xT] at m2 m3
   obtain⟨r,k,j,g',i1,i2,i3⟩:=I (x/p) (p*p) L false false S' n (by have:=Nat.mul_le_mul m m;omega) v q u f m1 m2
   have y:∀ K:LA→Bool→Int→O R,Gz N d (As ((x/p:Nat):Int)) false false (Ae (p*p)).length (Ab S') K=K (A8 false (.of (Ae r) false j)) g' (k:Int):=fun K=>by rw[Xv];exact i3 K
   have z:0<r:=by
    rcases Nat.eq_zero_or_pos r with e | e
    ·rw[e,Nat.zero_mul] at i1;omega
    ·exact e
   have A:0<(p*p) ^ k:=Nat.pow_pos (Nat.mul_pos (by omega) (by omega))
   have B:r≤x/p:=by rw[i1];exact Nat.le_mul_of_pos_right r A
   have X:(Ae r).length≤L:=Nat.le_trans (An B) q
   have Y:k≤32*L:=by
    have k1:2 ^ k≤(p*p) ^ k:=Nat.pow_le_pow_left (by have:=Nat.mul_le_mul m m;omega) k
    have k2:(p*p) ^ k≤x/p:=by rw[i1];exact Nat.le_mul_of_pos_left _ z
    have k3:2 ^ k<2 ^ (32*L):=by
     have:(4294967296:Nat) ^ L=2 ^ (32*L):=by rw[Nat.pow_mul]
     have:=Nat.div_le_self x p
     omega
    exact Nat.le_of_lt ((Nat.pow_lt_pow_iff_right (by omega)).1 k3)
   have s:(p*p) ^ k=p ^ (2*k):=by rw[Nat.pow_mul,Nat.pow_two]
   have hrm:=Nat.mod_lt r (show 0<p by omega)
   have hrd:=Nat.div_add_mod r p
   have F:(Ae (r%p)).length≤(Ae p).length:=An (by omega)
   have front:∀ K:LA→Bool→Int→O R,Gz N (d+1) (A8 false (.of (Ae x) false b)) g false (Ae p).length (Ab S) K =
     cond (r%p≠0) (K (A8 false (.of (Ae r) false j)) g' ((2*k+1:Nat):Int)) (K (As ((r/p:Nat):Int)) false ((2*k+2:Nat):Int)):=by
    intro K
    rw[c];unfold HU
    rw[Pf,ct,NV,Av hS hSv,hZ,sU (by omega) (f.le (by omega)),ph,ct,ph,ct,Tm,ct,iV,GI (f.le (by omega)),sV,decide_eq_false (by omega),cf,Tm,ct,m3,iV]
    refine Eq.trans (y _) ?_
    rw[show((Nat.beq 0 0)&&((Nat.beq (List.length (A8 false (.of (Ae r) false j))) 2)&&(Nat.beq 2 2)))=true by rfl,ct,Pf,ct,NV,sU (by omega) (f.le (by omega)),sL,ct,sL,ct,ws,Tm,ct,iV,GI (f.le (by omega)),sV]
    have G:IntKind.wrap .i64 (IntKind.wrap .i64 (2*(k:Int))+1)=((2*k+1:Nat):Int):=by
     rw[i64 (a:=2*(k:Int)) (by omega),i64 (by omega)];omega
    have w2:IntKind.wrap .i64 (IntKind.wrap .i64 (IntKind.wrap .i64 (2*(k:Int))+1)+1)=((2*k+2:Nat):Int):=by
     rw[G,wS (by omega)]
    rw[w2,G,ws];rfl
   by_cases l:r%p=0
   ·refine⟨r/p,2*k+2,false,false,?_,?_,fun K=>?_⟩
    ·rw[←i,i1,s,Nat.pow_succ,Nat.pow_succ]
     have:r=p*(r/p):=by omega
     conv=>lhs;rw[this]
     simp only[Nat.mul_assoc,Nat.mul_comm,Nat.mul_left_comm]
    ·intro t
     apply i2
     have:r=p*(r/p):=by omega
     rw[this];exact Nat.mul_dvd_mul_left p t
    ·rw[front,show(decide (r%p≠0))=false by simp[l],cf,Xv]
   ·refine⟨r,2*k+1,j,g',?_,fun t=>l (Nat.mod_eq_zero_of_dvd t),fun K=>?_⟩
    ·rw[←i,i1,s,Nat.pow_succ]
     simp only[Nat.mul_comm,Nat.mul_left_comm]
    ·rw[front,decide_eq_true l,ct]
  ·refine⟨x,0,b,g,by simp,fun t=>C (Nat.mod_eq_zero_of_dvd t),fun K=>?_⟩
   rw[c];unfold HU
   rw[Pf,ct,NV,Av hS hSv,hZ,sU (by omega) (f.le (by omega)),ph,ct,ph,ct,Tm,ct,iV,GI (f.le (by omega)),sV,decide_eq_true C,ct];rfl
end
end Gx

namespace Gx
open Go Go.Proofs
section
variable {R:Type}
theorem nM {N:Nat} (p:Nat) (b:p≤9223372036854775807) (hN:4≤N):∃ S,Ad S∧val S=p∧∀ K:Bool→Nat→LA→O R,Bf N (p:Int) K=K false (Ae p).length (Ab S):=by
 obtain⟨S,a1,a2,a3⟩:=Fl (R:=R) (N:=N) (v:=(p:Int)) (by omega) hN
 rw[Int.natAbs_natCast] at a2 a3
 exact⟨S,a1,a2,fun K=>by rw[a3,decide_eq_false (by omega)]⟩
theorem zS:Nat.Coprime 2 5:=by decide
theorem tS (p:Nat):10 ^ p=2 ^ p*5 ^ p:=by rw[←Nat.mul_pow]
theorem tT {a b p:Nat}:5 ^ b*2 ^ a∣10 ^ p↔a≤p∧b≤p:=by
 rw[tS]
 constructor
 ·intro h
  have c:2 ^ a∣2 ^ p*5 ^ p:=Nat.dvd_trans (Nat.dvd_mul_left _ _) h
  have d:5 ^ b∣2 ^ p*5 ^ p:=Nat.dvd_trans (Nat.dvd_mul_right _ _) h
  have c1:Nat.Coprime (2 ^ a) (5 ^ p):=Nat.Coprime.pow _ _ zS
  have e:Nat.Coprime (5 ^ b) (2 ^ p):=Nat.Coprime.pow _ _ zS.symm
  exact⟨(Nat.pow_dvd_pow_iff_le_right (by omega)).1 (c1.dvd_of_dvd_mul_right c),(Nat.pow_dvd_pow_iff_le_right (by omega)).1 (e.dvd_of_dvd_mul_left d)⟩
 ·rintro⟨c,d⟩
  rw[Nat.mul_comm]
  exact Nat.mul_dvd_mul (Nat.pow_dvd_pow 2 c) (Nat.pow_dvd_pow 5 d)
theorem lF {p r:Nat} (d:p=2∨p=5) (h:¬ p∣r):Nat.Coprime r p:=by
 have b:Nat.gcd r p∣p:=Nat.gcd_dvd_right r p
 have f:Nat.gcd r p≤p:=Nat.le_of_dvd (by omega) b
 have c:Nat.gcd r p∣r:=Nat.gcd_dvd_left r p
 show Nat.gcd r p=1
 generalize Nat.gcd r p=g at *
 rcases d with rfl | rfl
 ·have:g=0∨g=1∨g=2:=by omega
  rcases this with e | e | e
  ·subst e;simp at b
  ·exact e
  ·subst e;exact absurd c h
 ·have:g=0∨g=1∨g=2∨g=3∨g=4∨g=5:=by omega
  rcases this with e | e | e | e | e | e
  ·subst e;simp at b
  ·exact e
  ·subst e;exact absurd b (by decide)
  ·subst e;exact absurd b (by decide)
  ·subst e;exact absurd b (by decide)
  ·subst e;exact absurd c h
theorem qP {r d p:Nat} (b:¬ 2∣r) (c:¬ 5∣r) (e:r≠1) (f:r∣d):¬ d∣10 ^ p:=by
 intro i
 have h:=Nat.dvd_trans f i
 rw[tS] at h
 have c1:Nat.Coprime r (2 ^ p):=(lF (.inl rfl) b).pow_right p
 have j:Nat.Coprime r (5 ^ p):=(lF (.inr rfl) c).pow_right p
 exact e (Nat.Coprime.eq_one_of_dvd (Nat.Coprime.mul_right c1 j) h)
theorem xO (a b:Nat):Yn (a:Int) (b:Int)=((max a b:Nat):Int):=by
 unfold Yn
 by_cases h:(b:Int)>(a:Int)
 ·rw[decide_eq_true h,cond_true];omega
 ·rw[decide_eq_false h,cond_false];omega
theorem qQ {x L:Nat} (h:(Ae x).length≤L):x<2 ^ (32*L):=by
 have b:=OI h
 rwa [show(4294967296:Nat) ^ L=2 ^ (32*L) by rw[Nat.pow_mul]] at b
theorem UR {N:Nat} {x:RatD} {o:Bool} (M:x.ok) (f:fit (80*x.m+300) N) :
  (∃ P,x.q.den∣10 ^ P∧(∀ p,x.q.den∣10 ^ p→P≤p)∧P≤32*(x.m+1)∧∀ K:List UInt8→Bool→O R,G0 N x.av o K=K (pt (x.q.num*((10 ^ P:Nat):Int)/(x.q.den:Int)) P) true) ∨
  ((∀ p,¬ x.q.den∣10 ^ p)∧∀ K:List UInt8→Bool→O R,G0 N x.av o K=K [] false):=by
 have f1:=f.1;have f2:=f.2
 obtain⟨d,T,d2⟩:=OH (R:=R) (N:=N) (o:=o) M (f.le (by omega))
 have hm:=So x M
 have hq1:=FG x.q
 have hq2:=XJ x.q
 have i:=x.q.den_pos
 obtain⟨S2,a1,a2,a3⟩:=nM (R:=R) (N:=N) 2 (by omega) (by omega)
 obtain⟨S5,b1,b2,b3⟩:=nM (R:=R) (N:=N) 5 (by omega) (by omega)
 obtain⟨S1,c1,c2,c3⟩:=nM (R:=R) (N:=N) 1 (by omega) (by omega)
 have hd2:(Ae 2).length≤1:=Bj (by decide)
 have hd5:(Ae 5).length≤1:=Bj (by decide)
 have hd1:(Ae 1).length≤1:=Bj (by decide)
 generalize hL:x.m+1=L at *
 have B:x.q.den<2 ^ N:=Nat.lt_of_lt_of_le (qQ (L:=L) (by omega)) (Nat.pow_le_pow_right (by omega) (by omega))
 obtain⟨r,k,Y,g',y,e2,e3⟩:=iS (R:=R) (N:=N) N x.q.den 2 L (o||false) ((o||false)||false) S2 i (by omega) B (by omega) (by omega) (f.le (by omega)) a1 a2
 have C:0<r:=by
  rcases Nat.eq_zero_or_pos r with e | e
  ·rw[e,Nat.zero_mul] at y;omega
  ·exact e
 have V:r≤x.q.den:=by rw[y];exact Nat.le_mul_of_pos_right r (Nat.pow_pos (by omega))
 have j:(Ae r).length≤L:=Nat.le_trans (An V) (by omega)
 obtain⟨c,A,t,g2',u,q2,q3⟩:=iS (R:=R) (N:=N) N r 5 L Y g' S5 C (by omega) (by omega) j (by omega) (f.le (by omega)) b1 b2
 have D:0<c:=by
  rcases Nat.eq_zero_or_pos c with e | e
  ·rw[e,Nat.zero_mul] at u;omega
  ·exact e
 have G:c≤r:=by rw[u];exact Nat.le_mul_of_pos_right c (Nat.pow_pos (by omega))
 have hr2l:(Ae c).length≤L:=Nat.le_trans (An G) j
 have kb:∀ (p k r x:Nat),2≤p→0<r→x=r*p ^ k→(Ae x).length≤L→k≤32*L:=by
  intro p k r x U hr e M
  have k1:2 ^ k≤p ^ k:=Nat.pow_le_pow_left U k
  have A:p ^ k≤x:=by rw[e];exact Nat.le_mul_of_pos_left _ hr
  have k3:2 ^ k<2 ^ (32*L):=by have:=qQ M;omega
  exact Nat.le_of_lt ((Nat.pow_lt_pow_iff_right (by omega)).1 k3)
 have hk1:=kb 2 k r _ (by omega) C y (by omega)
 have hk2:=kb 5 A c _ (by omega) D u j
 have en:([.bool false,.imm (Ab d.ds.l) d.ds.l.length 1 false (o||false)]:LA)=A8 false (.of (Ae x.q.den) false (o||false)):=by rw[T.2.2];rfl
 have et:∀ (v:Nat) (b:Bool),((Nat.beq 0 0)&&((Nat.beq (List.length (A8 false (.of (Ae v) false b))) 2)&&(Nat.beq 2 2)))=true:=fun _ _=>rfl
 have front:∀ K:List UInt8→Bool→O R,G0 N x.av o K=cond (decide (c≠1)) (K [] false) (Bf N 10 (fun ad q ae=>(J4 N [(.bool ad),(.imm (ae.take (q*1)) q 1 false true)] true ((max k A:Nat):Int) (fun af r ag=>(Nn N (A8 d.neg d.ns) (o||false) [(.bool af),(.imm (ag.take (r*1)) r 1 false true)] true (fun ah s ai=>(Dm N [(.bool ah),(.imm (ai.take (s*1)) s 1 false true)] true (A8 false (.of (Ae x.q.den) false (o||false))) ((o||false)||false) (fun g aj an=>(cond ((Nat.beq 0 0)&&((Nat.beq (g.length) 2)&&(Nat.beq 2 2))) (cond ((Nat.beq 0 0)&&((Nat.beq (aj.length) 2)&&(Nat.beq 2 2))) (cond (Nat.ble 2 (g.length)) (Dy N (g.take 2) false ((max k A:Nat):Int) (fun ak=>(K ak true))) none) none) none))))))))):=by
  intro K
  rw[GA];unfold F'
  rw[Kr,ct,Eh,d2,show((Nat.beq (List.length d.av) 3)&&(true&&(!false)))=true by rfl,ct,show setCells x.av 0 d.av=d.av by rfl,XG,en]
  refine Eq.trans (a3 _) ?_
  refine Eq.trans (e3 _) ?_
  rw[et,ct,Pf,ct,NV]
  refine Eq.trans (b3 _) ?_
  refine Eq.trans (q3 _) ?_
  rw[show((Nat.beq (List.length (A8 false (.of (Ae c) false t))) 2)&&(true&&(!false)))=true by rfl,ct,show setCells (A8 false (.of (Ae r) false Y)) 0 (A8 false (.of (Ae c) false t))=A8 false (.of (Ae c) false t) by rfl,Pf,ct,NV]
  refine Eq.trans (c3 _) ?_
  rw[Av c1 c2,hZ,V4 (Bl _ _ _) (Bl _ _ _) (f.le (by rw[yQ,yQ];omega)),iP,iP,xT,xT]
  rw[show(Xu (c:Int) ((1:Nat):Int) != 0)=decide (c≠1) by
   unfold Xu
   by_cases h:c=1
   ·subst h;decide
   ·rw[if_neg (by omega),if_pos (by omega)];simp[h]]
  rw[show Nat.ble 2 (List.length d.av)=true by rfl,ct,show List.take 2 d.av=A8 d.neg d.ns by rfl,xO]
 by_cases I:c=1
 ·left
  refine⟨max k A,?_,?_,by omega,fun K=>?_⟩
  ·rw[y,u,I,Nat.one_mul];exact tT.2 ⟨Nat.le_max_left _ _,Nat.le_max_right _ _⟩
  ·intro p U
   rw[y,u,I,Nat.one_mul] at U
   have:=tT.1 U
   omega
  ·generalize hP:max k A=P at *
   have hPb:P≤32*L:=by omega
   have hnl:d.ns.l.length≤L:=by rw[T.2.1];omega
   have hpl:=Nat.le_of_lt_succ (Nat.lt_succ_of_le (Bj (iQ P)))
   obtain⟨S,p1,p2,p3⟩:=HX (R:=R) (N:=N) (n:=P) (f.le (by omega))
   obtain⟨S',m1,m2,m3⟩:=XE (R:=R) (N:=N) (n1:=d.neg) (n2:=false) (s1:=d.ns) (s2:=.of (Ae (10 ^ P)) false true) (o1:=(o||false)) (o2:=true) T.ok.1 (Bl _ _ _) (f.le (by rw[yQ];omega))
   rw[iP,xT,tQ T] at m2 m3
   have hzl:(Ae (x.q.num*((10 ^ P:Nat):Int)).natAbs).length≤L+(P+1):=by
    rw[Int.natAbs_mul,Int.natAbs_natCast]
    refine Bj ?_
    rw[Nat.pow_add]
    exact Nat.mul_lt_mul_of_lt_of_lt (OI (by omega)) (iQ P)
   rw[front,decide_eq_false (by simpa using I),cf]
   refine Eq.trans (p3 _) ?_
   rw[Av p1 p2,hZ,m3,Av m1 m2,hZ,Qk (Bl _ _ _) (Bl _ _ _) (by rw[iP,xT];omega) (f.le (by rw[yQ,yQ];omega)),ph,ct,ph,ct,Tm,ct,iV,iP,xT,B3]
   generalize x.q.num*((10 ^ P:Nat):Int)=z at *
   have X:=TS z x.q.den i
   have hz3:=An X
   rw[b6,Te (Bl _ _ _) (by omega) (f.le (by rw[yQ];omega)),B3]
 ·right
  refine⟨fun p=>qP (r:=c) ?_ q2 I ?_,fun K=>?_⟩
  ·intro h;apply e2;rw[u];exact Nat.dvd_trans h (Nat.dvd_mul_right _ _)
  ·rw[y,u,Nat.mul_assoc];exact Nat.dvd_mul_right _ _
  ·rw[front,decide_eq_true I,ct]
theorem sW {N:Nat} {x:RatD} {o:Bool} {c:Nat} {K:List UInt8→Int→O R} (i:x.ok) (D:c≤100) (b:fit (10*x.m+3000) N):Ta N x.av o (c:Int) K=K (pt (yj (((10 ^ c:Nat):Rat)*x.q)) c) 0:=by
 have F:=b.1;have G:=b.2
 obtain⟨S,k,l,s⟩:=HX (R:=R) (N:=N) (n:=c) (b.le (by omega))
 have t:=Bj (iQ c)
 let y:RatD:=⟨false,.of (Ae (10 ^ c)) false true,.of [1] false true⟩
 have j:y.ok:=⟨Aa _,XH⟩
 have e:y.q=((10 ^ c:Nat):Rat):=by
  show mkRat (Am false (.of (Ae (10 ^ c)) false true)) (val [1])=_
  rw[iP,xT,show val [1]=1 by rfl,mu];rfl
 have u:y.m≤102:=Nat.max_le.2 ⟨by show(Ae (10 ^ c)).length≤_;omega,by show 1≤_;omega⟩
 obtain⟨d,f,v⟩:=vG (R:=R) (N:=N) (x:=x) (y:=y) (o:=o) (o':=true) i j (b.le (by omega))
 rw[e,Rat.mul_comm] at f
 have z:d.m≤x.m+104:=by
  rw[f.m]
  have A:=yf ((10 ^ c:Nat):Rat) x.q
  have B:=So x i
  have C:=So y j
  rw[e] at C
  omega
 rw[UL];unfold HW
 rw[decide_eq_false (by omega),show(false==false)=true by rfl,ct,decide_eq_false (show ¬ (c:Int)>100 by omega),show cond false true false=false by rfl,cf]
 unfold Vc
 refine Eq.trans (s _) ?_
 rw[Av k l,Kr,ct,Eh]
 have ey:([(.bool false),(.imm (Ab (Ae (10 ^ c))) (Ae (10 ^ c)).length 1 false true),(.imm [(.int .u32 1)] 1 1 false true)]:LA)=y.av:=rfl
 rw[ey,v,pj f.ok (b.le (by omega)),f.q]
 have I:(Ae (yj (((10 ^ c:Nat):Rat)*x.q)).natAbs).length≤d.m+1:=by
  rw[f.m]
  refine Bj ?_
  have A:=OJ (((10 ^ c:Nat):Rat)*x.q)
  have B:=TS (((10 ^ c:Nat):Rat)*x.q).num (((10 ^ c:Nat):Rat)*x.q).den (((10 ^ c:Nat):Rat)*x.q).den_pos
  rw[Nat.pow_succ]
  unfold yj pi
  split<;>omega
 rw[b6,Te (Bl _ _ _) (by omega) (b.le (by rw[yQ];omega)),B3]
end
end Gx

namespace Gx
open Go Go.Proofs
section
variable {R:Type}
theorem zT (x:RatD):((Nat.beq 0 0)&&((Nat.beq (List.length x.av) 3)&&(Nat.beq 3 3)))=true:=rfl
theorem xv:En 175=[49,55,53]:=by
 rw[N5 (by omega),show 175/10=17 by rfl,N5 (by omega),show 17/10=1 by rfl,C5 (by omega)];rfl
theorem yu {P:Nat} (b:40∣10 ^ P) (c:∀ p,40∣10 ^ p→P≤p):P=3:=by
 have f:P≤3:=c 3 (by decide)
 have d:P=0∨P=1∨P=2∨P=3:=by omega
 rcases d with e | e | e | e
 ·subst e;exact absurd b (by decide)
 ·subst e;exact absurd b (by decide)
 ·subst e;exact absurd b (by decide)
 ·exact e
theorem xw:(mkRat 7 40).num=7∧(mkRat 7 40).den=40:=by decide
theorem zp:(mkRat 6 4).num=3∧(mkRat 6 4).den=2:=by decide
theorem iT {b:Nat} {z:Int} (c:b≠0) (d:z.natAbs<4294967296) (h:b<4294967296):qm (mkRat z b)≤1:=wt z b 1 (by omega) (by omega) c
theorem zU {N:Nat} {d:RatD} {p:Rat} {w:Int} {o o':Bool} {K:Bool→O R} (h:d.can p):Hj N (A8 d.neg d.ns) o (As w) o' K=Hj N (As p.num) o (As w) o' K:=by
 rw[V1];unfold Zq
 simp only[F0,Fk,b6,h.1,h.2.1]
 rfl
theorem iU {N:Nat} {d:RatD} {p q:Rat} {o o':Bool} {K:Bool→O R} (h:d.can p) (b:fit (qm p) N):Dn N d.av o (cq q) o' K=K (decide (p=q)):=by
 have hq:=yk (R:=R) (N:=N) (p:=p) (q:=q) (o:=o) (o':=o') (K:=K) b
 rw[←hq,V3];unfold Zr
 rw[show Nat.ble 2 (List.length d.av)=true by rfl,ct,LE,ct,LE,ct,show List.take 2 d.av=A8 d.neg d.ns by rfl,V5,V5,zU h,XG,zB,zB,h.2.2]
 rfl
theorem zj {N:Nat} {q:Rat} (b:fit 10000 N) (h:qm q≤1) (c d:Nat) (e:c+d≤10000):fit (c*(sG q).m+d) N:=b.le (by rw[tK];have:=Nat.mul_le_mul_left c h;omega)
theorem Z7 {N:Nat} {K:Bool→O R} (b:fit 10000 N):Cj N K=K true:=by
 have u:=b.1
 obtain⟨x,x1,x2⟩:=Ti (R:=R) (N:=N) (s:=[45,48,46,50,53]) (n:=[45,48,50,53]) (d:=[49,48,48]) (fun K=>lE (e:=true) (d:=[48]) (c:=[50,53]) (by decide) (by decide) (by decide) (by simp;omega)) (by decide) (by decide) (by decide) (by decide) (b.le (by decide))
 have qx:mkRat (Jj [45,48,50,53]) (B7 [49,48,48])=mkRat (-1) 4:=by decide
 rw[qx] at x1
 have mx:x.m≤1:=by rw[x1.m];exact iT (by decide) (by decide) (by decide)
 have m1:qm (mkRat 7 40)≤1:=iT (by decide) (by decide) (by decide)
 have m2:qm (mkRat 5 2)≤1:=iT (by decide) (by decide) (by decide)
 have m3:qm (mkRat 6 4)≤1:=iT (by decide) (by decide) (by decide)
 have m4:qm (mkRat (-1) 4)≤1:=iT (by decide) (by decide) (by decide)
 rw[CD];unfold Z2
 have i:∀ K:List UInt8→Bool→O R,G0 N (cq (mkRat 7 40)) false K=K [48,46,49,55,53] true:=by
  rcases UR (R:=R) (N:=N) (x:=sG (mkRat 7 40)) (o:=false) (XI _) (zj b m1 80 300 (by decide)) with⟨P,f,l,_,t⟩ | ⟨f,_⟩
  ·rw[iB] at f l t
   rw[xw.2] at f l
   have hP:=yu f l
   subst hP
   have e:pt ((mkRat 7 40).num*((10 ^ 3:Nat):Int)/((mkRat 7 40).den:Int)) 3=[48,46,49,55,53]:=by
    rw[xw.1,xw.2,show(7*((10 ^ 3:Nat):Int)/((40:Nat):Int))=175 by decide]
    unfold pt zQ El CI
    rw[show(175:Int).natAbs=175 by rfl,xv];rfl
   intro K
   rw[←e];exact t K
  ·rw[iB,xw.2] at f
   exact absurd (by decide) (f 3)
 have j:∀ K:List UInt8→Int→O R,Ta N (cq (mkRat 5 2)) false 0 K=K [50] 0:=by
  intro K
  have:=sW (R:=R) (N:=N) (x:=sG (mkRat 5 2)) (o:=false) (c:=0) (K:=K) (XI _) (by omega) (zj b m2 10 3000 (by decide))
  rw[iB] at this
  have e:pt (yj (((10 ^ 0:Nat):Rat)*mkRat 5 2)) 0=[50]:=by
   rw[show(((10 ^ 0:Nat):Rat)*mkRat 5 2)=mkRat 5 2 from Rat.one_mul _,xB _ _ (by decide),show pi 5 2=2 by decide,dA]
   unfold Fo CI
   rw[show(2:Int).natAbs=2 by rfl,C5 (by omega)];decide
  rw[e] at this
  exact this
 have k:∀ K:List UInt8→O R,Dd N (cq (mkRat 6 4)) false K=K [51,47,50]:=by
  intro K
  have:=Tf (R:=R) (N:=N) (x:=sG (mkRat 6 4)) (o:=false) (K:=K) (XI _) (zj b m3 4 60 (by decide))
  rw[iB] at this
  have e:Lg (mkRat 6 4)=[51,47,50]:=by
   unfold Lg Fo CI
   rw[zp.1,zp.2,if_neg (by omega),if_neg (by omega),show(3:Int).natAbs=3 by rfl,C5 (by omega),C5 (by omega)];decide
  rw[e] at this
  exact this
 have q:∀ K:Bool→O R,Dn N x.av false (cq (mkRat (-1) 4)) false K=K true:=by
  intro K
  rw[iU x1 (b.le (Nat.le_trans m4 (by decide))),decide_eq_true rfl]
 have of1:∀ K:LA→O R,Pe N 7 40 K=K (cq (mkRat 7 40)):=fun K=>TR (by omega) (by omega) (by omega)
 have of2:∀ K:LA→O R,Pe N 5 2 K=K (cq (mkRat 5 2)):=fun K=>TR (by omega) (by omega) (by omega)
 have of3:∀ K:LA→O R,Pe N 6 4 K=K (cq (mkRat 6 4)):=fun K=>TR (by omega) (by omega) (by omega)
 have of4:∀ K:LA→O R,Pe N (-1) 4 K=K (cq (mkRat (-1) 4)):=fun K=>TR (by omega) (by omega) (by omega)
 rw[x2,show Tn [45,48,46,50,53]=3 by decide,if_neg (by omega),zT,ct,of1,i,of2,j,of3,k]
 rw[Kr,Eh,of4,q]
 rfl
end
end Gx

namespace Gx
open Go Go.Proofs
section
variable {R:Type}
theorem xx {N:Nat} {z:Int} {o:Bool} {K:List UInt8→O R} (b:fit (2*(Ae z.natAbs).length+40) N):Bo N (As z) o K=K (Fo z):=by
 rw[b6,Il (Bl _ _ _) b,B3]
theorem qR {N:Nat} {b:Int} (d:-9223372036854775808≤b∧b≤9223372036854775807) {K:Bool→O R} (c:fit 10000 N):Fr N b K=K true:=by
 have e:=c.1
 have f:(Ae b.natAbs).length≤2:=Bj (by omega)
 have i:=Yi b
 have j:Tn (Fo b)≤4096:=by
  rw[vW]
  have:=Ik b.natAbs
  omega
 rw[La];unfold Io
 rw[Jz d (by omega),xx (c.le (by omega)),Wh (E1 b) (c.le (by omega)),if_neg (by omega),O7,ph,ct,Tm,ct,iV,yi (c.le (by omega)) d,Z7 c]
 rw[show(b==b)=true by simp]
 rfl
end
end Gx

namespace Gx
open Go Go.Proofs
section
variable {R:Type}
theorem nN {N:Nat} {n1 n2:Bool} {la lb lc:List Nat} (c:Ad la) (e:Ad lb) (f:Ad lc) {K:Bool→O R} (b:fit (8*(la.length+lb.length+lc.length)+10000) N) :
  E8 N n1 (Ab la) la.length false false n2 (Ab lb) lb.length false false (Ab lc) lc.length false false K=K true:=by
 have i:∀ K:List UInt8→O R,Bo N [(.bool n1),(.imm (Ab la) la.length 1 false false)] (false||false) K=K (Fo (Am n1 (.of la false false))):=fun K=>Il (s:=.of la false false) c (b.le (by show 2*la.length+40≤_;omega))
 have j:∀ K:List UInt8→O R,Cq N [(.bool n1),(.imm (Ab la) la.length 1 false false)] (false||false) K=K (Fo (Am n1 (.of la false false))):=fun K=>ci (s:=.of la false false) c (b.le (by show la.length+6≤_;omega))
 let x:RatD:=⟨n2,.of lb false false,.of lc false false⟩
 have d:x.ok:=⟨e,f⟩
 have n:x.m≤lb.length+lc.length:=Nat.max_le.2 ⟨by show lb.length≤_;omega,by show lc.length≤_;omega⟩
 have k:∀ K:List UInt8→O R,Dd N [(.bool n2),(.imm (Ab lb) lb.length 1 false false),(.imm (Ab lc) lc.length 1 false false)] (false||(false||false)) K=K (Lg x.q):=fun K=>Tf (x:=x) d (b.le (by omega))
 have l:∀ K:List UInt8→O R,Hl N [(.bool n2),(.imm (Ab lb) lb.length 1 false false),(.imm (Ab lc) lc.length 1 false false)] (false||(false||false)) K=K (Lg x.q):=fun K=>cj (x:=x) d (b.le (by omega))
 rw[J7];unfold Hn
 rw[Z7 (b.le (by omega)),show(true==true)=true by rfl,ct,i,j,k,l]
 simp
end
end Gx

namespace Gx
open Go Go.Proofs
section
variable {R:Type}
theorem sY (q:Rat):∀ c ∈ Lg q,c.toNat<128:=by
 have d:=UP (Kj (E1 q.num))
 have e:=HY (Jo q.den)
 unfold Lg
 split
 ·exact d
 ·intro c b
  simp only[List.mem_append,List.mem_singleton] at b
  rcases b with(b | b) | b
  ·exact d c b
  ·subst b;decide
  ·exact e c b
theorem xP (q:Rat):(Lg q).length≤20*qm q+4:=by
 have b:=Yi q.num
 have c:=Ik q.den
 have d:=FG q
 have e:=XJ q
 unfold Lg
 split
 ·omega
 ·rw[List.length_append,List.length_append,List.length_singleton];omega
theorem sZ {N:Nat} {q:Rat} (b:fit (400*qm q+400) N):∃ x:RatD,x.can q∧∀ K:LA→Int→O R,Di N (Lg q) K=if 4096<Tn (Lg q) then K [(.bool false),.nsl,.nsl] 8 else K x.av 0:=by
 have j:=b.1;have k:=b.2
 have l:=Yi q.num
 have m:=Ik q.den
 have t:=FG q
 have u:=XJ q
 have c:=xP q
 by_cases h:q.den=1
 ·have e:Lg q=Fo q.num:=by unfold Lg;rw[if_pos h]
  rw[e] at c ⊢
  obtain⟨x,x1,x2⟩:=Ti (R:=R) (N:=N) (s:=Fo q.num) (n:=Fo q.num) (d:=[49]) (fun K=>lD (E1 _) (by omega)) (Kj (E1 _)) (by decide) (by decide) (UP (Kj (E1 _))) (b.le (by rw[List.length_singleton];omega))
  rw[O7,show B7 [49]=1 by decide] at x1
  have:mkRat q.num 1=q:=by
   have f:=Rat.mkRat_self q
   rw[h] at f;exact f
  rw[this] at x1
  exact⟨x,x1,x2⟩
 ·have e:Lg q=Fo q.num++47::En q.den:=by unfold Lg;rw[if_neg h,List.append_assoc];rfl
  have i:=sY q
  rw[e] at c i ⊢
  obtain⟨x,x1,x2⟩:=Ti (R:=R) (N:=N) (s:=Fo q.num++47::En q.den) (n:=Fo q.num) (d:=En q.den) (fun K=>sT (E1 _) (HD _) (by omega) (by omega)) (Kj (E1 _)) (Jo _) (by rw[Jp];exact q.den_pos) i (b.le (by omega))
  rw[O7,Jp,Rat.mkRat_self] at x1
  exact⟨x,x1,x2⟩
theorem nO (s:List UInt8):Tn s≤s.length:=List.countP_le_length
theorem s0 {N:Nat} {n1 n2:Bool} {la lb lc:List Nat} (i:Ad la) (A:Ad lb) (B:Ad lc) {K:Bool→O R} (c:fit (400*(la.length+lb.length+lc.length)+10000) N) :
  Dz N n1 (Ab la) la.length false false n2 (Ab lb) lb.length false false (Ab lc) lc.length false false K=K true:=by
 have T:=c.1;have U:=c.2
 have C:∀ K:List UInt8→O R,Bo N [(.bool n1),(.imm (Ab la) la.length 1 false false)] (false||false) K=K (Fo (Am n1 (.of la false false))):=fun K=>Il (s:=.of la false false) i (c.le (by show 2*la.length+40≤_;omega))
 have D:∀ K:LA→O R,Fz N [(.bool n1),(.imm (Ab la) la.length 1 false false)] (false||false) K=K (As (Am n1 (.of la false false))):=fun K=>Ks (s:=.of la false false) i (c.le (by show la.length≤_;omega))
 let x:RatD:=⟨n2,.of lb false false,.of lc false false⟩
 have j:x.ok:=⟨A,B⟩
 have V:x.m≤lb.length+lc.length:=Nat.max_le.2 ⟨by show lb.length≤_;omega,by show lc.length≤_;omega⟩
 have F:=So x j
 have G:∀ K:List UInt8→O R,Dd N [(.bool n2),(.imm (Ab lb) lb.length 1 false false),(.imm (Ab lc) lc.length 1 false false)] (false||(false||false)) K=K (Lg x.q):=fun K=>Tf (x:=x) j (c.le (by omega))
 have I:∀ K:LA→O R,Cs N [(.bool n2),(.imm (Ab lb) lb.length 1 false false),(.imm (Ab lc) lc.length 1 false false)] (false||(false||false)) K=K (cq x.q):=fun K=>E5 (x:=x) j (c.le (by omega))
 have X:(Ae (Am n1 (.of la false false)).natAbs).length≤la.length:=by
  have:=(Au (l:=la) i).2
  rw[A6];exact this
 generalize Am n1 (.of la false false)=z at *
 generalize hq:x.q=q at *
 obtain⟨y,y1,y2⟩:=sZ (R:=R) (N:=N) (q:=q) (c.le (by omega))
 have Y:=Yi z
 have k:∀ K:LA→Int→O R,D3 N (Fo z) K=if 4096<Tn (Fo z) then K [(.bool false),.nsl] 8 else K (As z) 0:=fun K=>by
  have:=Wh (R:=R) (N:=N) (s:=Fo z) (K:=K) (E1 z) (c.le (by omega))
  rw[O7] at this;exact this
 have n:∀ K:Bool→O R,Cj N K=K true:=fun K=>Z7 (c.le (by omega))
 have heqI:∀ K:Bool→O R,Hj N (As z) false (As z) false K=K true:=fun K=>by
  rw[wy (c.le (by omega)),decide_eq_true rfl]
 have heqQ:∀ K:Bool→O R,Dn N y.av false (cq q) false K=K true:=fun K=>by
  rw[iU y1 (c.le (by omega)),decide_eq_true rfl]
 rw[Im];unfold F2
 rw[C,G,k]
 have second:∀ (s:LA) (w:Int),((decide ((((Lg q).length:Nat):Int)>4096))=false→s=y.av∧w=0) →
   (cond ((decide ((((Lg q).length:Nat):Int)>4096))==false) (cond ((w==0)==true) (cond (Nat.ble 3 (s.length)) (Cs N [(.bool n2),(.imm (Ab lb) lb.length 1 false false),(.imm (Ab lc) lc.length 1 false false)] (false||(false||false)) (fun ab=>(Dn N (s.take 3) false ab false (fun ac=>(K (cond true (cond false true (cond true ac false)) false)))))) none) (K false)) (K true))=K true:=by
  intro s w h
  by_cases b:decide ((((Lg q).length:Nat):Int)>4096)=false
  ·obtain⟨rfl,rfl⟩:=h b
   rw[b,show(false==false)=true by rfl,ct,show(((0:Int)==0)==true)=true by rfl,ct,Kr,ct,Eh,I,heqQ];rfl
  ·have:decide ((((Lg q).length:Nat):Int)>4096)=true:=by simpa using b
   rw[this,show(true==false)=false by rfl,cf]
 have d:∀ K':LA→Int→O R,(∀ (s:LA) (w:Int),s.length=3→((decide ((((Lg q).length:Nat):Int)>4096))=false→s=y.av∧w=0)→K' s w=K true)→Di N (Lg q) K'=K true:=by
  intro K' h
  rw[y2]
  have t:=nO (Lg q)
  by_cases f:4096<Tn (Lg q)
  ·rw[if_pos f]
   refine h _ _ rfl fun e=>?_
   rw[decide_eq_false_iff_not] at e
   omega
  ·rw[if_neg f]
   exact h _ _ rfl fun _=>⟨rfl,rfl⟩
 have sz2:∀ u:LA,u.length=2→((Nat.beq 0 0)&&((Nat.beq (u.length) 2)&&(Nat.beq 2 2)))=true:=fun u h=>by rw[h];rfl
 have sz3':∀ u:LA,u.length=3→((Nat.beq 0 0)&&((Nat.beq (u.length) 3)&&(Nat.beq 3 3)))=true:=fun u h=>by rw[h];rfl
 have body:∀ (u:LA) (x0:Int),u.length=2→((decide ((((Fo z).length:Nat):Int)>4096))=false→u=As z∧x0=0) →
   (cond ((Nat.beq 0 0)&&((Nat.beq (u.length) 2)&&(Nat.beq 2 2))) (Di N (Lg q) (fun s w=>(cond ((Nat.beq 0 0)&&((Nat.beq (s.length) 3)&&(Nat.beq 3 3))) (Cj N (fun y=>(cond (y==true) (cond ((decide ((((Fo z).length:Nat):Int)>4096))==false) (cond ((x0==0)==true) (cond (Nat.ble 2 (u.length)) (Fz N [(.bool n1),(.imm (Ab la) la.length 1 false false)] (false||false) (fun z=>(Hj N (u.take 2) false z false (fun aa=>(cond ((cond true (cond false true (cond true aa false)) false)==true) (cond ((decide ((((Lg q).length:Nat):Int)>4096))==false) (cond ((w==0)==true) (cond (Nat.ble 3 (s.length)) (Cs N [(.bool n2),(.imm (Ab lb) lb.length 1 false false),(.imm (Ab lc) lc.length 1 false false)] (false||(false||false)) (fun ab=>(Dn N (s.take 3) false ab false (fun ac=>(K (cond true (cond false true (cond true ac false)) false)))))) none) (K false)) (K true)) (K false)))))) none) (K false)) (cond ((decide ((((Lg q).length:Nat):Int)>4096))==false) (cond ((w==0)==true) (cond (Nat.ble 3 (s.length)) (Cs N [(.bool n2),(.imm (Ab lb) lb.length 1 false false),(.imm (Ab lc) lc.length 1 false false)] (false||(false||false)) (fun ad=>(Dn N (s.take 3) false ad false (fun ae=>(K (cond true (cond false true (cond true ae false)) false)))))) none) (K false)) (K true))) (K false)))) none))) none)=K true:=by
  intro u x0 L M
  rw[sz2 u L,ct]
  refine d _ fun s w S v=>?_
  rw[sz3' s S,ct,n,show(true==true)=true by rfl,ct]
  by_cases b:decide ((((Fo z).length:Nat):Int)>4096)=false
  ·obtain⟨rfl,rfl⟩:=M b
   rw[b,show(false==false)=true by rfl,ct,show(((0:Int)==0)==true)=true by rfl,ct,Tm,ct,D,iV,heqI,show((cond true (cond false true (cond true true false)) false)==true)=true by rfl,ct]
   exact second s w v
  ·have e:decide ((((Fo z).length:Nat):Int)>4096)=true:=by simpa using b
   rw[e,show(true==false)=false by rfl,cf]
   exact second s w v
 have t:=nO (Fo z)
 by_cases f:4096<Tn (Fo z)
 ·rw[if_pos f]
  refine body _ _ rfl fun e=>?_
  rw[decide_eq_false_iff_not] at e
  omega
 ·rw[if_neg f]
  exact body _ _ rfl fun _=>⟨rfl,rfl⟩
end
end Gx

namespace Gx
open Go Go.Proofs
section
variable {R:Type}
theorem xQ {s:List UInt8} (h:s.all Be=true) (n:Nat):(s.take n).all Be=true:=by
 rw[List.all_eq_true] at h ⊢;exact fun x b=>h x (List.mem_of_mem_take b)
theorem xR {s:List UInt8} (h:s.all Be=true) (n:Nat):(s.drop n).all Be=true:=by
 rw[List.all_eq_true] at h ⊢;exact fun x b=>h x (List.mem_of_mem_drop b)
theorem lG {c:Nat} {s:List UInt8} (h:s.all Be=true):(El c s).all Be=true:=by
 unfold El
 rw[List.all_append,h,Bool.and_true,List.all_eq_true]
 intro x b
 rw[List.eq_of_mem_replicate b];decide
theorem s5 (c:Nat) (s:List UInt8):B7 (El c s)=B7 s:=MX _ _
theorem qS {c u:Nat} (k:1≤c):Do ((El c (En u)).take ((El c (En u)).length - c))=true:=by
 have l:=List.length_pos_iff.2 (Rq u)
 by_cases h:(En u).length≤c
 ·have e:(El c (En u)).length=c+1:=by unfold El;rw[List.length_append,List.length_replicate];omega
  rw[e,show c+1 - c=1 by omega]
  unfold El
  rw[show c+1 - (En u).length=(c - (En u).length)+1 by omega,List.replicate_succ]
  simp only[List.cons_append,List.take_succ_cons,List.take_zero]
  decide
 ·have e:El c (En u)=En u:=by unfold El;rw[show c+1 - (En u).length=0 by omega];rfl
  rw[e]
  have i:0<u:=by
   rcases Nat.eq_zero_or_pos u with b | b
   ·subst b;rw[C5 (by omega)] at h;simp at h;omega
   ·exact b
  have d:=PS u i
  refine dy (xQ (Jo u) _) ?_ ?_
  ·intro e;have:=congrArg List.length e;rw[List.length_take] at this;simp at this;omega
  ·cases f:En u with
   | nil=>exact absurd f (Rq u)
   | cons a r =>
    rw[f] at d h
    obtain⟨m,j⟩:∃ m,(a::r).length - c=m+1:=⟨(a::r).length - c - 1,by omega⟩
    rw[j,List.take_succ_cons]
    simpa using d
theorem vX {c u:Nat} (e:1≤c):MW ((El c (En u)).drop ((El c (En u)).length - c))=true:=by
 have b:=xR (lG (c:=c) (Jo u)) ((El c (En u)).length - c)
 have f:=(XN c (En u)).1
 unfold MW
 rw[b,Bool.true_and]
 cases d:(El c (En u)).drop ((El c (En u)).length - c) with
 | nil=>have:=congrArg List.length d;rw[List.length_drop] at this;simp at this;omega
 | cons a r=>rfl
theorem xy (z:Int) (s:List UInt8):CI z s=(if decide (z<0)=true then [45] else [])++s:=by
 unfold CI
 by_cases h:z<0
 ·rw[if_pos h,if_pos (by simpa using h)];rfl
 ·rw[if_neg h,if_neg (by simpa using h)];rfl
theorem lH (c:Nat):B7 (49::List.replicate c 48)=10 ^ c:=by
 rw[Qv,List.length_replicate]
 have:=MX c []
 rw[List.append_nil] at this
 rw[this]
 show 1*10 ^ c+0=10 ^ c
 omega
theorem xz {z:Int} {c:Nat} (d:1≤c):IA (pt z c)=false:=by
 rw[←Bool.not_eq_true];intro b
 refine nL (c:=46) (by decide) (by decide) (Kj b) ?_
 unfold pt zQ CI
 rw[if_neg (show ¬ c=0 by omega)]
 split<;>simp
theorem xS {N c:Nat} {z:Int} (m:fit (40*(pt z c).length+200) N):∃ x:RatD,x.can (mkRat z (10 ^ c))∧∀ K:LA→Int→O R,Di N (pt z c) K=if 4096<Tn (pt z c) then K [(.bool false),.nsl,.nsl] 8 else K x.av 0:=by
 have I:=m.1;have L:=m.2
 rcases Nat.eq_zero_or_pos c with v | v
 ·subst v
  rw[dA] at I L ⊢
  rw[dA] at m
  obtain⟨x,x1,x2⟩:=Ti (R:=R) (N:=N) (s:=Fo z) (n:=Fo z) (d:=[49]) (fun K=>lD (E1 _) (by omega)) (Kj (E1 _)) (by decide) (by decide) (UP (Kj (E1 _))) (m.le (by rw[List.length_singleton];omega))
  rw[O7,show B7 [49]=1 by decide] at x1
  exact⟨x,x1,x2⟩
 ·have e:pt z c=(if decide (z<0)=true then [45] else [])++((El c (En z.natAbs)).take ((El c (En z.natAbs)).length - c)++46::(El c (En z.natAbs)).drop ((El c (En z.natAbs)).length - c)):=by
   unfold pt zQ
   rw[if_neg (show ¬ c=0 by omega),xy,List.append_assoc];rfl
  have A:=qS (c:=c) (u:=z.natAbs) v
  have B:=vX (c:=c) (u:=z.natAbs) v
  have i:=lG (c:=c) (Jo z.natAbs)
  have j:=s5 c (En z.natAbs)
  have D:=(XN c (En z.natAbs)).1
  rw[Jp] at j
  generalize El c (En z.natAbs)=b at *
  have C:b.take (b.length - c)++b.drop (b.length - c)=b:=List.take_append_drop _ _
  have k:(b.drop (b.length - c)).length=c:=by rw[List.length_drop];omega
  have l:(b.take (b.length - c)).length=b.length - c:=by rw[List.length_take];omega
  have F:b.length+1≤(pt z c).length:=by
   rw[e,List.length_append,List.length_append,List.length_cons,l,k];omega
  have M:((if decide (z<0)=true then [45] else [])++b:List UInt8).length≤b.length+1:=by split<;>simp
  have S:Jk ((if decide (z<0)=true then [45] else [])++b)=true:=by
   by_cases q:z<0
   ·rw[if_pos (by simpa using q)];exact i
   ·rw[if_neg (by simpa using q),List.nil_append]
    unfold Jk
    split
    ·rename_i r _ 
     simp only[List.all_cons,Bool.and_eq_true] at i
     exact absurd i.1 (by decide)
    ·exact i
  have T:Jj ((if decide (z<0)=true then [45] else [])++b)=z:=by
   by_cases q:z<0
   ·rw[if_pos (by simpa using q)]
    show -((B7 b:Nat):Int)=z
    rw[j];omega
   ·rw[if_neg (by simpa using q),List.nil_append]
    unfold Jj
    split
    ·rename_i r _ 
     simp only[List.all_cons,Bool.and_eq_true] at i
     exact absurd i.1 (by decide)
    ·rw[j];omega
  have t:∀ ch ∈ pt z c,ch.toNat<128:=by
   intro ch f
   rw[e] at f
   have G:∀ x ∈ b,x.toNat<128:=HY i
   simp only[List.mem_append,List.mem_cons] at f
   rcases f with f | f | f | f
   ·split at f
    ·simp at f;subst f;decide
    ·cases f
   ·exact G _ (List.mem_of_mem_take f)
   ·subst f;decide
   ·exact G _ (List.mem_of_mem_drop f)
  obtain⟨x,x1,x2⟩:=Ti (R:=R) (N:=N) (s:=pt z c) (n:=(if decide (z<0)=true then [45] else [])++b) (d:=49::List.replicate c 48) (fun K=>by
   rw[e]
   have:=lE (R:=R) (N:=N) (e:=decide (z<0)) (K:=K) A B (by rw[l,k];omega) (by rw[l,k];omega)
   rw[this,C,k]) S (by
    rw[List.all_cons,Bool.and_eq_true]
    refine⟨by decide,?_⟩
    rw[List.all_eq_true];intro y U;rw[List.eq_of_mem_replicate U];decide) (by rw[lH];exact Nat.pow_pos (by omega)) t (m.le (by rw[List.length_cons,List.length_replicate];omega))
  rw[T,lH] at x1
  exact⟨x,x1,x2⟩
theorem vY {q:Rat} {P:Nat} (h:q.den∣10 ^ P):mkRat (q.num*((10 ^ P:Nat):Int)/(q.den:Int)) (10 ^ P)=q:=by
 obtain⟨k,b⟩:=h
 have d:=q.den_pos
 have c:0<k:=by
  rcases Nat.eq_zero_or_pos k with e | e
  ·subst e
   have:0<10 ^ P:=Nat.pow_pos (by omega)
   omega
  ·exact e
 rw[b]
 have e:q.num*((q.den*k:Nat):Int)/(q.den:Int)=q.num*(k:Int):=by
  rw[Int.natCast_mul,←Int.mul_assoc,Int.mul_comm q.num,Int.mul_assoc,Int.mul_ediv_cancel_left _ (by omega)]
 rw[e,Rat.mkRat_mul_right (by omega)]
 exact Rat.mkRat_self q
theorem vZ (q:Rat):(sC q ((q.num/(q.den:Int):Int):Rat)==0)=decide (q.den=1):=by
 have f:=q.den_pos
 by_cases h:q.den=1
 ·have e:((q.num/(q.den:Int):Int):Rat)=q:=by
   rw[h,show q.num/((1:Nat):Int)=q.num by simp]
   have c:=Rat.mkRat_self q
   rw[h,mu] at c;exact c
  rw[e,decide_eq_true h]
  unfold sC
  rw[if_neg (by grind),if_neg (by grind)];rfl
 ·rw[decide_eq_false h,beq_eq_false_iff_ne]
  intro b
  have:q=((q.num/(q.den:Int):Int):Rat):=by
   unfold sC at b
   split at b
   ·simp at b
   ·split at b
    ·simp at b
    ·grind
  have d:=congrArg Rat.den this
  rw[Rat.den_intCast] at d
  exact h d
theorem s6 {N:Nat} {n2:Bool} {lb lc:List Nat} (B:Ad lb) (C:Ad lc) {K:Bool→O R} (d:fit (400*(lb.length+lc.length)+200000) N) :
  G1 N n2 (Ab lb) lb.length false false (Ab lc) lc.length false false K=K true:=by
 have V:=d.1;have X:=d.2
 let x:RatD:=⟨n2,.of lb false false,.of lc false false⟩
 have i:x.ok:=⟨B,C⟩
 have Y:x.m≤lb.length+lc.length:=Nat.max_le.2 ⟨by show lb.length≤_;omega,by show lc.length≤_;omega⟩
 have D:=So x i
 have f:∀ K:Bool→O R,Cj N K=K true:=fun K=>Z7 (d.le (by omega))
 have F:∀ K:LA→O R,Cs N [(.bool n2),(.imm (Ab lb) lb.length 1 false false),(.imm (Ab lc) lc.length 1 false false)] (false||(false||false)) K=K (cq x.q):=fun K=>E5 (x:=x) i (d.le (by omega))
 have G:∀ K:LA→O R,Q7 N [(.bool n2),(.imm (Ab lb) lb.length 1 false false),(.imm (Ab lc) lc.length 1 false false)] (false||(false||false)) K=K (As (x.q.num/(x.q.den:Int))):=fun K=>pk (x:=x) i (d.le (by omega))
 have I:(Ae (x.q.num/(x.q.den:Int)).natAbs).length≤qm x.q:=Nat.le_trans (An (kz x.q)) (FG x.q)
 have L:∀ K:LA→O R,Q6 N (As (x.q.num/(x.q.den:Int))) false K=K (cq ((x.q.num/(x.q.den:Int):Int):Rat)):=fun K=>ym (d.le (by omega))
 have M:=xE x.q
 have S:∀ K:Int→O R,K4 N [(.bool n2),(.imm (Ab lb) lb.length 1 false false),(.imm (Ab lc) lc.length 1 false false)] (false||(false||false)) (cq ((x.q.num/(x.q.den:Int):Int):Rat)) false K=K (sC x.q ((x.q.num/(x.q.den:Int):Int):Rat)):=fun K=>by
  have:=iC (R:=R) (N:=N) (x:=x) (y:=sG ((x.q.num/(x.q.den:Int):Int):Rat)) (o:=(false||(false||false))) (o':=false) (K:=K) i (XI _) (by rw[tK];exact d.le (by omega))
  rw[iB] at this;exact this
 rw[Mp];unfold Ji
 rcases UR (R:=R) (N:=N) (x:=x) (o:=(false||(false||false))) i (d.le (by omega)) with⟨P,l,T,_,n⟩ | ⟨_,n⟩
 ·refine Eq.trans (n _) ?_
  rw[show(!true)=false by rfl,cf]
  have j:=vY l
  have hP0:P=0↔x.q.den=1:=by
   constructor
   ·intro h;rw[h,Nat.pow_zero] at l;exact Nat.dvd_one.1 l
   ·intro h;have:=T 0 (by rw[h];exact Nat.one_dvd _);omega
  generalize x.q.num*((10 ^ P:Nat):Int)/(x.q.den:Int)=z at *
  by_cases b:decide ((((pt z P).length:Nat):Int)>4096)=true
  ·rw[b,ct,f]
  ·have b:decide ((((pt z P).length:Nat):Int)>4096)=false:=by simpa using b
   have U:(pt z P).length≤4096:=by rw[decide_eq_false_iff_not] at b;omega
   have s:=nO (pt z P)
   obtain⟨y,y1,y2⟩:=xS (R:=R) (N:=N) (z:=z) (c:=P) (d.le (by omega))
   rw[j] at y1
   have v:∀ K:LA→Int→O R,∃ (t:LA) (u:Int),t.length=2∧(u==0)=decide (x.q.den=1)∧D3 N (pt z P) K=K t u:=fun K=>by
    by_cases A:P=0
    ·have k:=hP0.1 A
     subst A
     rw[dA] at s U ⊢
     refine⟨_,_,?_,?_,(Wh (E1 z) (d.le (by omega))).trans (if_neg (by omega))⟩
     ·rfl
     ·rw[decide_eq_true k];rfl
    ·refine⟨_,_,?_,?_,nK (xz (by omega)) (d.le (by omega))⟩
     ·rfl
     ·rw[decide_eq_false (fun e=>A (hP0.2 e))];rfl
   rw[b,cf,y2,if_neg (by omega),zT,ct]
   obtain⟨t,u,t1,t2,t3⟩:=v _
   refine Eq.trans t3 ?_
   rw[show((Nat.beq 0 0)&&((Nat.beq (t.length) 2)&&(Nat.beq 2 2)))=true by rw[t1];rfl,ct,G,L,S,f,show(true==true)=true by rfl,ct,show((cond true ((0:Int)==0) false)==true)=true by rfl,ct,Kr,ct,Eh,F,iU y1 (d.le (by omega)),decide_eq_true rfl,t2,vZ]
   simp
 ·refine Eq.trans (n _) ?_
  rw[show(!false)=true by rfl,ct,show((([]:List UInt8)==[])==true)=true by rfl,ct,f];rfl
end
end Gx
