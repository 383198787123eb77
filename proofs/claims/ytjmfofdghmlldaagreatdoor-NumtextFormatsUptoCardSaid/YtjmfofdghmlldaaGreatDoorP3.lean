/- A part of the proof: what it holds is said by each theorem. -/
import Derived.Laws.BitsLemmas
import Derived.Laws.RangeAny
import Derived.Laws.RangeString
import Derived.Lib.AtoiAllCases
import Derived.Lib.IndexMore
import Derived.Test.YtjmfofdghmlldaaGreatDoorP2
set_option linter.unusedVariables false
set_option linter.defProp false
set_option linter.unusedSimpArgs false
namespace Gx
open Go Go.Proofs
section
variable {R:Type}
def Aq (z:Int):LA:=Bf (decide (z<0)) (.of (Ac z.natAbs) false false)
theorem JI (z:Int) (K:LA→O R):(cond ((Nat.beq 0 0)&&((Nat.beq (List.length (Aq z)) 2)&&(Nat.beq 2 2))) (cond (Nat.ble 2 (List.length (Aq z))) (K (List.take 2 (Aq z))) none) none)=K (Aq z):=rfl
theorem tb (z w:Int):setCells (Aq z) 0 (Aq w)=Aq w:=rfl
theorem MJ (z:Int):List.take 2 (Aq z)=Aq z:=rfl
theorem Jc (z:Int):Nat.ble 2 (List.length (Aq z))=true:=rfl
theorem Ad0 (z:Int):Nat.beq (List.length (Aq z)) 2=true:=rfl
theorem wI (v:Nat):List.take ((Ac v).length*1) (Aa (Ac v))=Aa (Ac v):=A0 (Ab _) (Ad v)
theorem C9 {N:Nat} {neg:Bool} {l:List Nat} {n:Nat} {t o:Bool} {K:LA→O R} (b:n=l.length) (d:Ae l) (e:fit l.length N):Ef N neg (Aa l) n t o K=K (Aq (if neg then -(val l:Int) else (val l:Int))):=by
 obtain⟨c1,f⟩:=Kd (z:=if neg then -(val l:Int) else (val l:Int)) (c:=neg) (m:=val l) rfl
 rw[V'];unfold bU
 rw[Ck b d e,wI]
 unfold Aq
 rw[←c1,f]
 cases neg
 ·rfl
 ·rw[show((true:Bool)==true)=true by rfl,ct,xH];simp[Bf,LS.av]
theorem A9 {N:Nat} {v:Int} {K:LA→O R} (c:-9223372036854775808≤v∧v≤9223372036854775807) (hN:2000≤N):A8 N v K=K (Aq v):=by
 have b:v.natAbs<18446744073709551616:=by omega
 have d:=R5 b
 rw[EL];unfold CA
 by_cases h:v<0
 ·have e:IntKind.wrap .u64 (IntKind.wrap .u64 (IntKind.wrap .i64 ((0:Int) - IntKind.wrap .i64 (v+1)))+1)=(v.natAbs:Int):=by
   rw[i64 (a:=v+1) (by omega),i64 (by omega),HB,HB];omega
  rw[decide_eq_true h,ct,e,Wk b (by omega),wI,C9 rfl (Ab _) ⟨by omega,by omega⟩,Ad]
  have:(if true=true then -(v.natAbs:Int) else (v.natAbs:Int))=v:=by rw[if_pos rfl];omega
  rw[this];exact JI _ _
 ·have e:IntKind.wrap .u64 v=(v.natAbs:Int):=by rw[HB];omega
  rw[decide_eq_false h,cf,e,Wk b (by omega),wI,C9 rfl (Ab _) ⟨by omega,by omega⟩,Ad]
  have:(if false=true then -(v.natAbs:Int) else (v.natAbs:Int))=v:=by rw[if_neg (by decide)];omega
  rw[this];exact JI _ _
theorem Jd {N:Nat} {n:Bool} {s:LS} {o:Bool} {K:LA→O R} (b:Ae s.l) (c:fit s.l.length N):E3 N (Bf n s) o K=K (Aq (An n s)):=by
 rw[WB];unfold bV
 rw[Gn,F5,C9 rfl b c];exact JI _ _
theorem lR {N:Nat} {n:Bool} {s:LS} {o:Bool} {K:Int→O R} (b:Ae s.l) (c:fit s.l.length N):Gl N (Bf n s) o K=K (An n s).sign:=by
 rw[WD];unfold bW
 rw[Q7,ct,SH,Jd b c,Ad0,show((true&&(true&&(!false))))=true by rfl,ct]
 have e:setCells (Bf n s) 0 (Aq (An n s))=Aq (An n s):=rfl
 rw[e]
 generalize An n s=z
 unfold Aq
 rw[Gn]
 rcases Int.lt_trichotomy z 0 with h | h | h
 ·rw[decide_eq_true h,ct,Int.sign_eq_neg_one_of_neg h]
 ·subst h;rfl
 ·rw[decide_eq_false (by omega),cf,F5]
  have:(Ac z.natAbs).length≠0:=fun d=>by have:=A2.1 d;omega
  simp only[LS.l]
  rw[gL this,cf,Int.sign_eq_one_of_pos h]
theorem ot {N:Nat} {n:Bool} {s:LS} {o:Bool} {K:LA→O R} (b:Ae s.l) (c:fit s.l.length N):R9 N (Bf n s) o K=K (Aq (-An n s)):=by
 rw[dp];unfold kA
 rw[Gn,F5,C9 rfl b c,←Aa2];exact JI _ _
theorem zB {N:Nat} {n:Bool} {s:LS} {o:Bool} {K:LA→O R} (b:Ae s.l) (c:fit s.l.length N):MC N (Bf n s) o K=K (Aq ((An n s).natAbs:Int)):=by
 rw[dk];unfold js
 rw[F5,C9 rfl b c,Ba];exact JI _ _
theorem wJ {N:Nat} {n1 n2:Bool} {s1 s2:LS} {o1 o2:Bool} {K:LA→O R} (b:Ae s1.l) (c:Ae s2.l) (d:fit (s1.l.length+s2.l.length) N):Nx N (Bf n1 s1) o1 (Bf n2 s2) o2 K=K (Aq (An n1 s1*An n2 s2)):=by
 have e:(Ac (val s1.l*val s2.l)).length≤s1.l.length+s2.l.length:=A4 (by rw[Nat.pow_add];exact Nat.mul_lt_mul'' (Bi b) (Bi c))
 rw[eM];unfold k_
 rw[Gn,Gn,F5,F5,yw rfl rfl b c d,wI,C9 rfl (Ab _) (d.le e),Ad]
 have f:An n1 s1*An n2 s2=if (!(n1==n2)) then -((val s1.l*val s2.l:Nat):Int) else ((val s1.l*val s2.l:Nat):Int):=by
  unfold An;cases n1<;>cases n2<;>simp[Int.mul_neg,Int.neg_mul]
 rw[←f];exact JI _ _
theorem lS {N:Nat} {n1 n2:Bool} {s1 s2:LS} {o1 o2:Bool} {K:LA→O R} (f:Ae s1.l) (i:Ae s2.l) (b:fit (s1.l.length+s2.l.length+1) N):Lp N (Bf n1 s1) o1 (Bf n2 s2) o2 K=K (Aq (An n1 s1+An n2 s2)):=by
 have v1:=Bi f
 have v2:=Bi i
 have k:=La (show s1.l.length≤s1.l.length+s2.l.length by omega)
 have m:=La (show s2.l.length≤s1.l.length+s2.l.length by omega)
 rw[dm];unfold jw
 rw[Gn,Gn]
 by_cases j:n1=n2
 ·subst j
  have c:(Ac (val s1.l+val s2.l)).length≤s1.l.length+s2.l.length+1:=A4 (by rw[Nat.pow_succ];omega)
  have d:An n1 s1+An n1 s2=if n1 then -((val s1.l+val s2.l:Nat):Int) else ((val s1.l+val s2.l:Nat):Int):=by
   unfold An;cases n1<;>simp;omega
  rw[show(n1==n1)=true by simp,ct,Gn,F5,F5,b_ rfl rfl f i b,wI,C9 rfl (Ab _) (b.le c),Ad,←d];exact JI _ _
 ·rw[show(n1==n2)=false by simp[j],cf,F5,F5,bp rfl rfl f i (b.le (by omega))]
  by_cases e:val s2.l≤val s1.l
  ·have c:(Ac (val s1.l - val s2.l)).length≤s1.l.length+s2.l.length+1:=A4 (by rw[Nat.pow_succ];omega)
   have d:An n1 s1+An n2 s2=if n1 then -((val s1.l - val s2.l:Nat):Int) else ((val s1.l - val s2.l:Nat):Int):=by
    unfold An;cases n1<;>cases n2<;>simp at j ⊢<;>omega
   rw[if_pos e,ct,Gn,wI,C9 rfl (Ab _) (b.le c),Ad,←d];exact JI _ _
  ·have c:(Ac (val s2.l - val s1.l)).length≤s1.l.length+s2.l.length+1:=A4 (by rw[Nat.pow_succ];omega)
   have d:An n1 s1+An n2 s2=if n2 then -((val s2.l - val s1.l:Nat):Int) else ((val s2.l - val s1.l:Nat):Int):=by
    unfold An;cases n1<;>cases n2<;>simp at j ⊢<;>omega
   rw[if_neg e,cf,F5,F5,bp rfl rfl i f (b.le (by omega)),if_pos (by omega),Gn,wI,C9 rfl (Ab _) (b.le c),Ad,←d];exact JI _ _
theorem wK {N:Nat} {n1 n2:Bool} {s1 s2:LS} {o1 o2:Bool} {K:LA→O R} (d:Ae s1.l) (b:Ae s2.l) (c:fit (s1.l.length+s2.l.length+1) N):CF N (Bf n1 s1) o1 (Bf n2 s2) o2 K=K (Aq (An n1 s1 - An n2 s2)):=by
 have f:(Ac (-An n2 s2).natAbs).length≤s2.l.length:=by rw[Int.natAbs_neg,Ba];exact(Az b).2
 rw[dr];unfold kE
 rw[Q7,ct,Q7,ct,SH,SH,ot b (c.le (by omega))]
 have:=lS (R:=R) (N:=N) (n1:=n1) (s1:=s1) (n2:=decide (-An n2 s2<0)) (s2:=.of (Ac (-An n2 s2).natAbs) false false) (o1:=o1) (o2:=false) (K:=fun e=>(cond ((Nat.beq 0 0)&&((Nat.beq (List.length e) 2)&&(Nat.beq 2 2))) (cond (Nat.ble 2 (List.length e)) (K (List.take 2 e)) none) none)) d (Ab _) (c.le (show s1.l.length+(Ac (-An n2 s2).natAbs).length+1≤_ by omega))
 rw[B5,←Int.sub_eq_add_neg] at this
 exact this.trans (JI _ _)
theorem zC {N:Nat} {n1 n2:Bool} {s1 s2:LS} {o1 o2:Bool} {K:LA→O R} (b:Ae s1.l) (c:Ae s2.l) (d:fit (3*(s1.l.length+s2.l.length)+4) N):WR N (Bf n1 s1) o1 (Bf n2 s2) o2 K=K (Aq ((Nat.gcd (An n1 s1).natAbs (An n2 s2).natAbs:Nat):Int)):=by
 have e:(Ac (Nat.gcd (val s1.l) (val s2.l))).length≤s1.l.length+s2.l.length:=by
  rcases Nat.eq_zero_or_pos (val s1.l) with h | h
  ·rw[h,Nat.gcd_zero_left];have:=(Az c).2;omega
  ·have:=Al (Nat.gcd_le_left (val s2.l) h);have:=(Az b).2;omega
 rw[di];unfold jn
 rw[F5,F5,yz rfl rfl b c d,wI,C9 rfl (Ab _) (d.le (by omega)),Ad,Ba,Ba];exact JI _ _
theorem JJ {N:Nat} {n1:Bool} {s1:LS} {g:Nat} {o1 o2:Bool} {K:LA→LA→Bool→O R} (e:Ae s1.l) (j:0<g) (i:g∣val s1.l) (d:fit (s1.l.length+2*(Ac g).length+4) N):C8 N (Bf n1 s1) o1 (Aq (g:Int)) o2 K=K (Aq (An n1 s1/(g:Int))) (Aq 0) true:=by
 have b:Aq (g:Int)=Bf false (.of (Ac g) false false):=by
  unfold Aq;rw[decide_eq_false (by omega),Int.natAbs_natCast]
 have hq:(Ac (val s1.l/g)).length≤s1.l.length:=Nat.le_trans (Al (Nat.div_le_self _ _)) (Az e).2
 rw[b,Uq];unfold Wl
 rw[F5,F5,show(LS.of (Ac g) false false).l=Ac g by rfl]
 rw[Nz rfl rfl e (Ab _) (by rw[Ad];omega) d,Ad,Nat.mod_eq_zero_of_dvd i,show(!true)=false by rfl,cf,Gn,Gn,wI,C9 rfl (Ab _) (d.le (by omega)),Gn,wI,C9 rfl (Ab _) (d.le (by simp[Bx])),Ad,Ad]
 have k:(if n1=true then -((0:Nat):Int) else ((0:Nat):Int))=0:=by cases n1<;>rfl
 have m:(if (!(n1==false))=true then -((val s1.l/g:Nat):Int) else ((val s1.l/g:Nat):Int))=An n1 s1/(g:Int):=by
  obtain⟨c,b⟩:=i
  have n:val s1.l/g=c:=by rw[b,Nat.mul_div_cancel_left _ j]
  rw[n];unfold An;rw[b]
  cases n1
  ·simp;rw[Int.mul_ediv_cancel_left _ (by omega)]
  ·simp only[Bool.true_beq,Bool.not_false,if_true]
   rw[show -((g*c:Nat):Int)=(g:Int)*(-(c:Int)) by rw[Int.mul_neg];simp,Int.mul_ediv_cancel_left _ (by omega)]
 rw[k,m]
 generalize An n1 s1/(g:Int)=q
 have r0:∀ (f:Bool→O R),Qc (Aq 0) f=f false:=fun f=>Gn
 rw[show((Nat.beq 0 0)&&((Nat.beq (List.length (Aq q)) 2)&&(Nat.beq 2 2)))=true by rfl,ct,show((Nat.beq 0 0)&&((Nat.beq (List.length (Aq 0)) 2)&&(Nat.beq 2 2)))=true by rfl,ct,r0,cf]
 rfl
end
end Gx

namespace Gx
open Go Go.Proofs
section
variable {R:Type}
def ZV (q:Rat):RatD:=⟨decide (q.num<0),.of (Ac q.num.natAbs) false false,.of (Ac q.den) false false⟩
def cq (q:Rat):LA:=(ZV q).av
theorem qe (q:Rat):(ZV q).can q:=⟨rfl,rfl,rfl⟩
theorem Qm (q:Rat):(ZV q).q=q:=(qe q).q
theorem Kq (q:Rat):(ZV q).ok:=(qe q).ok
theorem Wt (q:Rat):(ZV q).m=qm q:=(qe q).m
theorem ek (q:Rat) (K:LA→O R):(cond ((Nat.beq 0 0)&&((Nat.beq (List.length (cq q)) 3)&&(Nat.beq 3 3))) (cond (Nat.ble 3 (List.length (cq q))) (K (List.take 3 (cq q))) none) none)=K (cq q):=rfl
theorem Z2 (q:Rat):Nat.ble 2 (List.length (cq q))=true:=rfl
theorem Pq (q:Rat):List.take 2 (cq q)=Aq q.num:=rfl
theorem Ace:cq 0=[(.bool false),(.imm [] 0 1 false false),(.imm [(.int .u32 1)] 1 1 false false)]:=by
 have e:cq 0=[.bool false,.imm (Aa (Ac 0)) (Ac 0).length 1 false false,.imm (Aa (Ac 1)) (Ac 1).length 1 false false]:=rfl
 rw[e,Hg];rfl
theorem wL {N:Nat} {K:LA→O R}:IF N K=K (cq 0):=by
 rw[WF];unfold bX
 rw[Ace]
theorem Afb {N:Nat} {z:Int} {o:Bool} {K:LA→O R} (b:fit (Ac z.natAbs).length N):R9 N (Aq z) o K=K (Aq (-z)):=by
 have:=ot (R:=R) (N:=N) (n:=decide (z<0)) (s:=.of (Ac z.natAbs) false false) (o:=o) (K:=K) (Ab _) b
 rw[B5] at this;exact this
theorem xO {N:Nat} {z:Int} {o:Bool} {K:Int→O R} (b:fit (Ac z.natAbs).length N):Gl N (Aq z) o K=K z.sign:=by
 have:=lR (R:=R) (N:=N) (n:=decide (z<0)) (s:=.of (Ac z.natAbs) false false) (o:=o) (K:=K) (Ab _) b
 rw[B5] at this;exact this
theorem zD {N:Nat} {z w:Int} {o o':Bool} {K:LA→O R} (b:fit ((Ac z.natAbs).length+(Ac w.natAbs).length) N):Nx N (Aq z) o (Aq w) o' K=K (Aq (z*w)):=by
 have:=wJ (R:=R) (N:=N) (n1:=decide (z<0)) (s1:=.of (Ac z.natAbs) false false) (n2:=decide (w<0)) (s2:=.of (Ac w.natAbs) false false) (o1:=o) (o2:=o') (K:=K) (Ab _) (Ab _) b
 rw[B5,B5] at this;exact this
theorem Ad1 {N:Nat} {z w:Int} {o o':Bool} {K:LA→O R} (b:fit ((Ac z.natAbs).length+(Ac w.natAbs).length+1) N):Lp N (Aq z) o (Aq w) o' K=K (Aq (z+w)):=by
 have:=lS (R:=R) (N:=N) (n1:=decide (z<0)) (s1:=.of (Ac z.natAbs) false false) (n2:=decide (w<0)) (s2:=.of (Ac w.natAbs) false false) (o1:=o) (o2:=o') (K:=K) (Ab _) (Ab _) b
 rw[B5,B5] at this;exact this
theorem lT (z:Int):mkRat z 1=(z:Rat):=by
 apply Rat.ext
 ·rw[Rat.num_mkRat,if_neg (by decide),Nat.gcd_one_left];simp
 ·rw[Rat.den_mkRat,if_neg (by decide),Nat.gcd_one_left];simp
theorem xP (z:Int) (w:Nat) (b:w≠0):(mkRat z w).num=z/((Nat.gcd z.natAbs w:Nat):Int)∧(mkRat z w).den=w/Nat.gcd z.natAbs w:=by
 refine⟨?_,?_⟩
 ·rw[Rat.num_mkRat,if_neg b,Nat.gcd_comm w]
 ·rw[Rat.den_mkRat,if_neg b,Nat.gcd_comm w]
theorem eo {N:Nat} {n1 n2:Bool} {s1 s2:LS} {o1 o2:Bool} {K:LA→O R} (n:Ae s1.l) (i:Ae s2.l) (x:0≤An n2 s2) (d:fit (4*(s1.l.length+s2.l.length)+10) N):Gm N (Bf n1 s1) o1 (Bf n2 s2) o2 K=K (cq (mkRat (An n1 s1) (An n2 s2).natAbs)):=by
 have e:=Ba n2 s2
 have j:=Ba n1 s1
 rw[WS];unfold MD
 rw[Q7,ct,SH,lR i (d.le (by omega))]
 by_cases y:An n2 s2=0
 ·rw[y,show((0:Int).sign==0)=true by rfl,ct,wL]
  rw[show(0:Int).natAbs=0 by rfl,Rat.mkRat_zero];exact ek _ _
 ·have A:(An n2 s2).natAbs≠0:=by omega
  have q:((An n2 s2).sign==0)=false:=by rw[Int.sign_eq_one_of_pos (by omega)];rfl
  rw[q,cf,ct,Jd i (d.le (by omega)),show((Nat.beq 0 0)&&((Nat.beq (List.length (Aq (An n2 s2))) 2)&&(Nat.beq 2 2)))=true by rfl,ct]
  have rb:∀ (z:Int) (f:Bool→O R),Qc (Aq z) f=f (decide (z<0)):=fun z f=>Gn
  have rl:∀ (z:Int) (f:LA→Nat→O R),Ir 1 (List.drop 1 (Aq z)) f=f (Aa (Ac z.natAbs)) (Ac z.natAbs).length:=fun z f=>F5
  have l2:=(Az i).2
  have l1:=(Az n).2
  rw[rb,decide_eq_false (by omega),show((!false)==true)=true by rfl,ct,rl,t_,IN (a:=Ac (An n2 s2).natAbs) (b:=[1]) (m:=1) rfl rfl (d.le (by rw[e];omega)),xH]
  by_cases c:(An n2 s2).natAbs=1
  ·rw[c,Hg,show decide (([1]:List Nat)=[1])=true by decide,ct,Q7,ct,SH,Jd n (d.le (by omega)),rl,c,Hg]
   rw[lT]
   have B:cq ((An n1 s1:Int):Rat)=[.bool (decide (An n1 s1<0)),.imm (Aa (Ac (An n1 s1).natAbs)) (Ac (An n1 s1).natAbs).length 1 false false,.imm (Aa [1]) 1 1 false false]:=by
    unfold cq ZV RatD.av LS.av
    rw[Rat.num_intCast,Rat.den_intCast,Hg];rfl
   rw[B];rfl
  ·have s:decide (Ac (An n2 s2).natAbs=[1])=false:=by
    rw[decide_eq_false_iff_not];intro C
    have:=congrArg val C
    rw[Ad] at this;simp[val] at this;omega
   rw[s,cf]
   unfold Wm
   have k:0<Nat.gcd (An n1 s1).natAbs (An n2 s2).natAbs:=Nat.gcd_pos_of_pos_right _ (by omega)
   have D:(Ac (Nat.gcd (An n1 s1).natAbs (An n2 s2).natAbs)).length≤s2.l.length:=Nat.le_trans (Al (Nat.gcd_le_right _ (by omega))) (by rw[e];exact l2)
   have t:Nat.gcd (An n1 s1).natAbs (An n2 s2).natAbs∣val s1.l:=by rw[←j];exact Nat.gcd_dvd_left _ _
   have u:Nat.gcd (An n1 s1).natAbs (An n2 s2).natAbs∣val s2.l:=by rw[←e];exact Nat.gcd_dvd_right _ _
   obtain⟨F,G⟩:=xP (An n1 s1) (An n2 s2).natAbs A
   rw[Q7,ct,Q7,ct,SH,SH,zC n i (d.le (by omega))]
   generalize I:Nat.gcd (An n1 s1).natAbs (An n2 s2).natAbs=g at *
   rw[show((Nat.beq 0 0)&&((Nat.beq (List.length (Aq (g:Int))) 2)&&(Nat.beq 2 2)))=true by rfl,ct,ct,show Nat.ble 2 (List.length (Aq (g:Int)))=true by rfl,ct,MJ,JJ n k t (d.le (by omega))]
   rw[show ∀ z:Int,((Nat.beq 0 0)&&((Nat.beq (List.length (Aq z)) 2)&&(Nat.beq 2 2)))=true from fun z=>rfl,ct,show((Nat.beq 0 0)&&((Nat.beq (List.length (Aq 0)) 2)&&(Nat.beq 2 2)))=true by rfl,ct,ct,JJ i k u (d.le (by omega))]
   have v:An n2 s2/(g:Int)=(((An n2 s2).natAbs/g:Nat):Int):=by
    rw[show An n2 s2=(((An n2 s2).natAbs:Nat):Int) by omega];rfl
   rw[show ∀ z:Int,((Nat.beq 0 0)&&((Nat.beq (List.length (Aq z)) 2)&&(Nat.beq 2 2)))=true from fun z=>rfl,ct,ct,rb,v,decide_eq_false (by omega),cf,show ∀ z:Int,Nat.ble 2 (List.length (Aq z))=true from fun z=>rfl,ct,rl,Int.natAbs_natCast,←G]
   rw[←F];rfl
theorem ou {N:Nat} {z w:Int} {o o':Bool} {K:LA→O R} (b:0≤w) (c:fit (4*((Ac z.natAbs).length+(Ac w.natAbs).length)+10) N):Gm N (Aq z) o (Aq w) o' K=K (cq (mkRat z w.natAbs)):=by
 have:=eo (R:=R) (N:=N) (n1:=decide (z<0)) (s1:=.of (Ac z.natAbs) false false) (n2:=decide (w<0)) (s2:=.of (Ac w.natAbs) false false) (o1:=o) (o2:=o') (K:=K) (Ab _) (Ab _) (by rw[B5];exact b) c
 rw[B5,B5] at this;exact this
theorem Cy {N:Nat} {x:RatD} {o:Bool} {K:LA→O R} (b:x.ok) (c:fit (8*x.m+10) N):B4 N x.av o K=K (cq x.q):=by
 have m1:x.ns.l.length≤x.m:=Nat.le_max_left _ _
 have m2:x.ds.l.length≤x.m:=Nat.le_max_right _ _
 rw[XK];unfold b8
 rw[show Nat.ble 2 (List.length x.av)=true by rfl,ct,bw,Adb,lO,eo (s2:=.of x.ds.l false o) b.1 b.2 (by unfold An;simp) (c.le (show 4*(x.ns.l.length+x.ds.l.length)+10≤_ by omega))]
 have:mkRat (An x.neg x.ns) (An false (.of x.ds.l false o)).natAbs=x.q:=by rw[Ba];rfl
 rw[this];exact ek _ _
theorem Mq {N:Nat} {x:RatD} {o:Bool} {K:LA→O R} (b:x.ok) (c:fit (8*x.m+10) N):Lq N x.av o K=K (Aq (x.q.den:Int)):=by
 rw[eO];unfold kg
 rw[Is,ct,Dp,Cy b c]
 have:=bw (R:=R) (x:=ZV x.q) (f:=fun e f=>K [(.bool false),(.imm e f 1 false false)])
 refine this.trans ?_
 unfold Aq;rw[decide_eq_false (by omega),Int.natAbs_natCast];rfl
theorem Mr (x:RatD) (b:x.ok):qm x.q≤x.m+1:=by
 have m1:x.ns.l.length≤x.m:=Nat.le_max_left _ _
 have m2:x.ds.l.length≤x.m:=Nat.le_max_right _ _
 unfold qm
 by_cases h:val x.ds.l=0
 ·have:x.q=0:=by unfold RatD.q;rw[h,Rat.mkRat_zero]
  rw[this,Rat.zero_num,Rat.zero_den,Hg];simp[Bx]
 ·obtain⟨a1,_,a3⟩:=qd (An x.neg x.ns) (val x.ds.l) h
  have c:x.q.num.natAbs≤val x.ns.l:=by show(mkRat _ _).num.natAbs≤_;rw[a1,Ba];exact Nat.div_le_self _ _
  have d:x.q.den≤val x.ds.l:=by show(mkRat _ _).den≤_;rw[a3];exact Nat.div_le_self _ _
  have c1:=Nat.le_trans (Al c) (Az b.1).2
  have e:=Nat.le_trans (Al d) (Az b.2).2
  omega
theorem Aa3 (z:Int) (d:Nat) (k:Nat) (b:z.natAbs<4294967296 ^ k) (c:d<4294967296 ^ k) (e:d≠0):qm (mkRat z d)≤k:=by
 obtain⟨a1,_,a3⟩:=qd z d e
 unfold qm
 have f:(mkRat z d).num.natAbs≤z.natAbs:=by rw[a1];exact Nat.div_le_self _ _
 have i:(mkRat z d).den≤d:=by rw[a3];exact Nat.div_le_self _ _
 have c1:=A4 (Nat.lt_of_le_of_lt f b)
 have j:=A4 (Nat.lt_of_le_of_lt i c)
 omega
theorem Xw (q:Rat):q.num.natAbs<4294967296 ^ qm q:=CW (Nat.le_max_left _ _)
theorem Xx (q:Rat):q.den<4294967296 ^ qm q:=CW (Nat.le_max_right _ _)
theorem Ad2 (a b:Rat):qm (a+b)≤qm a+qm b+1:=by
 rw[Rat.add_def']
 have da:((a.den:Nat):Int).natAbs<4294967296 ^ qm a:=by rw[Int.natAbs_natCast];exact Xx a
 have db:((b.den:Nat):Int).natAbs<4294967296 ^ qm b:=by rw[Int.natAbs_natCast];exact Xx b
 refine Aa3 _ _ _ ?_ ?_ (Nat.mul_ne_zero a.den_nz b.den_nz)
 ·refine ta (K9 (Xw a) db) ?_
  have:=K9 (Xw b) da
  rwa [Nat.add_comm (qm b)] at this
 ·rw[Nat.pow_succ,Nat.pow_add]
  have:=Nat.mul_lt_mul'' (Xx a) (Xx b)
  omega
theorem qf (a b:Rat):qm (a*b)≤qm a+qm b:=by
 rw[Rat.mul_def']
 refine Aa3 _ _ _ (K9 (Xw a) (Xw b)) ?_ (Nat.mul_ne_zero a.den_nz b.den_nz)
 rw[Nat.pow_add];exact Nat.mul_lt_mul'' (Xx a) (Xx b)
theorem Aa4 (a:Rat):qm (-a)=qm a:=by unfold qm;rw[Rat.neg_num,Rat.neg_den,Int.natAbs_neg]
theorem Aa5 (a b:Rat):qm (a - b)≤qm a+qm b+1:=by rw[Rat.sub_eq_add_neg,←Aa4 b];exact Ad2 _ _
theorem Aa6 {v:Int} (h:v.natAbs<18446744073709551616):qm (v:Rat)≤2:=by
 unfold qm;rw[Rat.num_intCast,Rat.den_intCast,Hg]
 have:=R5 h
 simp;omega
theorem Afw {a:Int} {b:Nat}:mkRat a ((b:Int)).natAbs=mkRat a b:=by rw[Int.natAbs_natCast]
theorem wM {N:Nat} {x:RatD} {o:Bool} {K:LA→O R} (c:x.ok) (b:fit (16*x.m+40) N):XV N x.av o K=K (cq (-x.q)):=by
 have hq:=Mr x c
 have d:(Ac x.q.num.natAbs).length≤qm x.q:=Nat.le_max_left _ _
 have e:(Ac x.q.den).length≤qm x.q:=Nat.le_max_right _ _
 rw[eS];unfold kz
 rw[Is,ct,Dp,Cy c (b.le (by omega)),Z2,ct,Pq,Afb (b.le (show(Ac x.q.num.natAbs).length≤_ by omega)),ct,Mq c (b.le (by omega)),ou (by omega) (b.le (show 4*((Ac (-x.q.num).natAbs).length+(Ac ((x.q.den:Nat):Int).natAbs).length)+10≤_ by rw[Int.natAbs_neg,Int.natAbs_natCast];omega)),Afw]
 have:mkRat (-x.q.num) x.q.den=-x.q:=by rw[←Rat.neg_mkRat,Rat.mkRat_self]
 rw[this];exact ek _ _
theorem wN {N:Nat} {x y:RatD} {o o':Bool} {K:LA→O R} (c:x.ok) (d:y.ok) (b:fit (16*(x.m+y.m)+80) N):XW N x.av o y.av o' K=K (cq (x.q+y.q)):=by
 have e:=Mr x c
 have f:=Mr y d
 have x1:=Xw x.q
 have x2:((x.q.den:Nat):Int).natAbs<4294967296 ^ qm x.q:=by rw[Int.natAbs_natCast];exact Xx _
 have y1:=Xw y.q
 have y2:((y.q.den:Nat):Int).natAbs<4294967296 ^ qm y.q:=by rw[Int.natAbs_natCast];exact Xx _
 have L1:=A4 x1
 have L2:=A4 x2
 have L3:=A4 y1
 have L4:=A4 y2
 have z1:=K9 x1 y2
 have z2:=K9 y1 x2
 have z3:=ta (k:=qm x.q+qm y.q) z1 (by rwa [Nat.add_comm])
 have z4:=K9 x2 y2
 have M1:=A4 z1
 have M2:=A4 z2
 have M3:=A4 z3
 have M4:=A4 z4
 rw[eV];unfold lD
 rw[Is,ct,Dp,Cy c (b.le (by omega)),Is,ct,Dp,Cy d (b.le (by omega)),show ∀ q,((Nat.beq 0 0)&&((Nat.beq (List.length (cq q)) 3)&&(Nat.beq 3 3)))=true from fun q=>rfl,ct,show ∀ q,((Nat.beq 0 0)&&((Nat.beq (List.length (cq q)) 3)&&(Nat.beq 3 3)))=true from fun q=>rfl,ct,Z2,ct,ct,Mq d (b.le (by omega)),Pq,zD (b.le (show(Ac x.q.num.natAbs).length+(Ac ((y.q.den:Nat):Int).natAbs).length≤_ by omega)),Z2,ct,ct,Mq c (b.le (by omega)),Pq,zD (b.le (show(Ac y.q.num.natAbs).length+(Ac ((x.q.den:Nat):Int).natAbs).length≤_ by omega)),Ad1 (b.le (show(Ac (x.q.num*((y.q.den:Nat):Int)).natAbs).length+(Ac (y.q.num*((x.q.den:Nat):Int)).natAbs).length+1≤_ by omega)),ct,Mq c (b.le (by omega)),ct,Mq d (b.le (by omega)),zD (b.le (show(Ac ((x.q.den:Nat):Int).natAbs).length+(Ac ((y.q.den:Nat):Int).natAbs).length≤_ by omega)),ou (Int.mul_nonneg (by omega) (by omega)) (b.le (show 4*((Ac (x.q.num*((y.q.den:Nat):Int)+y.q.num*((x.q.den:Nat):Int)).natAbs).length+(Ac (((x.q.den:Nat):Int)*((y.q.den:Nat):Int)).natAbs).length)+10≤_ by omega))]
 have:mkRat (x.q.num*((y.q.den:Nat):Int)+y.q.num*((x.q.den:Nat):Int)) (((x.q.den:Nat):Int)*((y.q.den:Nat):Int)).natAbs=x.q+y.q:=by
  rw[Rat.add_def',Int.natAbs_mul,Int.natAbs_natCast,Int.natAbs_natCast]
 rw[this];exact ek _ _
theorem lU {N:Nat} {x y:RatD} {o o':Bool} {K:LA→O R} (d:x.ok) (b:y.ok) (c:fit (16*(x.m+y.m)+100) N):Ws N x.av o y.av o' K=K (cq (x.q - y.q)):=by
 have f:=Mr y b
 rw[eY];unfold lH
 rw[Is,ct,Is,ct,Dp,Dp,wM b (c.le (by omega))]
 have:=wN (R:=R) (N:=N) (x:=x) (y:=ZV (-y.q)) (o:=o) (o':=false) (K:=fun e=>(cond ((Nat.beq 0 0)&&((Nat.beq (List.length e) 3)&&(Nat.beq 3 3))) (cond (Nat.ble 3 (List.length e)) (K (List.take 3 e)) none) none)) d (Kq _) (c.le (by rw[Wt,Aa4];omega))
 rw[Qm,←Rat.sub_eq_add_neg] at this
 exact this.trans (ek _ _)
theorem tc {N:Nat} {x:RatD} {o:Bool} {K:Int→O R} (b:x.ok) (c:fit (8*x.m+10) N):JC N x.av o K=K x.q.num.sign:=by
 have hq:=Mr x b
 have d:(Ac x.q.num.natAbs).length≤qm x.q:=Nat.le_max_left _ _
 rw[XX];unfold b9
 rw[Is,ct,Dp,Cy b c,Z2,ct,Pq,xO (c.le (show(Ac x.q.num.natAbs).length≤_ by omega))]
theorem Aa7 (a b:Rat):(a - b).num.sign=lP a b:=by
 unfold lP
 by_cases h:a<b
 ·rw[if_pos h]
  have c:a - b<0:=by grind
  have:(a - b).num<0:=by
   apply Int.not_le.1;intro d
   exact absurd (Rat.num_nonneg.1 d) (Rat.not_le.2 c)
  exact Int.sign_eq_neg_one_of_neg this
 ·rw[if_neg h]
  by_cases d:b<a
  ·rw[if_pos d]
   have c:0<a - b:=by grind
   have f:0≤(a - b).num:=Rat.num_nonneg.2 (Rat.le_of_lt c)
   have i:(a - b).num≠0:=fun e=>by
    have:=Rat.num_eq_zero.1 e
    rw[this] at c;exact absurd c Rat.lt_irrefl
   exact Int.sign_eq_one_of_pos (by omega)
  ·rw[if_neg d]
   have:a=b:=Rat.le_antisymm (Rat.not_lt.1 d) (Rat.not_lt.1 h)
   rw[this,Rat.sub_self];rfl
theorem JK {N:Nat} {x y:RatD} {o o':Bool} {K:Int→O R} (b:x.ok) (c:y.ok) (d:fit (16*(x.m+y.m)+100) N):Fq N x.av o y.av o' K=K (lP x.q y.q):=by
 have e:=Mr x b
 have f:=Mr y c
 have i:=Aa5 x.q y.q
 rw[EW];unfold CS
 rw[Is,ct,Is,ct,Dp,Dp,lU b c d]
 have:=tc (R:=R) (N:=N) (x:=ZV (x.q - y.q)) (o:=false) (K:=fun g=>K g) (Kq _) (d.le (by rw[Wt];omega))
 rw[Qm,Aa7] at this
 exact this
theorem SZ {N:Nat} {x y:RatD} {o o':Bool} {K:LA→O R} (c:x.ok) (d:y.ok) (b:fit (16*(x.m+y.m)+80) N):Ny N x.av o y.av o' K=K (cq (x.q*y.q)):=by
 have e:=Mr x c
 have f:=Mr y d
 have x1:=Xw x.q
 have x2:((x.q.den:Nat):Int).natAbs<4294967296 ^ qm x.q:=by rw[Int.natAbs_natCast];exact Xx _
 have y1:=Xw y.q
 have y2:((y.q.den:Nat):Int).natAbs<4294967296 ^ qm y.q:=by rw[Int.natAbs_natCast];exact Xx _
 have L1:=A4 x1
 have L2:=A4 x2
 have L3:=A4 y1
 have L4:=A4 y2
 have M1:=A4 (K9 x1 y1)
 have M4:=A4 (K9 x2 y2)
 rw[eQ];unfold kp
 rw[Is,ct,Dp,Cy c (b.le (by omega)),Z2,ct,Is,ct,Dp,Cy d (b.le (by omega)),Z2,ct,Pq,Pq,zD (b.le (show(Ac x.q.num.natAbs).length+(Ac y.q.num.natAbs).length≤_ by omega)),ct,Mq c (b.le (by omega)),ct,Mq d (b.le (by omega)),zD (b.le (show(Ac ((x.q.den:Nat):Int).natAbs).length+(Ac ((y.q.den:Nat):Int).natAbs).length≤_ by omega)),ou (Int.mul_nonneg (by omega) (by omega)) (b.le (show 4*((Ac (x.q.num*y.q.num).natAbs).length+(Ac (((x.q.den:Nat):Int)*((y.q.den:Nat):Int)).natAbs).length)+10≤_ by omega))]
 have:mkRat (x.q.num*y.q.num) (((x.q.den:Nat):Int)*((y.q.den:Nat):Int)).natAbs=x.q*y.q:=by
  rw[Rat.mul_def',Int.natAbs_mul,Int.natAbs_natCast,Int.natAbs_natCast]
 rw[this];exact ek _ _
theorem JL {N:Nat} {v:Int} {K:LA→O R} (b:-9223372036854775808≤v∧v≤9223372036854775807) (hN:4000≤N):Mp N v K=K (cq (v:Rat)):=by
 have c:=R5 (show v.natAbs<18446744073709551616 by omega)
 rw[EU];unfold CQ
 rw[A9 b (by omega),A9 (by omega) (by omega),ou (by omega) ⟨show 100*(4*((Ac v.natAbs).length+(Ac (1:Int).natAbs).length)+10)+1000≤N by (rw[show(1:Int).natAbs=1 by rfl,Hg];simp;omega),show 4*((Ac v.natAbs).length+(Ac (1:Int).natAbs).length)+10≤1000000000 by (rw[show(1:Int).natAbs=1 by rfl,Hg];simp;omega)⟩]
 have:mkRat v (1:Int).natAbs=(v:Rat):=lT v
 rw[this];exact ek _ _
theorem YE {N:Nat} {v w:Int} {K:LA→O R} (b:-9223372036854775808≤v∧v≤9223372036854775807) (d:0≤w∧w≤9223372036854775807) (hN:4000≤N):Q6 N v w K=K (cq (mkRat v w.natAbs)):=by
 have e:=R5 (show v.natAbs<18446744073709551616 by omega)
 have c:=R5 (show w.natAbs<18446744073709551616 by omega)
 rw[kM];unfold qS
 rw[A9 b (by omega),A9 (by omega) (by omega),ou (by omega) ⟨show 100*(4*((Ac v.natAbs).length+(Ac w.natAbs).length)+10)+1000≤N by omega,show 4*((Ac v.natAbs).length+(Ac w.natAbs).length)+10≤1000000000 by omega⟩]
 exact ek _ _
end
end Gx

namespace Gx
open Go Go.Proofs
section
variable {R:Type}
theorem zE {N:Nat} {n1:Bool} {s1:LS} {o1:Bool} {K:Bool→Nat→LA→O R} (b:Ae s1.l) (c:fit s1.l.length N):kO N (Bf n1 s1) o1 K=K false (Ac (An n1 s1).natAbs).length (Aa (Ac (An n1 s1).natAbs)):=by
 rw[kP];unfold qX
 rw[F5,Td rfl b c,Cx,Ba];rfl
theorem zF {N:Nat} {n1:Bool} {s1:LS} {o1:Bool} {K:Bool→Nat→LA→O R} (b:Ae s1.l) (d:fit s1.l.length N):ib N (Bf n1 s1) o1 K=K (decide (-An n1 s1<0)) (Ac (An n1 s1).natAbs).length (Aa (Ac (An n1 s1).natAbs)):=by
 obtain⟨c1,e⟩:=Kd (z:=-An n1 s1) (c:=!n1) (m:=val s1.l) (by unfold An;cases n1<;>simp)
 rw[ic];unfold pw
 rw[Gn,F5,Td rfl b d,Cx,c1,Ba]
theorem Adc {A:Nat} (h:A≤9223372036854775808):cond true (decide ((A:Int)≤9223372036854775808)) false=true:=by
 rw[cond_true];exact decide_eq_true (by omega)
theorem Add {A:Nat} (h:A<9223372036854775808):cond true (decide ((A:Int)<9223372036854775808)) false=true:=by
 rw[cond_true];exact decide_eq_true (by omega)
theorem Ad3 {A:Nat} (h:A≤9223372036854775808):IntKind.wrap .i64 (IntKind.wrap .u64 ((0:Int) - (A:Int)))=-(A:Int):=by
 rw[HB,IntKind.wrap_i64];omega
theorem td {N:Nat} {n1:Bool} {s1:LS} {o1:Bool} {K:Int→Bool→O R} (c:Ae s1.l) (d:fit s1.l.length N) (b:-9223372036854775808≤An n1 s1∧An n1 s1≤9223372036854775807):Qk N (Bf n1 s1) o1 K=K (An n1 s1) true:=by
 have f:=Ba n1 s1
 rw[WX];unfold ME
 rw[F5,Gt rfl c d,if_pos (by omega),show(!true)=false by rfl,cf,Gn]
 cases n1
 ·have e:An false s1=(val s1.l:Int):=rfl
  rw[e] at b ⊢
  rw[show(false==true)=false by rfl,cf]
  dsimp only
  unfold Qj
  rw[cf,Gn,show((!false)==true)=true by rfl,ct,Add (by omega),ct,i64 (by omega)]
 ·have e:An true s1=-(val s1.l:Int):=rfl
  rw[e] at b ⊢
  rw[show(true==true)=true by rfl,ct,Adc (by omega)]
  dsimp only
  unfold Qj
  rw[ct,Ad3 (by omega)]
theorem JM {A B:Nat} (hB:0<B):(-(A:Int))/(B:Int)=(if A%B=0 then -((A/B:Nat):Int) else -((A/B+1:Nat):Int))∧(-(A:Int))%(B:Int)=(if A%B=0 then 0 else ((B - A%B:Nat):Int)):=by
 have i:=Nat.div_add_mod A B
 have j:=Nat.mod_lt A hB
 have key:∀ q r:Int,r+(B:Int)*q=-(A:Int)→0≤r→r<(B:Int)→(-(A:Int))/(B:Int)=q∧(-(A:Int))%(B:Int)=r:=fun q r e c d =>
  (Int.ediv_emod_unique (by omega)).2 ⟨e,c,d⟩
 have f:((B*(A/B):Nat):Int)=(B:Int)*((A/B:Nat):Int):=Int.natCast_mul ..
 by_cases b:A%B=0
 ·rw[if_pos b,if_pos b]
  refine key _ _ ?_ (by omega) (by omega)
  rw[Int.mul_neg,←f];omega
 ·rw[if_neg b,if_neg b]
  refine key _ _ ?_ (by omega) (by omega)
  rw[Int.mul_neg,Int.natCast_add,Int.mul_add,←f];omega
theorem Sg {N:Nat} {n1 n2:Bool} {s1 s2:LS} {o1 o2:Bool} {K:LA→LA→Bool→O R} (C:Ae s1.l) (i:Ae s2.l) (j:0<An n2 s2) (k:fit (s1.l.length+s2.l.length+4) N) :
  D5 N (Bf n1 s1) o1 (Bf n2 s2) o2 K=K (Aq (An n1 s1/An n2 s2)) (Aq (An n1 s1%An n2 s2)) true:=by
 have n:n2=false:=by
  cases n2
  ·rfl
  ·unfold An at j;simp at j;omega
 subst n
 have L:An false s2=(val s2.l:Int):=rfl
 rw[L] at j ⊢
 have q:val s2.l≠0:=by omega
 obtain⟨Sq,Sr,a1,a2,a3,a4,a5⟩:=V7 (R:=R) (N:=N) (a:=s1.l) (b:=s2.l) (t:=false) (o:=o1) (t':=false) (o':=o2) rfl rfl C i q k
 have hr:val s1.l%val s2.l<val s2.l:=Nat.mod_lt _ (by omega)
 have d:=(Az C).2
 have M:=(Az i).2
 rw[O'];unfold CG
 rw[F5,F5,a5,show(!true)=false by rfl,cf,Gn]
 by_cases s:(n1==true)=true∧0<val s1.l%val s2.l
 ·obtain⟨u,D⟩:=s
  have u:n1=true:=by simpa using u
  subst u
  have hd:0<(Ac (val s1.l%val s2.l)).length:=by
   rcases Nat.eq_zero_or_pos (Ac (val s1.l%val s2.l)).length with h | h
   ·have:=A2.1 h;omega
   ·exact h
  rw[show(true==true)=true by rfl,ct,show(cond true (decide ((((Ac (val s1.l%val s2.l)).length:Nat):Int)>0)) false)=true by simp;omega]
  dsimp only
  unfold Fp
  have lq:(Ac (val s1.l/val s2.l)).length≤s1.l.length:=Nat.le_trans (Al (Nat.div_le_self _ _)) d
  have lr:(Ac (val s1.l%val s2.l)).length≤s1.l.length:=Nat.le_trans (Al (Nat.mod_le _ _)) d
  obtain⟨S2,S,F,T⟩:=s9 (R:=R) (N:=N) (a:=Ac (val s1.l/val s2.l)) (m:=1) (b:=[1]) (t:=false) (o:=true) (t':=false) (o':=true) rfl rfl (Ab _) bx (k.le (by simp;omega))
  obtain⟨S3,U,G,V⟩:=VF (R:=R) (N:=N) (a:=s2.l) (b:=Ac (val s1.l%val s2.l)) (t:=false) (o:=o2) (t':=false) (o':=true) rfl rfl i (Ab _) (k.le (by omega)) (by rw[Ad];omega)
  rw[ct,A0 a1 a2,t_,T,F5,A0 a3 a4,V,Gn,Gn]
  have X:val (Ac (val s1.l/val s2.l))+val [1]=val s1.l/val s2.l+1:=by rw[Ad];simp[val]
  have Y:val s2.l - val (Ac (val s1.l%val s2.l))=val s2.l - val s1.l%val s2.l:=by rw[Ad]
  rw[X] at F ⊢;rw[Y] at G ⊢
  rw[Cx,Cx,A0 S F,A0 U G]
  obtain⟨e,f⟩:=JM (A:=val s1.l) (B:=val s2.l) (by omega)
  rw[if_neg (by omega)] at e f
  have ei:An true s1=-(val s1.l:Int):=rfl
  rw[ei,e,f]
  obtain⟨c1,v⟩:=Kd (z:=-((val s1.l/val s2.l+1:Nat):Int)) (c:=!(true==false)) (m:=val s1.l/val s2.l+1) rfl
  rw[c1]
  have x:Aq (-((val s1.l/val s2.l+1:Nat):Int))=[.bool (decide (-((val s1.l/val s2.l+1:Nat):Int)<0)),.imm (Aa (Ac (val s1.l/val s2.l+1))) (Ac (val s1.l/val s2.l+1)).length 1 false false]:=by unfold Aq;rw[v];rfl
  have y:Aq ((val s2.l - val s1.l%val s2.l:Nat):Int)=[.bool false,.imm (Aa (Ac (val s2.l - val s1.l%val s2.l))) (Ac (val s2.l - val s1.l%val s2.l)).length 1 false false]:=by unfold Aq;rw[Int.natAbs_natCast,decide_eq_false (by omega)];rfl
  rw[x,y];rfl
 ·have I:n1=false∨val s1.l%val s2.l=0:=by
   cases n1
   ·exact .inl rfl
   ·right;simp at s;exact s
  have hc:(cond (n1==true) (Fp N K (Ac (val s1.l/val s2.l)).length (Ac (val s1.l%val s2.l)).length o1 (Bf n1 s1) o2 (Bf false s2) (Aa Sq) (Aa Sr) (cond true (decide ((((Ac (val s1.l%val s2.l)).length:Nat):Int)>0)) false)) (Fp N K (Ac (val s1.l/val s2.l)).length (Ac (val s1.l%val s2.l)).length o1 (Bf n1 s1) o2 (Bf false s2) (Aa Sq) (Aa Sr) false))=Fp N K (Ac (val s1.l/val s2.l)).length (Ac (val s1.l%val s2.l)).length o1 (Bf n1 s1) o2 (Bf false s2) (Aa Sq) (Aa Sr) false:=by
   rcases I with h | h
   ·subst h;rfl
   ·rw[h,Bx];cases n1<;>rfl
  refine Eq.trans hc ?_
  unfold Fp
  rw[cf,Gn,Gn]
  rw[Cx,Cx,A0 a1 a2,A0 a3 a4]
  have hq:An n1 s1/(val s2.l:Int)=(if (!(n1==false)) then -((val s1.l/val s2.l:Nat):Int) else ((val s1.l/val s2.l:Nat):Int))∧An n1 s1%(val s2.l:Int)=((val s1.l%val s2.l:Nat):Int):=by
   rcases I with h | h
   ·subst h;exact⟨rfl,rfl⟩
   ·cases n1
    ·exact⟨rfl,rfl⟩
    ·obtain⟨e,f⟩:=JM (A:=val s1.l) (B:=val s2.l) (by omega)
     rw[if_pos h] at e f
     exact⟨e,by rw[h];exact f⟩
  obtain⟨c1,v⟩:=Kd hq.1
  rw[c1,hq.2]
  have x:Aq (An n1 s1/(val s2.l:Int))=[.bool (decide (An n1 s1/(val s2.l:Int)<0)),.imm (Aa (Ac (val s1.l/val s2.l))) (Ac (val s1.l/val s2.l)).length 1 false false]:=by unfold Aq;rw[v];rfl
  have y:Aq ((val s1.l%val s2.l:Nat):Int)=[.bool false,.imm (Aa (Ac (val s1.l%val s2.l))) (Ac (val s1.l%val s2.l)).length 1 false false]:=by unfold Aq;rw[Int.natAbs_natCast,decide_eq_false (by omega)];rfl
  rw[x,y];rfl
end
end Gx

namespace Gx
open Go Go.Proofs
section
variable {R:Type}
theorem fq (z:Int):((Nat.beq 0 0)&&((Nat.beq (List.length (Aq z)) 2)&&(Nat.beq 2 2)))=true:=rfl
theorem mo (z:Int):((Nat.beq (List.length (Aq z)) 2)&&(true&&(!false)))=true:=rfl
theorem zG (z:Int) (f:Bool→O R):Qc (Aq z) f=f (decide (z<0)):=Gn
theorem zH (z:Int) (f:LA→Nat→O R):Ir 1 (List.drop 1 (Aq z)) f=f (Aa (Ac z.natAbs)) (Ac z.natAbs).length:=F5
theorem Ur (v:Nat):Aq (v:Int)=Bf false (.of (Ac v) false false):=by unfold Aq;rw[decide_eq_false (by omega),Int.natAbs_natCast]
theorem Afc {N:Nat} {z:Int} {o:Bool} {K:LA→O R} (b:fit (Ac z.natAbs).length N):MC N (Aq z) o K=K (Aq (z.natAbs:Int)):=by
 have:=zB (R:=R) (N:=N) (n:=decide (z<0)) (s:=.of (Ac z.natAbs) false false) (o:=o) (K:=K) (Ab _) b
 rw[B5] at this;exact this
theorem Aeo {N:Nat} {z w:Int} {o o':Bool} {K:LA→O R} (b:fit ((Ac z.natAbs).length+(Ac w.natAbs).length+1) N):CF N (Aq z) o (Aq w) o' K=K (Aq (z - w)):=by
 have:=wK (R:=R) (N:=N) (n1:=decide (z<0)) (s1:=.of (Ac z.natAbs) false false) (n2:=decide (w<0)) (s2:=.of (Ac w.natAbs) false false) (o1:=o) (o2:=o') (K:=K) (Ab _) (Ab _) b
 rw[B5,B5] at this;exact this
theorem Aa8 {N:Nat} {n1:Bool} {s1:LS} {g:Nat} {o1 o2:Bool} {K:LA→LA→Bool→O R} (n:Ae s1.l) (j:0<g) (b:fit (s1.l.length+2*(Ac g).length+10) N) :
  C8 N (Bf n1 s1) o1 (Aq (g:Int)) o2 K=K (Aq (An n1 s1/(g:Int))) (Aq (An n1 s1%(g:Int))) true:=by
 have k:=b.1
 have c:=(Az n).2
 have hq:(Ac (val s1.l/g)).length≤s1.l.length:=Nat.le_trans (Al (Nat.div_le_self _ _)) c
 have q:(Ac (val s1.l%g)).length≤s1.l.length:=Nat.le_trans (Al (Nat.mod_le _ _)) c
 have s:val s1.l%g<g:=Nat.mod_lt _ j
 rw[Uq];unfold Wl
 rw[F5,zH,Int.natAbs_natCast]
 rw[Nz rfl rfl n (Ab _) (by rw[Ad];omega) (b.le (by omega)),Ad,show(!true)=false by rfl,cf,Gn,zG,decide_eq_false (by omega),wI,C9 rfl (Ab _) (b.le (by omega)),Gn,wI,C9 rfl (Ab _) (b.le (by omega)),Ad,Ad,fq,ct,fq,ct,zG]
 by_cases m:n1=false∨val s1.l%g=0
 ·have d:An n1 s1/(g:Int)=(if (!(n1==false))=true then -((val s1.l/g:Nat):Int) else ((val s1.l/g:Nat):Int))∧An n1 s1%(g:Int)=((val s1.l%g:Nat):Int):=by
   rcases m with h | h
   ·subst h;exact⟨rfl,rfl⟩
   ·cases n1
    ·exact⟨rfl,rfl⟩
    ·obtain⟨e,f⟩:=JM (A:=val s1.l) (B:=g) j
     rw[if_pos h] at e f
     exact⟨e,by rw[h];exact f⟩
  have t:(if n1=true then -((val s1.l%g:Nat):Int) else ((val s1.l%g:Nat):Int))=((val s1.l%g:Nat):Int):=by
   rcases m with h | h
   ·subst h;rfl
   ·rw[h];cases n1<;>rfl
  rw[←d.1,t,d.2,decide_eq_false (by omega),cf]
  rfl
 ·have u:n1=true:=by cases n1<;>simp_all
  subst u
  have i:val s1.l%g≠0:=fun h=>m (.inr h)
  obtain⟨e,f⟩:=JM (A:=val s1.l) (B:=g) j
  rw[if_neg i] at e f
  have ei:An true s1=-(val s1.l:Int):=rfl
  rw[ei,e,f,if_pos rfl,if_pos (show(!true==false)=true by rfl)]
  have C:(Ac (-((val s1.l%g:Nat):Int)).natAbs).length≤s1.l.length:=by rw[Int.natAbs_neg,Int.natAbs_natCast];exact q
  have D:(Ac (-((val s1.l/g:Nat):Int)).natAbs).length≤s1.l.length:=by rw[Int.natAbs_neg,Int.natAbs_natCast];exact hq
  have v:(Ac ((g:Int).natAbs:Int).natAbs).length=(Ac g).length:=by simp
  have x:(Ac (1:Int).natAbs).length=1:=by rw[show(1:Int).natAbs=1 by rfl,Hg];rfl
  rw[decide_eq_true (by omega),ct,Jc,ct,Jc,ct,MJ,MJ,Afc (b.le (by rw[Int.natAbs_natCast];omega)),Ad1 (b.le (by rw[v];omega)),mo,ct,zG,decide_eq_false (by omega),cf,Jc,ct,MJ,A9 (by omega) (by omega),Aeo (b.le (by rw[x];omega))]
  have y:-((val s1.l/g:Nat):Int) - 1=-((val s1.l/g+1:Nat):Int):=by omega
  have z:-((val s1.l%g:Nat):Int)+((g:Int).natAbs:Int)=((g - val s1.l%g:Nat):Int):=by omega
  rw[y,z]
  rfl
theorem YF {N:Nat} {z:Int} {g:Nat} {o1 o2:Bool} {K:LA→LA→Bool→O R} (b:0<g) (c:fit ((Ac z.natAbs).length+2*(Ac g).length+10) N) :
  C8 N (Aq z) o1 (Aq (g:Int)) o2 K=K (Aq (z/(g:Int))) (Aq (z%(g:Int))) true:=by
 have:=Aa8 (R:=R) (N:=N) (n1:=decide (z<0)) (s1:=.of (Ac z.natAbs) false false) (g:=g) (o1:=o1) (o2:=o2) (K:=K) (Ab _) b c
 rw[B5] at this;exact this
theorem Aa9 {N:Nat} {z w:Int} {o o':Bool} {K:Bool→O R} (c:fit (Ac z.natAbs).length N):H8 N (Aq z) o (Aq w) o' K=K (decide (z=w)):=by
 rw[Xt];unfold CI
 rw[zG,zG]
 by_cases b:decide (z<0)=decide (w<0)
 ·rw[b,show((decide (w<0)==decide (w<0))==true)=true by simp,ct,zH,zH,IN rfl rfl c,xH]
  congr 1
  have b:(z<0)↔(w<0):=by simpa using b
  rw[decide_eq_decide]
  constructor
  ·intro h
   have:=congrArg val h
   rw[Ad,Ad] at this;omega
  ·intro h;rw[h]
 ·rw[show((decide (z<0)==decide (w<0))==true)=false by simp;simpa using b,cf]
  have:decide (z=w)=false:=by
   rw[decide_eq_false_iff_not];intro h;subst h;exact b rfl
  rw[this]
theorem Aba {N:Nat} {z w:Int} {o o':Bool} {K:Int→O R} (c:fit ((Ac z.natAbs).length+(Ac w.natAbs).length+1) N):Ja N (Aq z) o (Aq w) o' K=K (z - w).sign:=by
 have d:(Ac (z - w).natAbs).length≤(Ac z.natAbs).length+(Ac w.natAbs).length+1:=by
  have a:=CW (Nat.le_refl (Ac z.natAbs).length)
  have b:=CW (Nat.le_refl (Ac w.natAbs).length)
  have a2:=La (show(Ac z.natAbs).length≤(Ac z.natAbs).length+(Ac w.natAbs).length by omega)
  have e:=La (show(Ac w.natAbs).length≤(Ac z.natAbs).length+(Ac w.natAbs).length by omega)
  refine A4 ?_
  rw[Nat.pow_succ];omega
 rw[ES];unfold CN
 rw[Jc,ct,Jc,ct,MJ,MJ,Aeo c,xO (c.le d)]
theorem te {N:Nat} {g:Nat} {z:Int} {o o':Bool} {K:Bool→O R} (c:0<g) (b:fit ((Ac z.natAbs).length+2*(Ac g).length+10) N):Mn N (Aq (g:Int)) o (Aq z) o' K=K (decide (z%(g:Int)=0)):=by
 have e:(Ac (z%(g:Int)).natAbs).length≤(Ac g).length:=Al (by
  have f:=Int.emod_nonneg z (show(g:Int)≠0 by omega)
  have i:=Int.emod_lt_of_pos z (show(0:Int)<g by omega)
  omega)
 rw[EQ];unfold CM
 rw[Jc,ct,Jc,ct,MJ,MJ,YF c b,fq,ct,fq,ct,show(true==true)=true by rfl,ct,Jc,ct,MJ,xO (b.le (by omega))]
 by_cases h:z%(g:Int)=0
 ·rw[h];rfl
 ·have d:0<z%(g:Int):=by have:=Int.emod_nonneg z (show(g:Int)≠0 by omega);omega
  rw[Int.sign_eq_one_of_pos d,decide_eq_false h];rfl
theorem Ad4 {N:Nat} {z:Int} {o:Bool} {K:Int→Bool→O R} (b:fit (Ac z.natAbs).length N) (d:-9223372036854775808≤z∧z≤9223372036854775807):Tg N (Aq z) o K=K z true:=by
 rw[PO];unfold CT
 have c:E3 N (Aq z) o=fun K:LA→O R=>K (Aq z):=by
  funext K
  have:=Jd (R:=R) (N:=N) (n:=decide (z<0)) (s:=.of (Ac z.natAbs) false false) (o:=o) (K:=K) (Ab _) b
  rw[B5] at this;exact this
 rw[Jc,ct,MJ,c]
 dsimp only
 rw[mo,ct,tb,zH,Nw rfl (Ab _) b,Ad,if_pos (by omega),show(!true)=false by rfl,cf,zG]
 by_cases h:z<0
 ·rw[decide_eq_true h,show(true==true)=true by rfl,ct,Adc (by omega)]
  unfold N0
  rw[ct]
  congr 1
  have e:(z.natAbs:Int)=-z:=by omega
  rw[e,HB,IntKind.wrap_i64,IntKind.wrap_i64,IntKind.wrap_i64]
  omega
 ·rw[decide_eq_false h,show(false==true)=false by rfl,cf]
  unfold N0
  rw[cf,zG,decide_eq_false h,show((!false)==true)=true by rfl,ct,Add (by omega),ct,i64 (by omega)]
  congr 1
  omega
end
end Gx

namespace Gx
open Go Go.Proofs
section
variable {R:Type}
def mq (n:Int) (d:Nat):Int:=if (d:Int)<2*(n%(d:Int))∨(2*(n%(d:Int))=d∧(n/(d:Int))%2=1) then n/(d:Int)+1 else n/(d:Int)
theorem Abb {n:Int} {d k:Nat} (i:0<k):mq ((k:Int)*n) (k*d)=mq n d:=by
 unfold mq
 have b:(k:Int)*n/((k*d:Nat):Int)=n/(d:Int):=by rw[Int.natCast_mul];exact Int.mul_ediv_mul_of_pos _ _ (by omega)
 have c:(k:Int)*n%((k*d:Nat):Int)=(k:Int)*(n%(d:Int)):=by rw[Int.natCast_mul];exact Int.mul_emod_mul_of_pos _ _ (by omega)
 rw[b,c,Int.natCast_mul]
 have e:((k:Int)*d<2*((k:Int)*(n%d)))↔((d:Int)<2*(n%d)):=by
  rw[show 2*((k:Int)*(n%d))=(k:Int)*(2*(n%d)) by rw[Int.mul_left_comm]]
  exact Int.mul_lt_mul_left (by omega)
 have f:(2*((k:Int)*(n%d))=(k:Int)*d)↔(2*(n%d)=(d:Int)):=by
  rw[show 2*((k:Int)*(n%d))=(k:Int)*(2*(n%d)) by rw[Int.mul_left_comm]]
  exact Int.mul_eq_mul_left_iff (by omega)
 simp only[e,f]
def zY (q:Rat):Int:=mq q.num q.den
theorem Abc (n:Int) (d:Nat) (c:d≠0):∃ k:Nat,0<k∧n=(k:Int)*(mkRat n d).num∧d=k*(mkRat n d).den:=by
 have e:0<Nat.gcd n.natAbs d:=Nat.gcd_pos_of_pos_right _ (by omega)
 obtain⟨f,i⟩:=xP n d c
 refine⟨Nat.gcd n.natAbs d,e,?_,?_⟩
 ·rw[f]
  have b:((Nat.gcd n.natAbs d:Nat):Int)∣n:=Int.dvd_natAbs.1 (Int.natCast_dvd_natCast.2 (Nat.gcd_dvd_left _ _))
  exact(Int.mul_ediv_cancel' b).symm
 ·rw[i];exact(Nat.mul_div_cancel' (Nat.gcd_dvd_right _ _)).symm
theorem Abd (n:Int) (d:Nat) (b:d≠0):zY (mkRat n d)=mq n d:=by
 obtain⟨k,c,e,f⟩:=Abc n d b
 unfold zY
 rw[←Abb c,←e,←f]
theorem YG (z:Int):Aq z=Bf (decide (z<0)) (.of (Ac z.natAbs) false false):=rfl
theorem JN (n:Int) (d:Nat) (c:0<d):(n/(d:Int)).natAbs≤n.natAbs:=by
 obtain⟨A,h⟩:=n.eq_nat_or_neg
 rcases h with rfl | rfl
 ·rw[show((A:Int)/(d:Int))=((A/d:Nat):Int) from rfl,Int.natAbs_natCast,Int.natAbs_natCast];exact Nat.div_le_self _ _
 ·rw[(JM c).1,Int.natAbs_neg,Int.natAbs_natCast]
  split
  ·rw[Int.natAbs_neg,Int.natAbs_natCast];exact Nat.div_le_self _ _
  ·rename_i e
   rw[Int.natAbs_neg,Int.natAbs_natCast]
   rcases Nat.eq_or_lt_of_le (show 1≤d from c) with b | b
   ·subst b;simp[Nat.mod_one] at e
   ·have f:0<A:=by
     rcases Nat.eq_zero_or_pos A with h | h
     ·subst h;simp at e
     ·exact h
    have:A/d<A:=Nat.div_lt_self f b
    omega
theorem Abe (n:Int) (d:Nat) (b:0<d):(n%(d:Int)).natAbs<d:=by
 have c:=Int.emod_nonneg n (show(d:Int)≠0 by omega)
 have e:=Int.emod_lt_of_pos n (show(0:Int)<d by omega)
 omega
theorem wO {N:Nat} {x:RatD} {o:Bool} (i:x.ok) (b:fit (4*x.m+20) N):∃ (n:Int) (d:Nat) (l:List Nat) (o1 o2:Bool),d≠0∧mkRat n d=x.q∧Ae l∧val l=d∧l.length≤max x.m 1∧(Ac n.natAbs).length≤x.m ∧
  ∀ K:LA→LA→LA→Bool→O R,IT N x.av o K=K (Aq (n/(d:Int))) (Aq (n%(d:Int))) (Bf false (.of l false o1)) o2:=by
 obtain⟨neg,s,l,o1,o2,c,f,j,k,t,u,v⟩:=CU (R:=R) (N:=N) (o:=o) i (b.le (by omega))
 refine⟨An neg s,val l,l,o2,(o2||false),j,u,f,rfl,t,by rw[Ba];exact Nat.le_trans (Az c).2 k,fun K=>?_⟩
 rw[WZ];unfold b7
 rw[Is,ct,Dp,v,t8,ct,Q7,ct,SH,lO,Sg (s2:=.of l false o2) c f (by show 0<An false _;unfold An;simp[LS.l];omega) (b.le (show s.l.length+l.length+4≤_ by omega))]
 have e:An false (.of l false o2)=(val l:Int):=rfl
 rw[e]
 rfl
theorem Abf {z:Int} {a:Nat} {t:List Nat} (h:Ac z.natAbs=a::t):a%2=1↔z%2=1:=by
 have b:z.natAbs=a+4294967296*val t:=by rw[←Ad z.natAbs,h];rfl
 omega
theorem Acf {z:Int} (h:Ac z.natAbs=[]):z=0:=by
 have b:z.natAbs=0:=by rw[←Ad z.natAbs,h];rfl
 omega
theorem tg {N:Nat} {x:RatD} {o:Bool} {K:LA→O R} (z:x.ok) (f:fit (8*x.m+60) N):Z0 N x.av o K=K (Aq (zY x.q)):=by
 obtain⟨n,d,l,o1,o2,A,B,k,s,U,C,D⟩:=wO (R:=R) (N:=N) (o:=o) z (f.le (by omega))
 have hN:=f.1
 have lf:(Ac (n/(d:Int)).natAbs).length≤x.m:=Nat.le_trans (Al (JN n d (by omega))) C
 have lr:(Ac (n%(d:Int)).natAbs).length≤max x.m 1:=by
  have V:=Abe n d (by omega)
  have:(Ac (n%(d:Int)).natAbs).length≤(Ac d).length:=Al (by omega)
  have:=(Az k).2
  rw[s] at this
  omega
 rw[←B,Abd n d A]
 unfold mq
 rw[XA];unfold MH
 rw[Is,ct,Dp,D,fq,ct,fq,ct]
 obtain⟨S,a1,a2,a3⟩:=bu (R:=R) (N:=N) (n1:=decide (n%(d:Int)<0)) (n2:=decide (n%(d:Int)<0)) (s1:=.of (Ac (n%(d:Int)).natAbs) false false) (s2:=.of (Ac (n%(d:Int)).natAbs) false false) (o1:=false) (o2:=false) (Ab _) (Ab _) (f.le (show(Ac (n%(d:Int)).natAbs).length+(Ac (n%(d:Int)).natAbs).length+1≤_ by omega))
 rw[B5] at a2 a3
 have F:=Int.emod_nonneg n (show(d:Int)≠0 by omega)
 have G:=Int.emod_lt_of_pos n (show(0:Int)<d by omega)
 generalize X:n%(d:Int)=r at *
 generalize hq:n/(d:Int)=q at *
 have l2:(Ac (r+r).natAbs).length≤max x.m 1+1:=by
  refine A4 ?_
  have:=CW (Nat.le_refl (Ac r.natAbs).length)
  have:=La lr
  rw[Nat.pow_succ];omega
 rw[t8,ct,Jc,ct,MJ,YG r,a3,Q7,ct,SH,A0 a1 a2,lO,Xv (s1:=.of (Ac (r+r).natAbs) false true) (s2:=.of l false o1) (Ab _) k (f.le (show(Ac (r+r).natAbs).length+l.length≤_ by omega)),B5]
 have e:An false (.of l false o1)=(d:Int):=by show(val l:Int)=_;rw[s]
 rw[e,zH]
 have one:∀ c,(Bm N 1 (fun u n v=>(BQ N (List.take 2 (Aq q)) c [(.bool u),(.imm (v.take (n*1)) n 1 false true)] true (fun w o x=>(K [(.bool w),(.imm (x.take (o*1)) o 1 false false)])))))=K (Aq (q+1)):=by
  intro c
  obtain⟨S1,I,L,M⟩:=F6 (R:=R) (N:=N) (v:=1) (by omega) (by omega)
  obtain⟨S2,c1,i,b⟩:=bu (R:=R) (N:=N) (n1:=decide (q<0)) (n2:=decide ((1:Int)<0)) (s1:=.of (Ac q.natAbs) false false) (s2:=.of (Ac (1:Int).natAbs) false true) (o1:=c) (o2:=true) (Ab _) (Ab _) (f.le (show(Ac q.natAbs).length+(Ac (1:Int).natAbs).length+1≤_ by rw[show(1:Int).natAbs=1 by rfl,Hg];simp;omega))
  rw[B5,B5] at i b
  rw[M,A0 I L,MJ,YG q,lO,b,A0 c1 i]
  rfl
 have keep:(cond (Nat.ble 2 ((Aq q).length)) (cond ((Nat.beq 0 0)&&((Nat.beq (((Aq q).take 2).length) 2)&&(Nat.beq 2 2))) (cond (Nat.ble 2 (((Aq q).take 2).length)) (K (((Aq q).take 2).take 2)) none) none) none)=K (Aq q):=rfl
 have step:∀ odd:Bool,odd=decide (q%2=1)→Ql N K (Om (r+r) (d:Int)) (Aq q) odd=K (Aq (if (d:Int)<2*r∨(2*r=d∧q%2=1) then q+1 else q)):=by
  intro odd y
  unfold Ql
  rw[keep]
  by_cases c1:(d:Int)<r+r
  ·have:Om (r+r) d=1:=by unfold Om;rw[if_neg (by omega),if_pos c1]
   rw[this,show((decide ((1:Int)>0))==false)=false by decide,cf,Jc,ct,one,if_pos (.inl (by omega))]
  ·by_cases i:r+r=(d:Int)
   ·have:Om (r+r) d=0:=by unfold Om;rw[if_neg (by omega),if_neg (by omega)]
    rw[this,show((decide ((0:Int)>0))==false)=true by decide,ct,show(((0:Int)==0)==true)=true by decide,ct]
    by_cases b:q%2=1
    ·rw[y,decide_eq_true b,show cond false true (cond true true false)=true by rfl,ct,Jc,ct,one,if_pos (.inr ⟨by omega,b⟩)]
    ·rw[y,decide_eq_false b,show cond false true (cond true false false)=false by rfl,cf,if_neg (by omega)]
   ·have:Om (r+r) d=-1:=by unfold Om;rw[if_pos (by omega)]
    rw[this,show((decide ((-1:Int)>0))==false)=true by decide,ct,show(((-1:Int)==0)==true)=false by decide,cf,if_neg (by omega)]
 cases j:Ac q.natAbs with
 | nil =>
  rw[show((decide ((((([]:List Nat).length:Nat):Int)>0))==true))=false by decide,cf]
  exact step false (by rw[Acf j];rfl)
 | cons a t =>
  have T:(decide (((((a::t).length:Nat):Int)>0))==true)=true:=by simp
  rw[T,ct,zH,j,show Ap 0 (a::t).length=true by unfold Ap;simp,ct,O9,Tx]
  have:cond true (Int.tmod (a:Int) 2==1) false=decide (q%2=1):=by
   rw[xH,show Int.tmod (a:Int) 2=((a%2:Nat):Int) by rfl]
   have:=Abf j
   by_cases h:a%2=1
   ·rw[h,decide_eq_true (this.1 h)];rfl
   ·rw[show a%2=0 by omega,decide_eq_false (fun e=>h (this.2 e))];rfl
  exact step _ this
end
end Gx

namespace Gx
open Go Go.Proofs
section
variable {R:Type}
theorem Afd (q:Rat):((Nat.beq 0 0)&&((Nat.beq (List.length (cq q)) 3)&&(Nat.beq 3 3)))=true:=rfl
theorem Abg (q:Rat):Nat.ble 3 (List.length (cq q))=true:=rfl
theorem Ad5 (q:Rat):List.take 3 (cq q)=cq q:=rfl
theorem Ade (q:Rat) (f:LA→Nat→O R):Ir 1 (List.drop 2 (cq q)) f=f (Aa (Ac q.den)) (Ac q.den).length:=bw (x:=ZV q)
theorem Aep (q:Rat):cq q=(ZV q).av:=rfl
theorem Xy (q:Rat):(Ac q.num.natAbs).length≤qm q:=Nat.le_max_left _ _
theorem JO (q:Rat):(Ac q.den).length≤qm q:=Nat.le_max_right _ _
theorem Ad6 {N:Nat} {p q:Rat} {o o':Bool} {K:Bool→O R} (b:fit (qm p) N):D6 N (cq p) o (cq q) o' K=K (decide (p=q)):=by
 rw[Xu];unfold CJ
 rw[Z2,ct,Z2,ct,Pq,Pq,Aa9 (b.le (Xy p)),Ade,Ade]
 by_cases h:p.num=q.num
 ·rw[decide_eq_true h,show(true==true)=true by rfl,ct,IN rfl rfl (b.le (JO p)),xH]
  congr 1
  rw[decide_eq_decide]
  constructor
  ·intro c
   have:=congrArg val c
   rw[Ad,Ad] at this
   exact Rat.ext h this
  ·intro e;rw[e]
 ·rw[decide_eq_false h,show(false==true)=false by rfl,cf]
  have:decide (p=q)=false:=by rw[decide_eq_false_iff_not];intro e;exact h (by rw[e])
  rw[this]
theorem er {N:Nat} {x:RatD} {o:Bool} {K:LA→O R} (b:x.ok) (c:fit (8*x.m+40) N):Mo N x.av o K=K (Aq (x.q.num/(x.q.den:Int))):=by
 have e:=Mr x b
 have f:=Xy x.q
 have i:=JO x.q
 have d:fit ((Ac x.q.num.natAbs).length+2*(Ac x.q.den).length+10) N:=c.le (by omega)
 rw[PK];unfold SW
 rw[Is,ct,Dp,Cy b (c.le (by omega)),Z2,ct,ct,Mq b (c.le (by omega)),Pq,YF x.q.den_pos d]
 rfl
theorem qg {N:Nat} {z:Int} {o:Bool} {K:LA→O R} (b:fit (4*((Ac z.natAbs).length+1)+30) N):H9 N (Aq z) o K=K (cq (z:Rat)):=by
 have hN:=b.1
 have c:(Ac (1:Int).natAbs).length=1:=by rw[show(1:Int).natAbs=1 by rfl,Hg];rfl
 rw[PI];unfold ST
 rw[Jc,ct,MJ,A9 (by omega) (by omega),ou (by omega) (b.le (by rw[c];omega)),show(1:Int).natAbs=1 by rfl,lT,Afd,ct,Abg,ct,Ad5]
theorem qh (q:Rat):q*(q.den:Rat)=(q.num:Rat):=by
 have c:(q.den:Rat)≠0:=by
  have:=q.den_pos
  exact Rat.ne_of_gt (Rat.natCast_pos.2 this)
 have b:q=(q.num:Rat)/((q.den:Int):Rat):=by rw[←Rat.divInt_eq_div,Rat.num_divInt_den]
 have d:((q.den:Int):Rat)=(q.den:Rat):=rfl
 rw[d] at b
 calc q*(q.den:Rat)=(q.num:Rat)/(q.den:Rat)*(q.den:Rat):=by rw[←b]
  _=q.num:=Rat.div_mul_cancel c
theorem Abh (q:Rat):(q - ((q.num/(q.den:Int):Int):Rat))*(q.den:Rat)=((q.num%(q.den:Int):Int):Rat):=by
 have e:=qh q
 have b:=Int.mul_ediv_add_emod q.num (q.den:Int)
 have c:(q.num:Rat)=((q.den:Int):Rat)*((q.num/(q.den:Int):Int):Rat)+((q.num%(q.den:Int):Int):Rat):=by
  rw[←Rat.intCast_mul,←Rat.intCast_add,b]
 have d:((q.den:Int):Rat)=(q.den:Rat):=rfl
 rw[d] at c
 grind
theorem Abi (q:Rat):lP (2*(q - ((q.num/(q.den:Int):Int):Rat))) 1=Om (2*(q.num%(q.den:Int))) (q.den:Int):=by
 have b:=Abh q
 have c:(0:Rat)<(q.den:Rat):=by
  have:=q.den_pos
  exact Rat.natCast_pos.2 this
 generalize q - ((q.num/(q.den:Int):Int):Rat)=t at *
 generalize d:q.num%(q.den:Int)=r at *
 have e:(2*t<1)↔(2*r<(q.den:Int)):=by
  have:(2*t<1)↔(2*t*(q.den:Rat)<1*(q.den:Rat)):=(Rat.mul_lt_mul_right c).symm
  rw[this,Rat.mul_assoc,b,Rat.one_mul]
  rw[show(2:Rat)*(r:Rat)=((2*r:Int):Rat) by rw[Rat.intCast_mul];rfl,show(q.den:Rat)=((q.den:Int):Rat) from rfl,Rat.intCast_lt_intCast]
 have f:(1<2*t)↔((q.den:Int)<2*r):=by
  have:(1<2*t)↔(1*(q.den:Rat)<2*t*(q.den:Rat)):=(Rat.mul_lt_mul_right c).symm
  rw[this,Rat.mul_assoc,b,Rat.one_mul]
  rw[show(2:Rat)*(r:Rat)=((2*r:Int):Rat) by rw[Rat.intCast_mul];rfl,show(q.den:Rat)=((q.den:Int):Rat) from rfl,Rat.intCast_lt_intCast]
 unfold lP Om
 simp only[e,f]
end
end Gx

namespace Gx
open Go Go.Proofs
section
variable {R:Type}
theorem Afe {N:Nat} {p q:Rat} {o o':Bool} {K:LA→O R} (b:fit (16*(qm p+qm q)+100) N):Ws N (cq p) o (cq q) o' K=K (cq (p - q)):=by
 have:=lU (R:=R) (N:=N) (x:=ZV p) (y:=ZV q) (o:=o) (o':=o') (K:=K) (Kq _) (Kq _) (by rw[Wt,Wt];exact b)
 rw[Qm,Qm] at this;exact this
theorem Aff {N:Nat} {p q:Rat} {o o':Bool} {K:LA→O R} (b:fit (16*(qm p+qm q)+80) N):Ny N (cq p) o (cq q) o' K=K (cq (p*q)):=by
 have:=SZ (R:=R) (N:=N) (x:=ZV p) (y:=ZV q) (o:=o) (o':=o') (K:=K) (Kq _) (Kq _) (by rw[Wt,Wt];exact b)
 rw[Qm,Qm] at this;exact this
theorem Abj {N:Nat} {p q:Rat} {o o':Bool} {K:Int→O R} (b:fit (16*(qm p+qm q)+100) N):Fq N (cq p) o (cq q) o' K=K (lP p q):=by
 have:=JK (R:=R) (N:=N) (x:=ZV p) (y:=ZV q) (o:=o) (o':=o') (K:=K) (Kq _) (Kq _) (by rw[Wt,Wt];exact b)
 rw[Qm,Qm] at this;exact this
theorem Aeq {N:Nat} {p:Rat} {o:Bool} {K:LA→O R} (b:fit (8*qm p+10) N):B4 N (cq p) o K=K (cq p):=by
 have:=Cy (R:=R) (N:=N) (x:=ZV p) (o:=o) (K:=K) (Kq _) (by rw[Wt];exact b)
 rw[Qm] at this;exact this
theorem bz (z:Int):qm (z:Rat)=max (Ac z.natAbs).length 1:=by unfold qm;rw[Rat.num_intCast,Rat.den_intCast,Hg];rfl
theorem cA (q:Rat):(q.num/(q.den:Int)).natAbs≤q.num.natAbs:=JN _ _ q.den_pos
theorem th (q:Rat):qm ((q.num/(q.den:Int):Int):Rat)≤max (qm q) 1:=by
 rw[bz]
 have:=Nat.le_trans (Al (cA q)) (Xy q)
 omega
theorem Afa:(Ac (1:Int).natAbs).length=1:=by rw[show(1:Int).natAbs=1 by rfl,Hg];rfl
theorem ti {N:Nat} {q:Rat} {o:Bool} {K:LA→O R} (b:fit (50*qm q+400) N):Z1 N (cq q) o K=K (Aq (zY q)):=by
 have hN:=b.1
 have s:=th q
 have u:=Aa5 q ((q.num/(q.den:Int):Int):Rat)
 have v:=qf (2:Int) (q - ((q.num/(q.den:Int):Int):Rat))
 have x:qm ((2:Int):Rat)≤2:=Aa6 (by decide)
 have y:qm ((1:Int):Rat)≤2:=Aa6 (by decide)
 have A:(Ac (q.num/(q.den:Int)).natAbs).length≤qm q:=Nat.le_trans (Al (cA q)) (Xy q)
 have fl:∀ K:LA→O R,Mo N (ZV q).av o K=K (Aq ((ZV q).q.num/((ZV q).q.den:Int))):=fun K=>er (Kq q) (by rw[Wt];exact b.le (by omega))
 have k:∀ o K,H9 N (Aq (q.num/(q.den:Int))) o K=K (cq ((q.num/(q.den:Int):Int):Rat)):=fun o (K:LA→O R)=>qg (b.le (by omega))
 have c:=Abi q
 rw[Qm] at fl
 have f:∀ K:LA→O R,Ws N (cq q) o (cq ((q.num/(q.den:Int):Int):Rat)) false K=K (cq (q - ((q.num/(q.den:Int):Int):Rat))):=fun K=>Afe (b.le (by omega))
 have i:∀ K:LA→O R,Ny N (cq ((2:Int):Rat)) false (cq (q - ((q.num/(q.den:Int):Int):Rat))) false K=K (cq (((2:Int):Rat)*(q - ((q.num/(q.den:Int):Int):Rat)))):=fun K=>Aff (b.le (by omega))
 have e:∀ K:Int→O R,Fq N (cq (((2:Int):Rat)*(q - ((q.num/(q.den:Int):Int):Rat)))) false (cq ((1:Int):Rat)) false K=K (lP (2*(q - ((q.num/(q.den:Int):Int):Rat))) 1):=fun K=>Abj (b.le (by omega))
 rw[c] at e
 unfold zY mq
 generalize hq:q.num/(q.den:Int)=z at *
 generalize q.num%(q.den:Int)=r at *
 generalize (q.den:Int)=d at *
 generalize q - (z:Rat)=t at *
 have l:∀ o K,C8 N (Aq z) o (Aq (2:Int)) false K=K (Aq (z/2)) (Aq (z%2)) true:=fun o (K:LA→LA→Bool→O R)=>by
  have:=YF (R:=R) (N:=N) (z:=z) (g:=2) (o1:=o) (o2:=false) (K:=K) (by omega) (b.le (by rw[show Ac 2=[2] by (rw[Ry (by omega)];simp[Bx])];simp;omega))
  exact this
 have one:∀ K:LA→O R,Lp N (Aq z) false (Aq 1) false K=K (Aq (z+1)):=fun K=>Ad1 (b.le (by rw[Afa];omega))
 have j:∀ K:Int→O R,Gl N (Aq (z%2)) false K=K (z%2).sign:=fun K=>xO (b.le (by
  have:(Ac (z%2).natAbs).length≤1:=A4 (by omega)
  omega))
 rw[PM];unfold SX
 rw[Abg,ct,Ad5,Aep,fl,fq,ct,JL (by omega) (by omega),←Aep,ct,Jc,ct,MJ,k,f,i,Afd,ct,ct,A9 (by omega) (by omega),l,fq,ct,fq,ct,Abg,ct,JL (by omega) (by omega),Ad5,e]
 have fin:∀ w:Int,(cond ((Nat.beq 0 0)&&((Nat.beq (List.length (Aq w)) 2)&&(Nat.beq 2 2))) (cond (Nat.ble 2 (List.length (Aq w))) (K (List.take 2 (Aq w))) none) none)=K (Aq w):=fun w=>rfl
 have keep:(cond ((Nat.beq 0 0)&&((Nat.beq (((Aq z).take 2).length) 2)&&(Nat.beq 2 2))) (cond (Nat.ble 2 (((Aq z).take 2).length)) (K (((Aq z).take 2).take 2)) none) none)=K (Aq z):=rfl
 by_cases c1:d<2*r
 ·have:Om (2*r) d=1:=by unfold Om;rw[if_neg (by omega),if_pos c1]
  rw[this,show((decide ((1:Int)>0))==false)=false by decide,cf,ct,A9 (by omega) (by omega),one,fin,if_pos (.inl c1)]
 ·by_cases m:2*r=d
  ·have:Om (2*r) d=0:=by unfold Om;rw[if_neg (by omega),if_neg (by omega)]
   rw[this,show((decide ((0:Int)>0))==false)=true by decide,ct,show(((0:Int)==0)==true)=true by decide,ct,Jc,ct,MJ,j]
   by_cases n:z%2=1
   ·rw[n,show cond false true (cond true (decide ((1:Int).sign>0)) false)=true by decide,ct,ct,A9 (by omega) (by omega),one,fin,if_pos (.inr ⟨m,rfl⟩)]
   ·rw[show z%2=0 by omega,show cond false true (cond true (decide ((0:Int).sign>0)) false)=false by decide,cf,ct,if_neg (by omega)]
    rfl
  ·have:Om (2*r) d=-1:=by unfold Om;rw[if_pos (by omega)]
   rw[this,show((decide ((-1:Int)>0))==false)=true by decide,ct,show(((-1:Int)==0)==true)=false by decide,cf,ct,if_neg (by omega)]
   rfl
end
end Gx

namespace Gx
open Go Go.Proofs
open IntKind (wrap)
set_option maxRecDepth 100000
noncomputable section
variable {R:Type} (N:Nat)
def B6 (N:Nat) (b c:List UInt8) (r0:Bool→O R):O R :=
 (cond ((decide ((((b.length):Nat):Int)≥(((c.length):Nat):Int)))==true) (cond ((decide ((0:Int)≤(0:Int)))&&((decide (0≤(((c.length):Nat):Int)))&&((decide ((((c.length):Nat):Int)≤(((b.length):Nat):Int)))&&(decide ((((b.length):Nat):Int)≤(((b.length):Nat):Int)))))) (r0 (cond true ((List.take (c.length) b)==c) false)) none) (r0 false))
def Cg:=(Ag (@B6 R)).1
theorem Ct:@Cg R=@B6 R:=(Ag _).2
def Fb (F:KF R):Bool→O R:=(fun d=>F (.bool d) [])
theorem Fc (b c:List UInt8) (F:KF R):Cq [] Cn N 270 [(.str b),(.str c)] [] F=(Cg N b c (Fb F)):=by
 rw[Ct]
 kernel_rfl
def E6 (a:LA) (h:Ah) (k:KF R):O R :=
 match a,h with
 | [(.str b),(.str c)],[]=>(Cg N b c (Fb k))
 | _,_=>none
theorem Fd:Ao N 270 @E6:=by
 intro R Q a h k j;unfold E6;split;exact Av (Fc ..) (Fc ..) trivial;exact Ax
def M0:=Aw (Fd N)
def M5:=Cr (Fd N)
def B7 (b c:List UInt8) (r0:List UInt8→Bool→O R):O R :=
 (Cg N b c (fun d=>(cond (!d) (r0 b false) (cond ((decide (0≤(((c.length):Nat):Int)))&&((decide ((((c.length):Nat):Int)≤(((b.length):Nat):Int)))&&((decide ((((b.length):Nat):Int)≤(((b.length):Nat):Int)))&&(decide ((((b.length):Nat):Int)≤(((b.length):Nat):Int)))))) (r0 (List.take ((b.length) - (c.length)) (List.drop (c.length) b)) true) none))))
def Ch:=(Ag (@B7 R)).1
theorem Cu:@Ch R=@B7 R:=(Ag _).2
def N1:Dx:=[(270,M0 N)]
def Fe (F:KF R):List UInt8→Bool→O R:=(fun e f=>F (.tup [(.str e),(.bool f)]) [])
theorem Ff (b c:List UInt8) (F:KF R):Cq (N1 N) Cn N 218 [(.str b),(.str c)] [] F=(Ch N b c (Fe F)):=by
 rw[Cu]
 kernel_rfl
def E7 (a:LA) (h:Ah) (k:KF R):O R :=
 match a,h with
 | [(.str b),(.str c)],[]=>(Ch N b c (Fe k))
 | _,_=>none
theorem Fg:Ao N 218 @E7:=by
 intro R Q a h k j;unfold E7;split;exact Av (Ff ..) (Ff ..) ⟨M5 N,trivial⟩;exact Ax
def M6:=Aw (Fg N)
def M7:=Cr (Fg N)
def Hh (b c:List UInt8) (r0:List UInt8→Bool→O R):O R :=
 (Ch N b c (fun d e=>(r0 d e)))
def Cl:=(Ag (@Hh R)).1
theorem Ic:@Cl R=@Hh R:=(Ag _).2
def MQ:Dx:=[(218,M6 N)]
def Qn (F:KF R):List UInt8→Bool→O R:=(fun f g=>F (.tup [(.str f),(.bool g)]) [])
theorem Qo (b c:List UInt8) (F:KF R):Cq (MQ N) Cn N 145 [(.str b),(.str c)] [] F=(Cl N b c (Qn F)):=by
 rw[Ic]
 kernel_rfl
def Oq (a:LA) (h:Ah) (k:KF R):O R :=
 match a,h with
 | [(.str b),(.str c)],[]=>(Cl N b c (Qn k))
 | _,_=>none
theorem Qp:Ao N 145 @Oq:=by
 intro R Q a h k j;unfold Oq;split;exact Av (Qo ..) (Qo ..) ⟨M7 N,trivial⟩;exact Ax
def Je:=Aw (Qp N)
def Jf:=Cr (Qp N)
def Lr (N:Nat) (r0:Bool→O R) (b:List UInt8) (k0:Int→O R) (c:Int):O R :=
 (cond (decide (c<(((b.length):Nat):Int))) (cond ((decide ((((Yr b c).1:Nat):Int)<48))==false) (cond (cond false true (decide ((((Yr b c).1:Nat):Int)>57))) (r0 false) (k0 (c+(((Yr b c).2:Nat):Int)))) (r0 false)) (r0 (!(b==([]:List UInt8)))))
def E8 (r0:Bool→O R) (b:List UInt8):Nat→Int→O R
 | 0,_=>none
 | n+1,c=>(Lr N r0 b (E8 r0 b n) c)
def Sh (N:Nat) (r0:Bool→O R) (q0:Int→O R) (b:List UInt8):O R :=
 (q0 0)
def Gy:=(Ag (fun (N:Nat) (b:List UInt8) (r0:Bool→O R)=>(Sh N r0 (fun c=>(E8 N r0 b N c)) b))).1
theorem EY (b r0):(@Gy R N b r0)=(Sh N r0 (fun c=>(E8 N r0 b N c)) b):=by rw[Gy,(Ag _).2]
def JP:Hints:={ H:=(hS hL (hS (hS hL (hS (hP [0,6] hL) hL)) hL)) }
def lV (F:KF R):=S6 Tryz.f149 JP [] [] N F
def Jg (F:KF R):Bool→O R:=(fun d=>F (.bool d) [])
def lW (b:List UInt8) (c:Int):St:=⟨[(0,(.str b)),(6,(.omap 300000))],(hq [⟨false,false,true,false,1,[(.str b),(iv c)],true,none⟩])⟩
def lX (F:KF R):=lV N F [1,0,1,0] []
theorem Wu (F:KF R) (b:List UInt8):∀ (n:Nat) (c:Int),Ay (lX N F) n (lW b c)=(E8 N (Jg F) b n c)
 | 0,_=>by kernel_rfl
 | n+1,c=>Eq.trans (by kernel_rfl) (El (Lr N (Jg F) b · c) (funext fun c=>(Wu F b n c)):_)
theorem JQ (b:List UInt8) (F:KF R):Cq [] JP N 149 [(.str b)] [] F=(Gy N b (Jg F)):=by
 rw[EY]
 exact Eq.trans (by kernel_rfl) (El (Sh N (Jg F) · b) (funext fun c=>(At ..).trans (Wu N F b N c)):_)
def EZ (a:LA) (h:Ah) (k:KF R):O R :=
 match a,h with
 | [(.str b)],[]=>(Gy N b (Jg k))
 | _,_=>none
theorem JR:Ao N 149 @EZ:=by
 intro R Q a h k j;unfold EZ;split;exact Av (JQ ..) (JQ ..) trivial;exact Ax
def JT:=Aw (JR N)
def JU:=Cr (JR N)
def JV (b:List UInt8) (r0:Bool→O R):O R :=
 (Gy N b (fun c=>(cond (c==true) (cond ((b==([48]:List UInt8))==false) (cond (Ap 0 (b.length)) (r0 (cond true (cond false true (((UInt8.toNat (List.getD b 0 0):Nat):Int) != 48)) false)) none) (r0 true)) (r0 false))))
def Jh:=(Ag (@JV R)).1
theorem JW:@Jh R=@JV R:=(Ag _).2
def qi:Dx:=[(149,JT N)]
def PR (F:KF R):Bool→O R:=(fun d=>F (.bool d) [])
theorem PS (b:List UInt8) (F:KF R):Cq (qi N) Cn N 146 [(.str b)] [] F=(Jh N b (PR F)):=by
 rw[JW]
 kernel_rfl
def JX (a:LA) (h:Ah) (k:KF R):O R :=
 match a,h with
 | [(.str b)],[]=>(Jh N b (PR k))
 | _,_=>none
theorem PT:Ao N 146 @JX:=by
 intro R Q a h k j;unfold JX;split;exact Av (PS ..) (PS ..) ⟨JU N,trivial⟩;exact Ax
def PU:=Aw (PT N)
def PV:=Cr (PT N)
def CX (b:List UInt8) (r0:Bool→O R):O R :=
 (Cl N b ([45]:List UInt8) (fun c d=>(Jh N c (fun e=>(cond (e==true) (cond (d==true) (r0 (cond true (!(cond true (c==([48]:List UInt8)) false)) false)) (r0 true)) (r0 false))))))
def Ji:=(Ag (@CX R)).1
theorem E_:@Ji R=@CX R:=(Ag _).2
def mr:Dx:=[(145,Je N),(146,PU N)]
def JY (F:KF R):Bool→O R:=(fun f=>F (.bool f) [])
theorem JZ (b:List UInt8) (F:KF R):Cq (mr N) Cn N 78 [(.str b)] [] F=(Ji N b (JY F)):=by
 rw[E_]
 kernel_rfl
def E' (a:LA) (h:Ah) (k:KF R):O R :=
 match a,h with
 | [(.str b)],[]=>(Ji N b (JY k))
 | _,_=>none
theorem J_:Ao N 78 @E':=by
 intro R Q a h k j;unfold E';split;exact Av (JZ ..) (JZ ..) ⟨Jf N,PV N,trivial⟩;exact Ax
def KA:=Aw (J_ N)
def KB:=Cr (J_ N)
def Ms (r0:List UInt8→List UInt8→Bool→O R) (e:Bool) (d c b:List UInt8):O R :=
 (cond (Nat.ble ((d.length)+(c.length)) 140737488355328) (cond e (cond (Nat.ble (1+(List.length (d++c))) 140737488355328) (strings_Repeat N ([48]:List UInt8) (((c.length):Nat):Int) (fun i=>(cond (Nat.ble (1+(i.length)) 140737488355328) (r0 (([45]:List UInt8)++(d++c)) (([49]:List UInt8)++i) true) none))) none) (strings_Repeat N ([48]:List UInt8) (((c.length):Nat):Int) (fun l=>(cond (Nat.ble (1+(l.length)) 140737488355328) (r0 (d++c) (([49]:List UInt8)++l) true) none)))) none)
def Th (r0:List UInt8→List UInt8→Bool→O R) (q0:Bool→List UInt8→List UInt8→O R) (b:List UInt8):O R :=
 (Ji N b (fun m=>(cond m (r0 b ([49]:List UInt8) true) (strings_Cut N b ([47]:List UInt8) (fun f g n=>(cond n (Ji N f (fun o=>(cond (o==true) (Jh N g (fun p=>(r0 f g (cond true p false)))) (r0 f g false)))) (Cl N b ([45]:List UInt8) (fun q e=>(strings_Cut N q ([46]:List UInt8) (fun d c w=>(Jh N d (fun r=>(cond ((!r)==false) (Gy N c (fun s=>(cond (cond false true (!s)) (r0 ([]:List UInt8) ([]:List UInt8) false) (q0 e d c)))) (r0 ([]:List UInt8) ([]:List UInt8) false))))))))))))))
def N2:=(Ag (fun (N:Nat) (b:List UInt8) (r0:List UInt8→List UInt8→Bool→O R)=>(Th N r0 (fun e d c=>(Ms N r0 e d c b)) b))).1
theorem Si (b r0):(@N2 R N b r0)=(Th N r0 (fun e d c=>(Ms N r0 e d c b)) b):=by rw[N2,(Ag _).2]
def ew:Hints:={ H:=(hS hL (hS hL (hS hL (hS hL (hS hL (hJ [6,7,8] hL hL)))))) }
def lY:Dx:=[(78,KA N),(105,HC N),(146,PU N),(145,Je N),(149,JT N),(124,Ig N)]
def tj (F:KF R):=S6 Tryz.f81 ew (lY N) [] N F
def Wv (F:KF R):List UInt8→List UInt8→Bool→O R:=(fun t u v=>F (.tup [(.str t),(.str u),(.bool v)]) [])
def tm (e:Bool) (d c b:List UInt8):St:=⟨[(6,(.bool e)),(7,(.str d)),(8,(.str c))],[]⟩
def tn (F:KF R):=tj N F [1,1,1,1,1,1] []
theorem lZ (F:KF R) (e:Bool) (d c b:List UInt8):Eh (tn N F) (tm e d c b)=(Ms N (Wv F) e d c b):=by
 kernel_rfl
theorem ex (b:List UInt8) (F:KF R):Cq (lY N) ew N 81 [(.str b)] [] F=(N2 N b (Wv F)):=by
 rw[Si]
 exact Eq.trans (by kernel_rfl) (El (Th N (Wv F) · b) (funext fun e=>funext fun d=>funext fun c=>(Bo ..).trans (lZ N F e d c b)):_)
def YH (a:LA) (h:Ah) (k:KF R):O R :=
 match a,h with
 | [(.str b)],[]=>(N2 N b (Wv k))
 | _,_=>none
theorem ez:Ao N 81 @YH:=by
 intro R Q a h k j;unfold YH;split;exact Av (ex ..) (ex ..) ⟨KB N,iW N,PV N,Jf N,JU N,Ng N,trivial⟩;exact Ax
def tp:=Aw (ez N)
def tq:=Cr (ez N)
def N3 (N:Nat) (r0:Bool→O R) (b:List UInt8) (k0:Int→Int→O R) (d c:Int):O R :=
 (cond (decide (c<(((b.length):Nat):Int))) (cond ((decide ((((Yr b c).1:Nat):Int)≥48))==true) (cond (cond true (decide ((((Yr b c).1:Nat):Int)≤57)) false) (k0 (wrap .i64 (d+1)) (c+(((Yr b c).2:Nat):Int))) (k0 d (c+(((Yr b c).2:Nat):Int)))) (k0 d (c+(((Yr b c).2:Nat):Int)))) (r0 (decide (d>4096))))
def F7 (r0:Bool→O R) (b:List UInt8):Nat→Int→Int→O R
 | 0,_,_=>none
 | n+1,d,c=>(N3 N r0 b (F7 r0 b n) d c)
def Ww (N:Nat) (r0:Bool→O R) (q0:Int→Int→O R) (b:List UInt8):O R :=
 (q0 0 0)
def Ma:=(Ag (fun (N:Nat) (b:List UInt8) (r0:Bool→O R)=>(Ww N r0 (fun d c=>(F7 N r0 b N d c)) b))).1
theorem KC (b r0):(@Ma R N b r0)=(Ww N r0 (fun d c=>(F7 N r0 b N d c)) b):=by rw[Ma,(Ag _).2]
def PW:Hints:={ H:=(hS hL (hS hL (hS (hS hL (hS (hP [3,7] hL) hL)) hL))) }
def mt (F:KF R):=S6 Tryz.f79 PW [] [] N F
def Lb (F:KF R):Bool→O R:=(fun e=>F (.bool e) [])
def mu (b:List UInt8) (d c:Int):St:=⟨[(3,(iv d)),(7,(.omap 300000))],(hq [⟨false,false,true,false,1,[(.str b),(iv c)],true,none⟩])⟩
def mv (F:KF R):=mt N F [1,1,0,1,0] []
theorem Z3 (F:KF R) (b:List UInt8):∀ (n:Nat) (d c:Int),Ay (mv N F) n (mu b d c)=(F7 N (Lb F) b n d c)
 | 0,_,_=>by kernel_rfl
 | n+1,d,c=>Eq.trans (by kernel_rfl) (El (N3 N (Lb F) b · d c) (funext fun d=>funext fun c=>(Z3 F b n d c)):_)
theorem PX (b:List UInt8) (F:KF R):Cq [] PW N 79 [(.str b)] [] F=(Ma N b (Lb F)):=by
 rw[KC]
 exact Eq.trans (by kernel_rfl) (El (Ww N (Lb F) · b) (funext fun d=>funext fun c=>(At ..).trans (Z3 N F b N d c)):_)
def KD (a:LA) (h:Ah) (k:KF R):O R :=
 match a,h with
 | [(.str b)],[]=>(Ma N b (Lb k))
 | _,_=>none
theorem PY:Ao N 79 @KD:=by
 intro R Q a h k j;unfold KD;split;exact Av (PX ..) (PX ..) trivial;exact Ax
def PZ:=Aw (PY N)
def P_:=Cr (PY N)
def Ke (r0:Bool→Nat→LA→O R) (k0:Int→Bool→LA→Bool→Nat→LA→O R) (d:Int) (c:Bool) (b:LA) (f:Bool) (e:Nat) (g:LA):O R :=
 (cond (decide (d>0)) (cond ((Int.tmod d 2)==1) (cond (Nat.ble 2 (b.length)) (Pe N [(.bool f),(.imm (g.take (e*1)) e 1 false true)] true (b.take 2) c (fun o p q=>(cond (decide (d>1)) (cond (Nat.ble 2 (b.length)) (cond (Nat.ble 2 (b.length)) (Pe N (b.take 2) c (b.take 2) c (fun t r u=>(cond ((Nat.beq 2 2)&&((Nat.ble 2 (b.length))&&(!false))) (k0 (wrap .i64 (Int.tdiv d 2)) (c||false) (Iv b 0 [(.bool t),(.imm (u.take (r*1)) r 1 false false)]) o p q) none))) none) none) (k0 (wrap .i64 (Int.tdiv d 2)) c b o p q)))) none) (cond (decide (d>1)) (cond (Nat.ble 2 (b.length)) (cond (Nat.ble 2 (b.length)) (Pe N (b.take 2) c (b.take 2) c (fun v s w=>(cond ((Nat.beq 2 2)&&((Nat.ble 2 (b.length))&&(!false))) (k0 (wrap .i64 (Int.tdiv d 2)) (c||false) (Iv b 0 [(.bool v),(.imm (w.take (s*1)) s 1 false false)]) f e g) none))) none) none) (k0 (wrap .i64 (Int.tdiv d 2)) c b f e g))) (r0 f e g))
def Fr (r0:Bool→Nat→LA→O R):Nat→Int→Bool→LA→Bool→Nat→LA→O R
 | 0,_,_,_,_,_,_=>none
 | n+1,d,c,b,f,e,g=>(Ke N r0 (Fr r0 n) d c b f e g)
def MK (r0:Bool→Nat→LA→O R) (q0:Int→Bool→LA→Bool→Nat→LA→O R) (i:LA) (l:Bool) (m:Int):O R :=
 (Bm N 1 (fun x y z=>(q0 m l i x y z)))
def Lc:=(Ag (fun (N:Nat) (i:LA) (l:Bool) (m:Int) (r0:Bool→Nat→LA→O R)=>(MK N r0 (fun d c b f e g=>(Fr N r0 N d c b f e g)) i l m))).1
theorem YI (i l m r0):(@Lc R N i l m r0)=(MK N r0 (fun d c b f e g=>(Fr N r0 N d c b f e g)) i l m):=by rw[Lc,(Ag _).2]
def fA:Hints:={ H:=(hS hL (hS hL (hS (hS (hP [1,2,4,5] hL) hL) hL))) }
def l4:Dx:=[(64,Fw N),(68,Y7 N)]
def tt (F:KF R):=S6 Tryz.f69 fA (l4 N) [] N F
def Qq (F:KF R):Bool→Nat→LA→O R:=(fun aa ab ac=>F (.agg [(.bool aa),(.own 300000 0 ab)]) (hq [(bQ 1 ac)]))
def tw (d:Int) (c:Bool) (b:LA) (f:Bool) (e:Nat) (g:LA):St:=⟨[(1,(iv d)),(2,(op 0)),(4,(op 1)),(5,(op 2))],(hq [(bP c 0 b),(bN 0 [(.bool false),.nsl]),(bN 0 [(.bool f),(.own 300003 0 e)]),(bQ 1 g)])⟩
def tz (F:KF R):=tt N F [1,1,0,0] []
theorem KE (F:KF R):∀ (n:Nat) (d:Int) (c:Bool) (b:LA) (f:Bool) (e:Nat) (g:LA),Ay (tz N F) n (tw d c b f e g)=(Fr N (Qq F) n d c b f e g)
 | 0,_,_,_,_,_,_=>by kernel_rfl
 | n+1,d,c,b,f,e,g=>Eq.trans (by kernel_rfl) (El (Ke N (Qq F) · d c b f e g) (funext fun d=>funext fun c=>funext fun b=>funext fun f=>funext fun e=>funext fun g=>(KE F n d c b f e g)):_)
theorem fB (i:LA) (l:Bool) (m:Int) (F:KF R):Cq (l4 N) fA N 69 [(.pagg i l),(iv m)] [] F=(Lc N i l m (Qq F)):=by
 rw[YI]
 exact Eq.trans (by kernel_rfl) (El (MK N (Qq F) · i l m) (funext fun d=>funext fun c=>funext fun b=>funext fun f=>funext fun e=>funext fun g=>(At ..).trans (KE N F N d c b f e g)):_)
def YJ (a:LA) (h:Ah) (k:KF R):O R :=
 match a,h with
 | [(.pagg i l),(.int .i64 m)],[]=>(Lc N i l m (Qq k))
 | _,_=>none
theorem fC:Ao N 69 @YJ:=by
 intro R Q a h k j;unfold YJ;split;exact Av (fB ..) (fB ..) ⟨Fx N,Y8 N,trivial⟩;exact Ax
def Wx:=Aw (fC N)
def Wy:=Cr (fC N)
def N4 (k0:List UInt8→Bool→Nat→LA→O R) (r0:LA→O R) (c d:Bool) (b:Nat) (e:LA) (m:List UInt8) (o:Int) (q:Bool) (p:Nat) (r:LA):O R :=
 (cond ((decide ((0:Int)≤(0:Int)))&&((decide (0≤o))&&((decide (o≤(((m.length):Nat):Int)))&&(decide ((((m.length):Nat):Int)≤(((m.length):Nat):Int)))))) (Rz N (List.take (o.toNat) m) (fun x=>(Pe N [(.bool q),(.imm (r.take (p*1)) p 1 false true)] true [(.bool d),(.imm (e.take (b*1)) b 1 false true)] true (fun y t z=>(Bm N x (fun aa u ab=>(BQ N [(.bool y),(.imm (z.take (t*1)) t 1 false true)] true [(.bool aa),(.imm (ab.take (u*1)) u 1 false true)] true (fun ac ad ae=>(cond ((decide (0≤o))&&((decide (o≤(((m.length):Nat):Int)))&&((decide ((((m.length):Nat):Int)≤(((m.length):Nat):Int)))&&(decide ((((m.length):Nat):Int)≤(((m.length):Nat):Int)))))) (k0 (List.take ((m.length) - (o.toNat)) (List.drop (o.toNat) m)) ac ad ae) none))))))))) none)
def Xz (r0:LA→O R) (c d:Bool) (b:Nat) (e:LA) (k0:List UInt8→Bool→Nat→LA→O R) (q1:List UInt8→Int→Bool→Nat→LA→O R) (g:List UInt8) (i:Bool) (f:Nat) (l:LA):O R :=
 (cond (!(g==([]:List UInt8))) (cond ((Int.tmod (((g.length):Nat):Int) 9)==0) (q1 g 9 i f l) (q1 g (Int.tmod (((g.length):Nat):Int) 9) i f l)) (cond c (ib N [(.bool i),(.imm (l.take (f*1)) f 1 false true)] true (fun af v ag=>(r0 [(.bool af),(.imm (ag.take (v*1)) v 1 false false)]))) (r0 [(.bool i),(.imm (l.take (f*1)) f 1 false false)])))
def Fs (r0:LA→O R) (c d:Bool) (b:Nat) (e:LA):Nat→List UInt8→Bool→Nat→LA→O R
 | 0,_,_,_,_=>none
 | n+1,g,i,f,l=>(Xz N r0 c d b e (Fs r0 c d b e n) (fun m o q p r=>(N4 N (Fs r0 c d b e n) r0 c d b e m o q p r)) g i f l)
def CY (r0:LA→O R) (q0:Bool→Bool→Nat→LA→List UInt8→Bool→Nat→LA→O R) (s:List UInt8):O R :=
 (Cl N s ([45]:List UInt8) (fun ah c=>(Bm N 0 (fun ai aj ak=>(Bm N 10 (fun al w am=>(Lc N [(.bool al),(.imm (am.take (w*1)) w 1 false true)] true 9 (fun d b e=>(q0 c d b e ah ai aj ak)))))))))
def Mt:=(Ag (fun (N:Nat) (s:List UInt8) (r0:LA→O R)=>(CY N r0 (fun c d b e g i f l=>(Fs N r0 c d b e N g i f l)) s))).1
theorem P' (s r0):(@Mt R N s r0)=(CY N r0 (fun c d b e g i f l=>(Fs N r0 c d b e N g i f l)) s):=by rw[Mt,(Ag _).2]
def YK:Hints:={ H:=(hS hL (hS hL (hS hL (hS hL (hS (hS (hP [0,2,3,4,5] (hS hL (hS (hS hL (hJ [0,2,3,4,5,6] hL hL)) hL))) hL) hL))))),modes:=[(3,0)] }
def fD:Dx:=[(145,Je N),(64,Fw N),(69,Wx N),(148,yE N),(147,DX N),(68,Y7 N),(144,oK N)]
def YL (F:KF R):=S6 Tryz.f80 YK (fD N) [] N F
def Hi (F:KF R):LA→O R:=(fun an=>F (.pagg an false) [])
def qk (c d:Bool) (b:Nat) (e:LA) (m:List UInt8) (o:Int) (q:Bool) (p:Nat) (r:LA):St:=⟨[(0,(.str m)),(2,(op 0)),(3,(.bool c)),(4,(op 1)),(5,(op 2)),(6,(iv o))],(hq [(bN 0 [(.bool false),.nsl]),(bN 0 [(.bool q),(.own 300003 0 p)]),(bN 0 [(.bool d),(.own 300004 0 b)]),(bQ 1 r),(bQ 1 e)])⟩
def ql (F:KF R) (Q0:St→O R):=YL N F [1,1,1,1,0,0,0,1,0,1,1] [Q0]
def YM (c d:Bool) (b:Nat) (e:LA) (g:List UInt8) (i:Bool) (f:Nat) (l:LA):St:=⟨[(0,(.str g)),(2,(op 0)),(3,(.bool c)),(4,(op 1)),(5,(op 2))],(hq [(bN 0 [(.bool false),.nsl]),(bN 0 [(.bool i),(.own 300003 0 f)]),(bN 0 [(.bool d),(.own 300004 0 b)]),(bQ 1 l),(bQ 1 e)])⟩
def YN (F:KF R):=YL N F [1,1,1,1,0,0] []
theorem ft (Q0:St→O R) (F:KF R) (c d:Bool) (b:Nat) (e:LA):∀ (m:List UInt8) (o:Int) (q:Bool) (p:Nat) (r:LA),Eh (ql N F Q0) (qk c d b e m o q p r)=(N4 N (fun g i f l=>Q0 (YM c d b e g i f l)) (Hi F) c d b e m o q p r):=by
 intro m o q p r
 kernel_rfl
theorem FA (F:KF R) (c d:Bool) (b:Nat) (e:LA):∀ (n:Nat) (g:List UInt8) (i:Bool) (f:Nat) (l:LA),Ay (YN N F) n (YM c d b e g i f l)=(Fs N (Hi F) c d b e n g i f l)
 | 0,_,_,_,_=>by kernel_rfl
 | n+1,g,i,f,l=>have e0:=(funext fun g=>funext fun i=>funext fun f=>funext fun l=>(FA F c d b e n g i f l))
  Eq.trans (by kernel_rfl) (vC (Xz N (Hi F) c d b e · · g i f l) e0 (funext fun m=>funext fun o=>funext fun q=>funext fun p=>funext fun r=>(Bo ..).trans ((ft N (Ay (YN N F) n) F c d b e m o q p r).trans (El (N4 N · (Hi F) c d b e m o q p r) e0))):_)
theorem YO (s:List UInt8) (F:KF R):Cq (fD N) YK N 80 [(.str s)] [] F=(Mt N s (Hi F)):=by
 rw[P']
 exact Eq.trans (by kernel_rfl) (El (CY N (Hi F) · s) (funext fun c=>funext fun d=>funext fun b=>funext fun e=>funext fun g=>funext fun i=>funext fun f=>funext fun l=>(At ..).trans (FA N F c d b e N g i f l)):_)
def QA (a:LA) (h:Ah) (k:KF R):O R :=
 match a,h with
 | [(.str s)],[]=>(Mt N s (Hi k))
 | _,_=>none
theorem YP:Ao N 80 @QA:=by
 intro R Q a h k j;unfold QA;split;exact Av (YO ..) (YO ..) ⟨Jf N,Fx N,Wy N,yF N,strconv_Atoi_ok N,Y8 N,oL N,trivial⟩;exact Ax
def YQ:=Aw (YP N)
def YR:=Cr (YP N)
def CZ (b:List UInt8) (r0:LA→Int→O R):O R :=
 (N2 N b (fun d e f=>(cond (!f) (r0 [(.bool false),.nsl,.nsl] 2) (Ma N b (fun g=>(cond g (r0 [(.bool false),.nsl,.nsl] 8) (Mt N d (fun i=>(Mt N e (fun l=>(jS N i false l false (fun c m=>(cond ((Nat.beq 0 0)&&((Nat.beq (c.length) 3)&&(Nat.beq 3 3))) (cond (!m) (r0 [(.bool false),.nsl,.nsl] 5) (cond (Nat.ble 3 (c.length)) (cond ((Nat.beq 0 0)&&((Nat.beq ((c.take 3).length) 3)&&(Nat.beq 3 3))) (cond (Nat.ble 3 ((c.take 3).length)) (r0 ((c.take 3).take 3) 0) none) none) none)) none)))))))))))))
def D1:=(Ag (@CZ R)).1
theorem FB:@D1 R=@CZ R:=(Ag _).2
def mw:Dx:=[(81,tp N),(79,PZ N),(80,YQ N),(82,y6 N)]
def KG (F:KF R):LA→Int→O R:=(fun n o=>F (.tup [(.pagg n false),(iv o)]) [])
theorem KH (b:List UInt8) (F:KF R):Cq (mw N) zy N 24 [(.str b)] [] F=(D1 N b (KG F)):=by
 rw[FB]
 kernel_rfl
def FC (a:LA) (h:Ah) (k:KF R):O R :=
 match a,h with
 | [(.str b)],[]=>(D1 N b (KG k))
 | _,_=>none
theorem KI:Ao N 24 @FC:=by
 intro R Q a h k j;unfold FC;split;exact Av (KH ..) (KH ..) ⟨tq N,P_ N,YR N,y7 N,trivial⟩;exact Ax
def Us:=Aw (KI N)
def Ut:=Cr (KI N)
def ML (rec:LA→Bool→Bool→Nat→LA→(LA→Bool→Int→O R)→O R) (e:LA) (g f:Bool) (b:Nat) (c:LA) (r0:LA→Bool→Int→O R):O R :=
 (cond (Nat.ble 2 (e.length)) (D5 N (e.take 2) g [(.bool f),(.imm (c.take (b*1)) b 1 false true)] true (fun i m z=>(cond ((Nat.beq 0 0)&&((Nat.beq (i.length) 2)&&(Nat.beq 2 2))) (cond ((Nat.beq 0 0)&&((Nat.beq (m.length) 2)&&(Nat.beq 2 2))) (cond (Nat.ble 2 (m.length)) (Ij N (m.take 2) false (fun r=>(cond (r != 0) (cond (Nat.ble 2 (e.length)) (cond ((Nat.beq 0 0)&&((Nat.beq ((e.take 2).length) 2)&&(Nat.beq 2 2))) (cond (Nat.ble 2 ((e.take 2).length)) (r0 ((e.take 2).take 2) g 0) none) none) none) (cond (Nat.ble 2 (i.length)) (Pe N [(.bool f),(.imm (c.take (b*1)) b 1 false true)] true [(.bool f),(.imm (c.take (b*1)) b 1 false true)] true (fun s t u=>(rec (i.take 2) false s t u (fun l p q=>(cond ((Nat.beq 0 0)&&((Nat.beq (l.length) 2)&&(Nat.beq 2 2))) (cond (Nat.ble 2 (l.length)) (D5 N (l.take 2) p [(.bool f),(.imm (c.take (b*1)) b 1 false true)] true (fun n o aa=>(cond ((Nat.beq (n.length) 2)&&((Nat.ble 2 (i.length))&&(!false))) (cond ((Nat.beq (o.length) 2)&&((Nat.ble 2 (m.length))&&(!false))) (cond (Nat.ble 2 ((setCells m 0 o).length)) (Ij N ((setCells m 0 o).take 2) false (fun v=>(cond (v != 0) (cond (Nat.ble 2 (l.length)) (cond ((Nat.beq 0 0)&&((Nat.beq ((l.take 2).length) 2)&&(Nat.beq 2 2))) (cond (Nat.ble 2 ((l.take 2).length)) (r0 ((l.take 2).take 2) p (wrap .i64 ((wrap .i64 (2*q))+1))) none) none) none) (cond (Nat.ble 2 ((setCells i 0 n).length)) (cond ((Nat.beq 0 0)&&((Nat.beq (((setCells i 0 n).take 2).length) 2)&&(Nat.beq 2 2))) (cond (Nat.ble 2 (((setCells i 0 n).take 2).length)) (r0 (((setCells i 0 n).take 2).take 2) false (wrap .i64 ((wrap .i64 ((wrap .i64 (2*q))+1))+1))) none) none) none)))) none) none) none))) none) none))))) none)))) none) none) none))) none)
def Hj:Nat→LA→Bool→Bool→Nat→LA→(LA→Bool→Int→O R)→O R
 | 0=>fun _ _ _ _ _ _=>none
 | d+1=>fun e g f b c r0=>ML N (Hj d) e g f b c r0
def uA (e:LA) (g f:Bool) (b:Nat) (c:LA) (r0:LA→Bool→Int→O R):O R:=Hj N N e g f b c r0
def wQ:Dx:=[(67,Sb N),(125,T5 N),(68,Y7 N)]
def fE (c:LA) (F:KF R):LA→Bool→Int→O R:=(fun w x y=>F (.tup [(.pagg w x),(iv y)]) [(100000,(bQ 1 c))])
def Sj (d:Nat) (a:LA) (h:Ah) (k:KF R):O R :=
 match a,h with
 | [(.pagg e g),(.agg [(.bool f),(.own 100000 0 b)])],[(100000,⟨false,false,true,false,1,c,false,none⟩)]=>Hj N d e g f b c (fE c k)
 | _,_=>none
theorem fF (d:Nat) (H:Ao N 66 fun R N=>@Sj R N d) (e:LA) (g f:Bool) (b:Nat) (c:LA) (F:KF R):Cq ((66,Aw @H)::(wQ N)) zy N 66 [(.pagg e g),(.agg [(.bool f),(.own 100000 0 b)])] [(100000,(bQ 1 c))] F=(Hj N (d+1) e g f b c (fE c F)):=by kernel_rfl
theorem Qr:∀ d,Ao N 66 fun R N=>@Sj R N d
 | 0=>by
  intro a h k j;simp only[Sj];right;constructor<;>split<;>rfl
 | d+1=>by
  intro a h k j;simp only[Sj];split;exact Av (fF N d (Qr d) ..) (fF N d (Qr d) ..) ⟨Cr (Qr d),Sc N,T6 N,Y8 N,trivial⟩;exact Ax
def uB:=Aw (Qr N N)
def uC:=Cr (Qr N N)
def X0 (N:Nat) (r0:O R):O R :=
 r0
def Sk:=(Ag (@X0 R)).1
theorem Z4:@Sk R=@X0 R:=(Ag _).2
def FD (F:KF R):O R:=F (.tup []) [(100000,⟨false,false,false,false,0,[(.optr 100000 0),.nsl],false,(some (168,2))⟩)]
theorem FE (F:KF R):Cq [] Cn N 191 [(.optr 100000 0)] [(100000,⟨false,false,false,false,0,[.nilptr,.nsl],false,(some (168,2))⟩)] F=(Sk N (FD F)):=by
 rw[Z4]
 kernel_rfl
def Z5 (a:LA) (h:Ah) (k:KF R):O R :=
 match a,h with
 | [(.optr 100000 0)],[(100000,⟨false,false,false,false,0,[.nilptr,.nsl],false,(some (168,2))⟩)]=>(Sk N (FD k))
 | _,_=>none
theorem FF:Ao N 191 @Z5:=by
 intro R Q a h k j;unfold Z5;split;exact Av (FE ..) (FE ..) trivial;exact Ax
def fu:=Aw (FF N)
def fv:=Cr (FF N)
def Q8 (b:List UInt8) (r0:Int→Nat→LA→O R):O R :=
 (Sk N (cond ((Nat.ble (0+(b.length)) 140737488355328)&&(Nat.ble ((0+(b.length))*1) 140737488355328)) (r0 (((b.length):Nat):Int) (0+(b.length)) (Dh b)) none))
def Jj:=(Ag (@Q8 R)).1
theorem Uu:@Jj R=@Q8 R:=(Ag _).2
def cB:Dx:=[(191,fu N)]
def Wz (F:KF R):Int→Nat→LA→O R:=(fun c d e=>F (.tup [(iv c),.undef]) [(100000,⟨false,false,false,false,0,[(.optr 100000 0),(.own 300000 0 d)],false,(some (168,2))⟩),(300000,⟨false,false,true,false,1,e,false,(some (5,0))⟩)])
theorem W0 (b:List UInt8) (F:KF R):Cq (cB N) Cn N 113 [(.optr 100000 0),(.str b)] [(100000,⟨false,false,false,false,0,[.nilptr,.nsl],false,(some (168,2))⟩)] F=(Jj N b (Wz F)):=by
 rw[Uu]
 kernel_rfl
def l5 (N:Nat) (r0:O R):O R :=
 r0
def MM:=(Ag (@l5 R)).1
theorem mz:@MM R=@l5 R:=(Ag _).2
def YS (F:KF R):O R:=F (.str ([]:List UInt8)) [(100000,⟨false,false,false,false,0,[.nilptr,.nsl],false,(some (168,2))⟩)]
theorem YT (F:KF R):Cq [] Cn N 116 [(.optr 100000 0)] [(100000,⟨false,false,false,false,0,[.nilptr,.nsl],false,(some (168,2))⟩)] F=(MM N (YS F)):=by
 rw[mz]
 kernel_rfl
def Pr (N b:Nat) (c:LA) (r0:O R):O R :=
 r0
def Ls:=(Ag (@Pr R)).1
theorem Rp:@Ls R=@Pr R:=(Ag _).2
def Uv (b:Nat) (c:LA) (F:KF R):O R:=F (.tup []) [(100000,⟨false,false,false,false,0,[(.optr 100000 0),(.own 100001 0 b)],false,(some (168,2))⟩),(100001,⟨false,false,true,false,1,c,false,(some (5,0))⟩)]
theorem Uw (b:Nat) (c:LA) (F:KF R):Cq [] Cn N 191 [(.optr 100000 0)] [(100000,⟨false,false,false,false,0,[(.optr 100000 0),(.own 100001 0 b)],false,(some (168,2))⟩),(100001,⟨false,false,true,false,1,c,false,(some (5,0))⟩)] F=(Ls N b c (Uv b c F)):=by
 rw[Rp]
 kernel_rfl
def Rq (a:LA) (h:Ah) (k:KF R):O R :=
 match a,h with
 | [(.optr 100000 0)],[(100000,⟨false,false,false,false,0,[(.optr 100000 0),(.own 100001 0 b)],false,(some (168,2))⟩),(100001,⟨false,false,true,false,1,c,false,(some (5,0))⟩)]=>(Ls N b c (Uv b c k))
 | _,_=>none
theorem Ux:Ao N 191 @Rq:=by
 intro R Q a h k j;unfold Rq;split;exact Av (Uw ..) (Uw ..) trivial;exact Ax
def S_:=Aw (Ux N)
def TA:=Cr (Ux N)
def Mb (b:List UInt8) (c:Nat) (d:LA) (r0:Int→Nat→LA→O R):O R :=
 (Ls N c d (cond ((Nat.ble (c+(b.length)) 140737488355328)&&(Nat.ble ((c+(b.length))*1) 140737488355328)) (r0 (((b.length):Nat):Int) (c+(b.length)) ((d.take (c*1))++(Dh b))) none))
def Da:=(Ag (@Mb R)).1
theorem Ot:@Da R=@Mb R:=(Ag _).2
def MR:Dx:=[(191,S_ N)]
def Qs (F:KF R):Int→Nat→LA→O R:=(fun e f g=>F (.tup [(iv e),.undef]) [(100000,⟨false,false,false,false,0,[(.optr 100000 0),(.own 300000 0 f)],false,(some (168,2))⟩),(300000,⟨false,false,true,false,1,g,false,(some (5,0))⟩)])
theorem Qt (b:List UInt8) (c:Nat) (d:LA) (F:KF R):Cq (MR N) Cn N 113 [(.optr 100000 0),(.str b)] [(100000,⟨false,false,false,false,0,[(.optr 100000 0),(.own 100001 0 c)],false,(some (168,2))⟩),(100001,⟨false,false,true,false,1,d,false,(some (5,0))⟩)] F=(Da N b c d (Qs F)):=by
 rw[Ot]
 kernel_rfl
end
end Gx

namespace Gx
open Go Go.Proofs
section
variable {R:Type}
theorem X1 {N:Nat} {b:List UInt8} {c:UInt8} {K:List UInt8→Bool→O R}:Cl N (c::b) [c] K=K b true:=by
 rw[Ic];unfold Hh
 rw[Cu];unfold B7
 rw[Ct];unfold B6
 have d:((decide ((((c::b).length:Nat):Int)≥((([c]:List UInt8).length:Nat):Int)))==true)=true:=by simp;omega
 have e:((decide ((0:Int)≤(0:Int)))&&((decide ((0:Int)≤((([c]:List UInt8).length:Nat):Int)))&&((decide (((([c]:List UInt8).length:Nat):Int)≤(((c::b).length:Nat):Int)))&&(decide ((((c::b).length:Nat):Int)≤(((c::b).length:Nat):Int))))))=true:=by simp;omega
 have f:((decide ((0:Int)≤((([c]:List UInt8).length:Nat):Int)))&&((decide (((([c]:List UInt8).length:Nat):Int)≤(((c::b).length:Nat):Int)))&&((decide ((((c::b).length:Nat):Int)≤(((c::b).length:Nat):Int)))&&(decide ((((c::b).length:Nat):Int)≤(((c::b).length:Nat):Int))))))=true:=by simp;omega
 rw[d,ct,e,ct,show cond true ((List.take ([c]:List UInt8).length (c::b))==[c]) false=true by simp]
 dsimp only
 rw[show(!true)=false by rfl,cf,f,ct]
 simp
theorem Uy {N:Nat} {b:List UInt8} {c:UInt8} {K:List UInt8→Bool→O R} (h:b.head?≠some c):Cl N b [c] K=K b false:=by
 rw[Ic];unfold Hh
 rw[Cu];unfold B7
 rw[Ct];unfold B6
 cases b with
 | nil=>rfl
 | cons d r =>
  have e:d≠c:=by simpa using h
  have f:((decide ((((d::r).length:Nat):Int)≥((([c]:List UInt8).length:Nat):Int)))==true)=true:=by simp;omega
  have i:((decide ((0:Int)≤(0:Int)))&&((decide ((0:Int)≤((([c]:List UInt8).length:Nat):Int)))&&((decide (((([c]:List UInt8).length:Nat):Int)≤(((d::r).length:Nat):Int)))&&(decide ((((d::r).length:Nat):Int)≤(((d::r).length:Nat):Int))))))=true:=by simp;omega
  rw[f,ct,i,ct,show cond true ((List.take ([c]:List UInt8).length (d::r))==[c]) false=false by simp[e]]
  rfl
theorem l6 {s:List UInt8} {p:Nat} (h:p<s.length) (b:s[p].toNat<128):Yr s (p:Int)=(s[p].toNat,1):=by
 unfold Yr
 rw[Int.toNat_natCast]
 exact decode_ascii ⟨⟨s⟩⟩ p h b
theorem zI {s:List UInt8} {p:Nat} (h:p<s.length) (b:128≤s[p].toNat):128≤(Yr s (p:Int)).1:=by
 unfold Yr
 rw[Int.toNat_natCast]
 exact(decode_high ⟨⟨s⟩⟩ p h b).1
theorem nA {N:Nat} {s:List UInt8} {K:Bool→O R} (d:s≠[]):∀ (m p b:Nat),p≤s.length→s.length - p=m→m<b→E8 N K s b (p:Int)=K ((s.drop p).all Bl):=by
 intro m
 induction m with
 | zero =>
  intro p b e f i
  cases b with
  | zero=>omega
  | succ b =>
   rw[E8];unfold Lr
   rw[VC (by omega),cf,List.drop_eq_nil_of_le (by omega),show(!(s==([]:List UInt8)))=true by simp[d]]
   rfl
 | succ m j =>
  intro p b e f i
  cases b with
  | zero=>omega
  | succ b =>
   have c:p<s.length:=by omega
   rw[E8];unfold Lr
   rw[NR c,ct,List.drop_eq_getElem_cons c,List.all_cons]
   by_cases k:s[p].toNat<128
   ·rw[l6 c k]
    simp only
    by_cases l:s[p].toNat<48
    ·rw[show(decide (((s[p].toNat:Nat):Int)<48)==false)=false by simp;omega,cf]
     have:Bl s[p]=false:=by simp[Bl];omega
     rw[this];rfl
    ·rw[show(decide (((s[p].toNat:Nat):Int)<48)==false)=true by simp;omega,ct]
     by_cases n:s[p].toNat>57
     ·rw[show cond false true (decide (((s[p].toNat:Nat):Int)>57))=true by simp;omega,ct]
      have:Bl s[p]=false:=by simp[Bl];omega
      rw[this];rfl
     ·rw[show cond false true (decide (((s[p].toNat:Nat):Int)>57))=false by simp;omega,cf]
      have:Bl s[p]=true:=by simp[Bl];omega
      rw[this,Bool.true_and,show((p:Int)+((1:Nat):Int))=((p+1:Nat):Int) by omega]
      exact j (p+1) b (by omega) (by omega) (by omega)
   ·have q:=zI c (by omega)
    have:Bl s[p]=false:=by simp[Bl];omega
    rw[this,show(decide ((((Yr s (p:Int)).1:Nat):Int)<48)==false)=true by simp;omega,ct,show cond false true (decide ((((Yr s (p:Int)).1:Nat):Int)>57))=true by simp;omega,ct]
    rfl
theorem QB {N:Nat} {s:List UInt8} {K:Bool→O R} (b:s.length<N):Gy N s K=K (RH s):=by
 rw[EY];unfold Sh
 cases s with
 | nil =>
  obtain⟨n,rfl⟩:∃ n,N=n+1:=⟨N - 1,by simp at b;omega⟩
  rfl
 | cons c r =>
  have:=nA (R:=R) (N:=N) (s:=c::r) (K:=K) (by simp) (c::r).length 0 N (by omega) (by omega) b
  refine Eq.trans this ?_
  congr 1
  simp[RH]
theorem Sl {N:Nat} {s:List UInt8} {K:Bool→O R} (i:s.length<N):Jh N s K=K (D7 s):=by
 rw[JW];unfold JV
 rw[QB i]
 by_cases b:RH s=true
 ·rw[b,show(true==true)=true by rfl,ct]
  unfold D7
  rw[b,Bool.true_and]
  by_cases f:s=[48]
  ·subst f;rfl
  ·have j:(s==[48])=false:=by simpa using f
   rw[j,show(false==false)=true by rfl,ct,Bool.false_or]
   cases s with
   | nil=>simp[RH] at b
   | cons c r =>
    rw[show Ap 0 (c::r).length=true by unfold Ap;simp,ct]
    congr 1
    simp only[cond_true,cond_false,List.getD_cons_zero,List.head?_cons]
    by_cases d:c=48
    ·subst d;rfl
    ·have:(((c.toNat:Nat):Int) != 48)=true:=by
      rw[bne_iff_ne];intro e
      apply d;apply UInt8.toNat_inj.1
      have:c.toNat=48:=by omega
      rw[this];rfl
     rw[this]
     have k:((some c:Option UInt8) != some 48)=true:=by rw[bne_iff_ne];simpa using d
     rw[k]
 ·have b:RH s=false:=by simpa using b
  rw[b,show(false==true)=false by rfl,cf]
  unfold D7
  rw[b];rfl
def MS (s:List UInt8):Bool:=match s with
 | 45::r=>D7 r&&!(r==[48])
 | s=>D7 s
theorem Ia {N:Nat} {s:List UInt8} {K:Bool→O R} (b:s.length<N):Ji N s K=K (MS s):=by
 rw[E_];unfold CX
 by_cases h:s.head?=some 45
 ·obtain⟨r,rfl⟩:∃ r,s=45::r:=by
   cases s with
   | nil=>simp at h
   | cons c r=>simp at h;exact⟨r,by rw[h]⟩
  rw[X1,Sl (by simp at b;omega)]
  show _=K (D7 r&&!(r==[48]))
  cases D7 r
  ·rfl
  ·rw[Bool.true_and];cases r==[48]<;>rfl
 ·rw[Uy h,Sl b]
  have:MS s=D7 s:=by
   unfold MS
   split
   ·simp at h
   ·rfl
  rw[this]
  cases D7 s<;>rfl
def Vg (s:List UInt8):Nat:=s.countP Bl
theorem qn {N:Nat} {s:List UInt8} {K:Bool→O R} (i:∀ c ∈ s,c.toNat<128) (u:s.length≤1000000000000):∀ (m p d b:Nat),p≤s.length→s.length - p=m→m<b→d≤p→F7 N K s b (d:Int) (p:Int)=K (decide (4096<d+Vg (s.drop p))):=by
 intro m
 induction m with
 | zero =>
  intro p d b j k l n
  cases b with
  | zero=>omega
  | succ b =>
   rw[F7];unfold N3
   rw[VC (by omega),cf,List.drop_eq_nil_of_le (by omega)]
   congr 1
   rw[decide_eq_decide];simp[Vg];omega
 | succ m f =>
  intro p d b j k l n
  cases b with
  | zero=>omega
  | succ b =>
   have e:p<s.length:=by omega
   have q:s[p].toNat<128:=i _ (List.getElem_mem e)
   rw[F7];unfold N3
   rw[NR e,ct,List.drop_eq_getElem_cons e,l6 e q]
   simp only
   rw[show((p:Int)+((1:Nat):Int))=((p+1:Nat):Int) by omega]
   have t:Vg (s[p]::s.drop (p+1))=Vg (s.drop (p+1))+(if Bl s[p] then 1 else 0):=by unfold Vg;rw[List.countP_cons]
   rw[t]
   by_cases v:48≤s[p].toNat
   ·rw[show(decide (((s[p].toNat:Nat):Int)≥48)==true)=true by simp;omega,ct]
    by_cases x:s[p].toNat≤57
    ·rw[show cond true (decide (((s[p].toNat:Nat):Int)≤57)) false=true by simp;omega,ct,wS (by omega),f (p+1) (d+1) b (by omega) (by omega) (by omega) (by omega)]
     have:Bl s[p]=true:=by simp[Bl];omega
     rw[this,if_pos rfl]
     congr 1;rw[decide_eq_decide];omega
    ·rw[show cond true (decide (((s[p].toNat:Nat):Int)≤57)) false=false by simp;omega,cf,f (p+1) d b (by omega) (by omega) (by omega) (by omega)]
     have:Bl s[p]=false:=by simp[Bl];omega
     rw[this];rfl
   ·rw[show(decide (((s[p].toNat:Nat):Int)≥48)==true)=false by simp;omega,cf,f (p+1) d b (by omega) (by omega) (by omega) (by omega)]
    have:Bl s[p]=false:=by simp[Bl];omega
    rw[this];rfl
theorem YU {N:Nat} {s:List UInt8} {K:Bool→O R} (b:∀ c ∈ s,c.toNat<128) (d:s.length≤1000000000000) (e:s.length<N):Ma N s K=K (decide (4096<Vg s)):=by
 rw[KC];unfold Ww
 have:=qn (R:=R) (N:=N) (K:=K) b d s.length 0 0 N (by omega) (by omega) e (by omega)
 simpa using this
end
end Gx

namespace Gx
open Go Go.Proofs
open IntKind (wrap)
set_option maxRecDepth 100000
noncomputable section
variable {R:Type} (N:Nat)
def X2 (N b:Nat) (c:LA) (r0:List UInt8→O R):O R :=
 (cond (Nat.blt 0 b) (cond ((Nat.beq 5 5)&&((Nat.beq 1 1)&&(true&&((!false)&&((Nat.beq 0 0)&&((decide (0<((b:Nat):Int)))&&((decide (((b:Nat):Int)≤(((c.length):Nat):Int)))&&(decide (((b:Nat):Int)≤9223372036854775807))))))))) (Option.bind (P9 (c.take b)) fun d=>(r0 d)) none) none)
def N5:=(Ag (@X2 R)).1
theorem Z6:@N5 R=@X2 R:=(Ag _).2
def FG (F:KF R):List UInt8→O R:=(fun e=>F (.str e) [(100000,⟨false,false,false,false,0,[(.optr 100000 0),.undef],false,(some (168,2))⟩)])
theorem FH (b:Nat) (c:LA) (F:KF R):Cq [] Cn N 116 [(.optr 100000 0)] [(100000,⟨false,false,false,false,0,[(.optr 100000 0),(.own 100001 0 b)],false,(some (168,2))⟩),(100001,⟨false,false,true,false,1,c,false,(some (5,0))⟩)] F=(N5 N b c (FG F)):=by
 rw[Z6]
 kernel_rfl
def X3 (r0:List UInt8→O R) (b:Nat) (c:LA) (k3:Int→Int→Nat→LA→O R) (p m:Int) (q:Nat) (r:LA):O R :=
 (cond (decide (m<p)) (cond (Ap (wrap .i64 ((wrap .i64 (((b:Nat):Int) - 1)) - m)) b) (Gb .i64 (c.drop (0+(((wrap .i64 ((wrap .i64 (((b:Nat):Int) - 1)) - m)).toNat)*1))) fun ae=>(strconv_Itoa N ae (fun x=>(cond (decide (m>0)) (strings_Repeat N ([48]:List UInt8) (wrap .i64 (9 - (((x.length):Nat):Int))) (fun af=>(Da N af q r (fun ba ag ah=>(Da N x ag ah (fun bb ai aj=>(k3 p (wrap .i64 (m+1)) ai aj))))))) (Da N x q r (fun bc ak al=>(k3 p (wrap .i64 (m+1)) ak al))))))) none) (N5 N q r (fun am=>(r0 am))))
def N6 (r0:List UInt8→O R) (b:Nat) (c:LA):Nat→Int→Int→Nat→LA→O R
 | 0,_,_,_,_=>none
 | n+1,p,m,q,r=>(X3 N r0 b c (N6 r0 b c n) p m q r)
def X4 (r0:List UInt8→O R) (b:Nat) (c:LA) (k2:Int→O R) (k3:Int→Int→Nat→LA→O R) (s:Int):O R :=
 (cond (decide (0<s)) (cond (Ap (wrap .i64 ((wrap .i64 (((b:Nat):Int) - 1)) - 0)) b) (Gb .i64 (c.drop (0+(((wrap .i64 ((wrap .i64 (((b:Nat):Int) - 1)) - 0)).toNat)*1))) fun an=>(strconv_Itoa N an (fun ao=>(Jj N ao (fun bd ap aq=>(k3 s 1 ap aq)))))) none) (MM N (r0 ([]:List UInt8))))
def N7 (r0:List UInt8→O R) (b:Nat) (c:LA):Nat→Int→O R
 | 0,_=>none
 | n+1,s=>(X4 N r0 b c (N7 r0 b c n) (fun p m q r=>(N6 N r0 b c n p m q r)) s)
def X5 (r0:List UInt8→O R) (f:Bool) (d:Nat) (g:LA) (i:Bool) (e:Nat) (l:LA) (k1:Nat→LA→LA→O R) (q2:Int→O R) (b:Nat) (o c:LA):O R :=
 (cond (Nat.ble 2 (o.length)) (Ij N (o.take 2) false (fun ar=>(cond (decide (ar>0)) (cond (Nat.ble 2 (o.length)) (D5 N (o.take 2) false [(.bool f),(.imm (g.take (d*1)) d 1 false true)] true (fun v y be=>(cond ((Nat.beq 0 0)&&((Nat.beq (v.length) 2)&&(Nat.beq 2 2))) (cond ((Nat.beq 0 0)&&((Nat.beq (y.length) 2)&&(Nat.beq 2 2))) (cond (Nat.ble 2 (y.length)) (Qk N (y.take 2) false (fun au bf=>(cond ((Nat.ble (b+1) 140737488355328)&&(Nat.ble ((b+1)*8) 140737488355328)) (cond (Nat.ble 2 (v.length)) (cond ((Nat.beq ((v.take 2).length) 2)&&((Nat.ble 2 (o.length))&&(!false))) (k1 (b+1) (setCells o 0 (v.take 2)) ((c.take (b*1))++[(.int .i64 au)])) none) none) none))) none) none) none))) none) (cond (((b:Nat):Int)==0) (r0 ([48]:List UInt8)) (q2 ((b:Nat):Int)))))) none)
def N8 (r0:List UInt8→O R) (f:Bool) (d:Nat) (g:LA) (i:Bool) (e:Nat) (l:LA):Nat→Nat→LA→LA→O R
 | 0,_,_,_=>none
 | n+1,b,o,c=>(X5 N r0 f d g i e l (N8 r0 f d g i e l n) (fun s=>(N7 N r0 b c N s)) b o c)
def X6 (r0:List UInt8→O R) (f:Bool) (d:Nat) (i:Bool) (e:Nat) (g l:LA) (k0:O R) (k1:Nat→LA→LA→O R):O R :=
 (Ij N [(.bool i),(.imm (l.take (e*1)) e 1 false true)] true (fun av=>(cond (decide (av>0)) (D5 N [(.bool i),(.imm (l.take (e*1)) e 1 false true)] true [(.bool f),(.imm (g.take (d*1)) d 1 false true)] true (fun w z bg=>(cond ((Nat.beq 0 0)&&((Nat.beq (w.length) 2)&&(Nat.beq 2 2))) (cond ((Nat.beq 0 0)&&((Nat.beq (z.length) 2)&&(Nat.beq 2 2))) (cond (Nat.ble 2 (z.length)) (Qk N (z.take 2) false (fun aw bh=>(cond (Nat.ble 2 (w.length)) (cond ((Nat.beq 0 0)&&((Nat.beq ((w.take 2).length) 2)&&(Nat.beq 2 2))) (k1 1 (w.take 2) [(.int .i64 aw)]) none) none))) none) none) none))) (r0 ([48]:List UInt8)))))
def Kf (r0:List UInt8→O R) (f:Bool) (d:Nat) (i:Bool) (e:Nat) (g l:LA):Nat→O R
 | 0=>none
 | n+1=>(X6 N r0 f d i e g l (Kf r0 f d i e g l n) (fun b o c=>(N8 N r0 f d g i e l n b o c)))
def C_ (r0:List UInt8→O R) (q0:Bool→Nat→Bool→Nat→LA→LA→O R) (t:LA) (u:Bool):O R :=
 (Bm N 10 (fun ax ad ay=>(Lc N [(.bool ax),(.imm (ay.take (ad*1)) ad 1 false true)] true 9 (fun f d g=>(cond (Nat.ble 2 (t.length)) (kO N (t.take 2) u (fun i e l=>(q0 f d i e g l))) none)))))
def Ti:=(Ag (fun (N:Nat) (t:LA) (u:Bool) (r0:List UInt8→O R)=>(C_ N r0 (fun f d i e g l=>(Kf N r0 f d i e g l N)) t u))).1
theorem QC (t u r0):(@Ti R N t u r0)=(C_ N r0 (fun f d i e g l=>(Kf N r0 f d i e g l N)) t u):=by rw[Ti,(Ag _).2]
def YV:Hints:={ H:=(hS hL (hS hL (hS hL (hS hL (hS (hS (hP [3,4,5] hL) hL) (hS hL (hS hL (hS (hS hL (hS (hP [5,11,42,43] hL) hL)) hL)))))))),nils:=[(5,1)] }
def Di (a:LA) (h:Ah) (k:KF R):O R :=
 match a,h with
 | [(.optr 100000 0),(.str aa)],[(100000,⟨false,false,false,false,0,[.nilptr,.nsl],false,(some (168,2))⟩)]=>(Jj N aa (Wz k))
 | [(.optr 100000 0),(.str aa)],[(100000,⟨false,false,false,false,0,[(.optr 100000 0),(.own 100001 0 ab)],false,(some (168,2))⟩),(100001,⟨false,false,true,false,1,ac,false,(some (5,0))⟩)]=>(Da N aa ab ac (Qs k))
 | _,_=>none
theorem Dq:Ao N 113 @Di:=by
 intro R Q a h k j;unfold Di;split;exact Av (W0 ..) (W0 ..) ⟨fv N,trivial⟩;exact Av (Qt ..) (Qt ..) ⟨TA N,trivial⟩;exact Ax
def It:=Aw (Dq N)
def Iu:=Cr (Dq N)
def Gp (a:LA) (h:Ah) (k:KF R):O R :=
 match a,h with
 | [(.optr 100000 0)],[(100000,⟨false,false,false,false,0,[.nilptr,.nsl],false,(some (168,2))⟩)]=>(MM N (YS k))
 | [(.optr 100000 0)],[(100000,⟨false,false,false,false,0,[(.optr 100000 0),(.own 100001 0 ab)],false,(some (168,2))⟩),(100001,⟨false,false,true,false,1,ac,false,(some (5,0))⟩)]=>(N5 N ab ac (FG k))
 | _,_=>none
theorem Gz:Ao N 116 @Gp:=by
 intro R Q a h k j;unfold Gp;split;exact Av (YT ..) (YT ..) trivial;exact Av (FH ..) (FH ..) trivial;exact Ax
def Qu:=Aw (Gz N)
def Qv:=Cr (Gz N)
def fG:Dx:=[(64,Fw N),(69,Wx N),(200,yf N),(125,T5 N),(67,Sb N),(201,tI N),(114,DW N),(113,It N),(116,Qu N),(124,Ig N)]
def YW (F:KF R):=S6 Tryz.f123 YV (fG N) [] N F
def Db (F:KF R):List UInt8→O R:=(fun az=>F (.str az) [])
def qo (b:Nat) (c:LA) (p m:Int) (q:Nat) (r:LA):St:=⟨[(5,(.own 300000 0 b)),(11,(op 1)),(42,(iv p)),(43,(iv m))],(hq [(bQ 1 c),⟨false,false,false,false,0,[(op 1),(.own 300002 0 q)],false,(some (168,2))⟩,⟨false,false,true,false,1,r,false,(some (5,0))⟩])⟩
def qp (b:Nat) (c:LA) (s:Int):St:=⟨[(5,(.own 300000 0 b)),(11,(op 1)),(42,(iv s)),(43,(iv 0))],(hq [(bQ 1 c),⟨false,false,false,false,0,[.nilptr,.nsl],false,(some (168,2))⟩])⟩
def YX (F:KF R):=YW N F [1,1,1,1,1,1,1,0,1,0] []
def qq (f:Bool) (d:Nat) (g:LA) (i:Bool) (e:Nat) (l:LA) (b:Nat) (o c:LA):St:=⟨[(3,(op 0)),(4,(op 1)),(5,(.own 300002 0 b))],(hq [(bN 0 [(.bool f),(.own 300003 0 d)]),(bQ 0 o),(bQ 1 c),(bQ 1 g)])⟩
def qr (f:Bool) (d:Nat) (i:Bool) (e:Nat) (g l:LA):St:=⟨[(3,(op 0)),(4,(op 1)),(5,(.own 300002 0 0))],(hq [(bN 0 [(.bool f),(.own 300003 0 d)]),(bN 0 [(.bool i),(.own 300004 0 e)]),(bQ 1 []),(bQ 1 g),(bQ 1 l)])⟩
def YY (F:KF R):=YW N F [1,1,1,1,0,0] []
theorem FI (F:KF R) (b:Nat) (c:LA):∀ (n:Nat) (p m:Int) (q:Nat) (r:LA),Ay (YX N F) n (qo b c p m q r)=(N6 N (Db F) b c n p m q r)
 | 0,_,_,_,_=>by kernel_rfl
 | n+1,p,m,q,r=>Eq.trans (by kernel_rfl) (El (X3 N (Db F) b c · p m q r) (funext fun p=>funext fun m=>funext fun q=>funext fun r=>(FI F b c n p m q r)):_)
theorem FJ (F:KF R) (b:Nat) (c:LA):∀ (n:Nat) (s:Int),Ay (YX N F) n (qp b c s)=(N7 N (Db F) b c n s)
 | 0,_=>by kernel_rfl
 | n+1,s=>Eq.trans (by kernel_rfl) (vC (X4 N (Db F) b c · · s) (funext fun s=>(FJ F b c n s)) (funext fun p=>funext fun m=>funext fun q=>funext fun r=>(FI N F b c n p m q r)):_)
theorem FK (F:KF R) (f:Bool) (d:Nat) (g:LA) (i:Bool) (e:Nat) (l:LA):∀ (n b:Nat) (o c:LA),Ay (YY N F) n (qq f d g i e l b o c)=(N8 N (Db F) f d g i e l n b o c)
 | 0,_,_,_=>by kernel_rfl
 | n+1,b,o,c=>Eq.trans (by kernel_rfl) (vC (X5 N (Db F) f d g i e l · · b o c) (funext fun b=>funext fun o=>funext fun c=>(FK F f d g i e l n b o c)) (funext fun s=>(At ..).trans (FJ N F b c N s)):_)
theorem FL (F:KF R) (f:Bool) (d:Nat) (i:Bool) (e:Nat) (g l:LA):∀ (n:Nat) ,Ay (YY N F) n (qr f d i e g l)=(Kf N (Db F) f d i e g l n)
 | 0=>by kernel_rfl
 | n+1=>Eq.trans (by kernel_rfl) (vC (X6 N (Db F) f d i e g l · ·) (FL F f d i e g l n) (funext fun b=>funext fun o=>funext fun c=>(FK N F f d g i e l n b o c)):_)
theorem YZ (t:LA) (u:Bool) (F:KF R):Cq (fG N) YV N 123 [(.pagg t u)] [] F=(Ti N t u (Db F)):=by
 rw[QC]
 exact Eq.trans (by kernel_rfl) (El (C_ N (Db F) · t u) (funext fun f=>funext fun d=>funext fun i=>funext fun e=>funext fun g=>funext fun l=>(At ..).trans (FL N F f d i e g l N)):_)
def QD (a:LA) (h:Ah) (k:KF R):O R :=
 match a,h with
 | [(.pagg t u)],[]=>(Ti N t u (Db k))
 | _,_=>none
theorem Y_:Ao N 123 @QD:=by
 intro R Q a h k j;unfold QD;split;exact Av (YZ ..) (YZ ..) ⟨Fx N,Wy N,yg N,T6 N,Sc N,tJ N,fY N,Iu N,Qv N,Ng N,trivial⟩;exact Ax
def qs:=Aw (Y_ N)
def qt:=Cr (Y_ N)
def Hv (r0:List UInt8→O R) (c:Int) (e:Bool) (d:LA) (b:List UInt8):O R :=
 (cond ((decide ((0:Int)≤(0:Int)))&&((decide (0≤(wrap .i64 ((((b.length):Nat):Int) - c))))&&((decide ((wrap .i64 ((((b.length):Nat):Int) - c))≤(((b.length):Nat):Int)))&&(decide ((((b.length):Nat):Int)≤(((b.length):Nat):Int)))))) (cond (Nat.ble ((List.length (List.take ((wrap .i64 ((((b.length):Nat):Int) - c)).toNat) b))+1) 140737488355328) (cond ((decide (0≤(wrap .i64 ((((b.length):Nat):Int) - c))))&&((decide ((wrap .i64 ((((b.length):Nat):Int) - c))≤(((b.length):Nat):Int)))&&((decide ((((b.length):Nat):Int)≤(((b.length):Nat):Int)))&&(decide ((((b.length):Nat):Int)≤(((b.length):Nat):Int)))))) (cond (Nat.ble ((List.length ((List.take ((wrap .i64 ((((b.length):Nat):Int) - c)).toNat) b)++([46]:List UInt8)))+(List.length (List.take ((b.length) - ((wrap .i64 ((((b.length):Nat):Int) - c)).toNat)) (List.drop ((wrap .i64 ((((b.length):Nat):Int) - c)).toNat) b)))) 140737488355328) (cond (Nat.ble 2 (d.length)) (Ij N (d.take 2) e (fun i=>(cond (decide (i<0)) (cond (Nat.ble (1+(List.length (((List.take ((wrap .i64 ((((b.length):Nat):Int) - c)).toNat) b)++([46]:List UInt8))++(List.take ((b.length) - ((wrap .i64 ((((b.length):Nat):Int) - c)).toNat)) (List.drop ((wrap .i64 ((((b.length):Nat):Int) - c)).toNat) b))))) 140737488355328) (r0 (([45]:List UInt8)++(((List.take ((wrap .i64 ((((b.length):Nat):Int) - c)).toNat) b)++([46]:List UInt8))++(List.take ((b.length) - ((wrap .i64 ((((b.length):Nat):Int) - c)).toNat)) (List.drop ((wrap .i64 ((((b.length):Nat):Int) - c)).toNat) b))))) none) (r0 (((List.take ((wrap .i64 ((((b.length):Nat):Int) - c)).toNat) b)++([46]:List UInt8))++(List.take ((b.length) - ((wrap .i64 ((((b.length):Nat):Int) - c)).toNat)) (List.drop ((wrap .i64 ((((b.length):Nat):Int) - c)).toNat) b))))))) none) none) none) none) none)
def P7 (r0:List UInt8→O R) (q0:List UInt8→O R) (d:LA) (e:Bool) (c:Int):O R :=
 (cond (Nat.ble 2 (d.length)) (Ti N (d.take 2) e (fun f=>(cond (decide (c>0)) (cond (decide ((((f.length):Nat):Int)≤c)) (strings_Repeat N ([48]:List UInt8) (wrap .i64 ((wrap .i64 (c+1)) - (((f.length):Nat):Int))) (fun g=>(cond (Nat.ble ((g.length)+(f.length)) 140737488355328) (q0 (g++f)) none))) (q0 f)) (cond (Nat.ble 2 (d.length)) (Ij N (d.take 2) e (fun l=>(cond (decide (l<0)) (cond (Nat.ble (1+(f.length)) 140737488355328) (r0 (([45]:List UInt8)++f)) none) (r0 f)))) none)))) none)
def Ei:=(Ag (fun (N:Nat) (d:LA) (e:Bool) (c:Int) (r0:List UInt8→O R)=>(P7 N r0 (fun b=>(Hv N r0 c e d b)) d e c))).1
theorem Z7 (d e c r0):(@Ei R N d e c r0)=(P7 N r0 (fun b=>(Hv N r0 c e d b)) d e c):=by rw[Ei,(Ag _).2]
def FM:Hints:={ H:=(hS hL (hS hL (hS (hS hL (hS (hJ [1,2,5] hL hL) hL)) hL))) }
def KJ:Dx:=[(123,qs N),(124,Ig N),(125,T5 N)]
def fw (F:KF R):=S6 Tryz.f60 FM (KJ N) [] N F
def Lt (F:KF R):List UInt8→O R:=(fun m=>F (.str m) [])
def fy (c:Int) (e:Bool) (d:LA) (b:List UInt8):St:=⟨[(1,(iv c)),(2,(op 0)),(5,(.str b))],(hq [(bP e 0 d)])⟩
def gA (F:KF R):=fw N F [1,1,0,1,0,1] []
theorem TB (F:KF R) (c:Int) (e:Bool) (d:LA):∀ (b:List UInt8),Eh (gA N F) (fy c e d b)=(Hv N (Lt F) c e d b):=by
 intro b
 kernel_rfl
theorem FN (d:LA) (e:Bool) (c:Int) (F:KF R):Cq (KJ N) FM N 60 [(.pagg d e),(iv c)] [] F=(Ei N d e c (Lt F)):=by
 rw[Z7]
 exact Eq.trans (by kernel_rfl) (El (P7 N (Lt F) · d e c) (funext fun b=>(Bo ..).trans (TB N F c e d b)):_)
def Z8 (a:LA) (h:Ah) (k:KF R):O R :=
 match a,h with
 | [(.pagg d e),(.int .i64 c)],[]=>(Ei N d e c (Lt k))
 | _,_=>none
theorem FO:Ao N 60 @Z8:=by
 intro R Q a h k j;unfold Z8;split;exact Av (FN ..) (FN ..) ⟨qt N,Ng N,T6 N,trivial⟩;exact Ax
def Q9:=Aw (FO N)
def Ra:=Cr (FO N)
def KK (b:LA) (c:Bool) (r0:List UInt8→Bool→O R):O R :=
 (cond (Nat.ble 3 (b.length)) (B_ N (b.take 3) c (fun e=>(cond ((Nat.beq (e.length) 3)&&((Nat.ble 3 (b.length))&&(!false))) (Ir 1 ((setCells b 0 e).drop 2) fun i l=>(Bm N 2 (fun t u v=>(uA N [(.bool false),(.imm i l 1 false (c||false))] ((c||false)||false) t u v (fun d m n=>(cond ((Nat.beq 0 0)&&((Nat.beq (d.length) 2)&&(Nat.beq 2 2))) (cond (Nat.ble 2 (d.length)) (Bm N 5 (fun w x y=>(uA N (d.take 2) m w x y (fun f z o=>(cond ((Nat.beq (f.length) 2)&&((Nat.ble 2 (d.length))&&(!false))) (cond (Nat.ble 2 ((setCells d 0 f).length)) (Bm N 1 (fun aa p ab=>(L8 N ((setCells d 0 f).take 2) (m||z) [(.bool aa),(.imm (ab.take (p*1)) p 1 false true)] true (fun ac=>(cond (ac != 0) (r0 ([]:List UInt8) false) (cond (Nat.ble 2 ((setCells b 0 e).length)) (Bm N 10 (fun ad q ae=>(Lc N [(.bool ad),(.imm (ae.take (q*1)) q 1 false true)] true (AW n o) (fun af r ag=>(Pe N ((setCells b 0 e).take 2) (c||false) [(.bool af),(.imm (ag.take (r*1)) r 1 false true)] true (fun ah s ai=>(D5 N [(.bool ah),(.imm (ai.take (s*1)) s 1 false true)] true [(.bool false),(.imm i l 1 false (c||false))] ((c||false)||false) (fun g aj an=>(cond ((Nat.beq 0 0)&&((Nat.beq (g.length) 2)&&(Nat.beq 2 2))) (cond ((Nat.beq 0 0)&&((Nat.beq (aj.length) 2)&&(Nat.beq 2 2))) (cond (Nat.ble 2 (g.length)) (Ei N (g.take 2) false (AW n o) (fun ak=>(r0 ak true))) none) none) none))))))))) none)))))) none) none))))) none) none)))))) none))) none)
def Eb:=(Ag (@KK R)).1
theorem KL:@Eb R=@KK R:=(Ag _).2
def qu:Dx:=[(62,SK N),(64,Fw N),(66,uB N),(63,Xr N),(69,Wx N),(68,Y7 N),(67,Sb N),(60,Q9 N)]
def QE (F:KF R):List UInt8→Bool→O R:=(fun al am=>F (.tup [(.str al),(.bool am)]) [])
theorem QF (b:LA) (c:Bool) (F:KF R):Cq (qu N) Cn N 19 [(.pagg b c)] [] F=(Eb N b c (QE F)):=by
 rw[KL]
 kernel_rfl
def KM (a:LA) (h:Ah) (k:KF R):O R :=
 match a,h with
 | [(.pagg b c)],[]=>(Eb N b c (QE k))
 | _,_=>none
theorem QG:Ao N 19 @KM:=by
 intro R Q a h k j;unfold KM;split;exact Av (QF ..) (QF ..) ⟨SL N,Fx N,uC N,Xs N,Wy N,Y8 N,Sc N,Ra N,trivial⟩;exact Ax
def X7:=Aw (QG N)
def X8:=Cr (QG N)
def W1 (r0:List UInt8→Int→O R) (b:Int) (d:Bool) (c:LA):O R :=
 (Bm N 10 (fun g e i=>(Lc N [(.bool g),(.imm (i.take (e*1)) e 1 false true)] true b (fun l f m=>(cond (Nat.ble 3 (c.length)) (b6 N (c.take 3) d [(.bool l),(.imm (m.take (f*1)) f 1 false true),(.imm [(.int .u32 1)] 1 1 false true)] true (fun n=>(Z0 N n false (fun o=>(Ei N o false b (fun p=>(r0 p 0))))))) none)))))
def Z9 (N:Nat) (r0:List UInt8→Int→O R) (q0:O R) (c:LA) (d:Bool) (b:Int):O R :=
 (cond ((decide (b<0))==false) (cond (cond false true (decide (b>100))) (r0 ([]:List UInt8) 3) q0) (r0 ([]:List UInt8) 3))
def Hw:=(Ag (fun (N:Nat) (c:LA) (d:Bool) (b:Int) (r0:List UInt8→Int→O R)=>(Z9 N r0 (W1 N r0 b d c) c d b))).1
theorem DA (c d b r0):(@Hw R N c d b r0)=(Z9 N r0 (W1 N r0 b d c) c d b):=by rw[Hw,(Ag _).2]
def fH:Hints:={ H:=(hS hL (hJ [1,2] hL hL)) }
def l7:Dx:=[(64,Fw N),(69,Wx N),(76,yk N),(75,tR N),(60,Q9 N)]
def uD (F:KF R):=S6 Tryz.f21 fH (l7 N) [] N F
def W2 (F:KF R):List UInt8→Int→O R:=(fun q r=>F (.tup [(.str q),(iv r)]) [])
def uE (b:Int) (d:Bool) (c:LA):St:=⟨[(1,(iv b)),(2,(op 0))],(hq [(bP d 0 c)])⟩
def uF (F:KF R):=uD N F [1,1] []
theorem l8 (F:KF R) (b:Int) (d:Bool) (c:LA):Eh (uF N F) (uE b d c)=(W1 N (W2 F) b d c):=by
 kernel_rfl
theorem fI (c:LA) (d:Bool) (b:Int) (F:KF R):Cq (l7 N) fH N 21 [(.pagg c d),(iv b)] [] F=(Hw N c d b (W2 F)):=by
 rw[DA]
 exact Eq.trans (by kernel_rfl) (El (Z9 N (W2 F) · c d b) ((Bo ..).trans (l8 N F b d c)):_)
def ZA (a:LA) (h:Ah) (k:KF R):O R :=
 match a,h with
 | [(.pagg c d),(.int .i64 b)],[]=>(Hw N c d b (W2 k))
 | _,_=>none
theorem fJ:Ao N 21 @ZA:=by
 intro R Q a h k j;unfold ZA;split;exact Av (fI ..) (fI ..) ⟨Fx N,Wy N,ym N,tS N,Ra N,trivial⟩;exact Ax
def fK:=Aw (fJ N)
def fL:=Cr (fJ N)
def X9 (b:LA) (c:Bool) (r0:List UInt8→O R):O R :=
 (cond (Nat.ble 2 (b.length)) (Ei N (b.take 2) c 0 (fun d=>(r0 d))) none)
def Bv:=(Ag (@X9 R)).1
theorem AA:@Bv R=@X9 R:=(Ag _).2
def l9:Dx:=[(60,Q9 N)]
def FP (F:KF R):List UInt8→O R:=(fun e=>F (.str e) [])
theorem FQ (b:LA) (c:Bool) (F:KF R):Cq (l9 N) Cn N 15 [(.pagg b c)] [] F=(Bv N b c (FP F)):=by
 rw[AA]
 kernel_rfl
def AB (a:LA) (h:Ah) (k:KF R):O R :=
 match a,h with
 | [(.pagg b c)],[]=>(Bv N b c (FP k))
 | _,_=>none
theorem FR:Ao N 15 @AB:=by
 intro R Q a h k j;unfold AB;split;exact Av (FQ ..) (FQ ..) ⟨Ra N,trivial⟩;exact Ax
def Lu:=Aw (FR N)
def Lv:=Cr (FR N)
def Ya (b:LA) (c:Bool) (r0:List UInt8→O R):O R :=
 (cond (Nat.ble 3 (b.length)) (B_ N (b.take 3) c (fun d=>(cond ((Nat.beq (d.length) 3)&&((Nat.ble 3 (b.length))&&(!false))) (Ir 1 ((setCells b 0 d).drop 2) fun f g=>(Bm N 1 (fun m i n=>(L8 N [(.bool false),(.imm f g 1 false (c||false))] ((c||false)||false) [(.bool m),(.imm (n.take (i*1)) i 1 false true)] true (fun o=>(cond (o==0) (cond (Nat.ble 2 ((setCells b 0 d).length)) (Bv N ((setCells b 0 d).take 2) (c||false) (fun p=>(r0 p))) none) (cond (Nat.ble 2 ((setCells b 0 d).length)) (Bv N ((setCells b 0 d).take 2) (c||false) (fun e=>(cond (Nat.ble ((e.length)+1) 140737488355328) (Bv N [(.bool false),(.imm f g 1 false (c||false))] ((c||false)||false) (fun l=>(cond (Nat.ble ((List.length (e++([47]:List UInt8)))+(l.length)) 140737488355328) (r0 ((e++([47]:List UInt8))++l)) none))) none))) none))))))) none))) none)
def Dv:=(Ag (@Ya R)).1
theorem AC:@Dv R=@Ya R:=(Ag _).2
def l_:Dx:=[(62,SK N),(64,Fw N),(63,Xr N),(15,Lu N)]
def FS (F:KF R):List UInt8→O R:=(fun q=>F (.str q) [])
theorem FT (b:LA) (c:Bool) (F:KF R):Cq (l_ N) Cn N 17 [(.pagg b c)] [] F=(Dv N b c (FS F)):=by
 rw[AC]
 kernel_rfl
def AD (a:LA) (h:Ah) (k:KF R):O R :=
 match a,h with
 | [(.pagg b c)],[]=>(Dv N b c (FS k))
 | _,_=>none
theorem FU:Ao N 17 @AD:=by
 intro R Q a h k j;unfold AD;split;exact Av (FT ..) (FT ..) ⟨SL N,Fx N,Xs N,Lv N,trivial⟩;exact Ax
def Rb:=Aw (FU N)
def Rc:=Cr (FU N)
def DB (r0:Bool→O R):O R :=
 (D1 N ([45,48,46,50,53]:List UInt8) (fun b c=>(cond ((Nat.beq 0 0)&&((Nat.beq (b.length) 3)&&(Nat.beq 3 3))) (Q6 N 7 40 (fun d=>(Eb N d false (fun e f=>(Q6 N 5 2 (fun g=>(Hw N g false 0 (fun i l=>(Q6 N 6 4 (fun m=>(Dv N m false (fun n=>(cond ((n==([51,47,50]:List UInt8))==true) (cond ((cond true (c==0) false)==true) (cond (Nat.ble 3 (b.length)) (Q6 N (-1) 4 (fun o=>(D6 N (b.take 3) false o false (fun p=>(cond ((cond true p false)==true) (cond ((cond true f false)==true) (cond ((cond true (e==([48,46,49,55,53]:List UInt8)) false)==true) (cond ((cond true (l==0) false)==true) (r0 (cond true (i==([50]:List UInt8)) false)) (r0 false)) (r0 false)) (r0 false)) (r0 false)))))) none) (r0 false)) (r0 false)))))))))))))) none)))
def Cc:=(Ag (@DB R)).1
theorem FV:@Cc R=@DB R:=(Ag _).2
def nB:Dx:=[(24,Us N),(59,yd N),(19,X7 N),(21,fK N),(17,Rb N),(27,CK N)]
def KN (F:KF R):Bool→O R:=(fun q=>F (.bool q) [])
theorem KO (F:KF R):Cq (nB N) Cn N 14 [] [] F=(Cc N (KN F)):=by
 rw[FV]
 kernel_rfl
def FW (a:LA) (h:Ah) (k:KF R):O R :=
 match a,h with
 | [],[]=>(Cc N (KN k))
 | _,_=>none
theorem KP:Ao N 14 @FW:=by
 intro R Q a h k j;unfold FW;split;exact Av (KO ..) (KO ..) ⟨Ut N,ye N,X8 N,fL N,Rc N,CL N,trivial⟩;exact Ax
def Jk:=Aw (KP N)
def Jl:=Cr (KP N)
def Uz (r0:List UInt8→O R) (b:LA) (c:Nat) (e d:Bool) (k1:Nat→List UInt8→LA→O R) (g:Nat) (f:List UInt8) (i:LA):O R :=
 (F4 N (i.take (g*1)) g false true [(.int .u32 10)] 1 false true (fun o p x s t=>(E4 N (t.take (p*1)) p false true (fun l y=>(cond ((decide (0≤l))&&((decide (l≤(wrap .u64 (l+1))))&&((decide ((wrap .u64 (l+1))≤10))&&(decide ((10:Int)≤(10:Int)))))) (cond (Nat.ble ((List.length (List.take (((wrap .u64 (l+1)).toNat) - (l.toNat)) (List.drop (l.toNat) ([48,49,50,51,52,53,54,55,56,57]:List UInt8))))+(f.length)) 140737488355328) (cond (((o:Nat):Int)==0) (r0 ((List.take (((wrap .u64 (l+1)).toNat) - (l.toNat)) (List.drop (l.toNat) ([48,49,50,51,52,53,54,55,56,57]:List UInt8)))++f)) (k1 o ((List.take (((wrap .u64 (l+1)).toNat) - (l.toNat)) (List.drop (l.toNat) ([48,49,50,51,52,53,54,55,56,57]:List UInt8)))++f) s)) none) none)))))
def Ld (r0:List UInt8→O R) (b:LA) (c:Nat) (e d:Bool):Nat→Nat→List UInt8→LA→O R
 | 0,_,_,_=>none
 | n+1,g,f,i=>(Uz N r0 b c e d (Ld r0 b c e d n) g f i)
def U0 (r0:List UInt8→O R) (b:LA) (c:Nat) (e d:Bool) (k0:O R) (k1:Nat→List UInt8→LA→O R):O R :=
 (F4 N b c false d [(.int .u32 10)] 1 false true (fun q r z u v=>(E4 N (v.take (r*1)) r false true (fun m aa=>(cond ((decide (0≤m))&&((decide (m≤(wrap .u64 (m+1))))&&((decide ((wrap .u64 (m+1))≤10))&&(decide ((10:Int)≤(10:Int)))))) (cond (Nat.ble (List.length (List.take (((wrap .u64 (m+1)).toNat) - (m.toNat)) (List.drop (m.toNat) ([48,49,50,51,52,53,54,55,56,57]:List UInt8)))) 140737488355328) (cond (((q:Nat):Int)==0) (r0 ((List.take (((wrap .u64 (m+1)).toNat) - (m.toNat)) (List.drop (m.toNat) ([48,49,50,51,52,53,54,55,56,57]:List UInt8)))++([]:List UInt8))) (k1 q ((List.take (((wrap .u64 (m+1)).toNat) - (m.toNat)) (List.drop (m.toNat) ([48,49,50,51,52,53,54,55,56,57]:List UInt8)))++([]:List UInt8)) u)) none) none)))))
def Le (r0:List UInt8→O R) (b:LA) (c:Nat) (e d:Bool):Nat→O R
 | 0=>none
 | n+1=>(U0 N r0 b c e d (Le r0 b c e d n) (fun g f i=>(Ld N r0 b c e d n g f i)))
def W3 (N:Nat) (r0:List UInt8→O R) (q0:O R) (b:LA) (c:Nat) (e d:Bool):O R :=
 q0
def Hk:=(Ag (fun (N:Nat) (b:LA) (c:Nat) (e d:Bool) (r0:List UInt8→O R)=>(W3 N r0 (Le N r0 b c e d N) b c e d))).1
theorem KQ (b c e d r0):(@Hk R N b c e d r0)=(W3 N r0 (Le N r0 b c e d N) b c e d):=by rw[Hk,(Ag _).2]
def QH:Hints:={ H:=(hS hL (hS hL (hS (hP [0,3] hL) hL))) }
def ZB:Dx:=[(126,Xp N),(89,Xm N)]
def nC (F:KF R):=S6 Tryz.f61 QH (ZB N) [] N F
def F8 (F:KF R):List UInt8→O R:=(fun w=>F (.str w) [])
def nD (b:LA) (c:Nat) (e d:Bool) (g:Nat) (f:List UInt8) (i:LA):St:=⟨[(0,(.own 300000 0 g)),(3,(.str f))],(hq [(bQ 1 i)])⟩
def nE (b:LA) (c:Nat) (e d:Bool):St:=⟨[(0,(.imm b c 1 e d)),(3,(.str ([]:List UInt8)))],[]⟩
def QI (F:KF R):=nC N F [1,1,0] []
theorem AE (F:KF R) (b:LA) (c:Nat) (e d:Bool):∀ (n g:Nat) (f:List UInt8) (i:LA),Ay (QI N F) n (nD b c e d g f i)=(Ld N (F8 F) b c e d n g f i)
 | 0,_,_,_=>by kernel_rfl
 | n+1,g,f,i=>Eq.trans (by kernel_rfl) (El (Uz N (F8 F) b c e d · g f i) (funext fun g=>funext fun f=>funext fun i=>(AE F b c e d n g f i)):_)
theorem AF (F:KF R) (b:LA) (c:Nat) (e d:Bool):∀ (n:Nat) ,Ay (QI N F) n (nE b c e d)=(Le N (F8 F) b c e d n)
 | 0=>by kernel_rfl
 | n+1=>Eq.trans (by kernel_rfl) (vC (U0 N (F8 F) b c e d · ·) (AF F b c e d n) (funext fun g=>funext fun f=>funext fun i=>(AE N F b c e d n g f i)):_)
theorem QJ (b:LA) (c:Nat) (e d:Bool) (F:KF R):Cq (ZB N) QH N 61 [(.imm b c 1 e d)] [] F=(Hk N b c e d (F8 F)):=by
 rw[KQ]
 exact Eq.trans (by kernel_rfl) (El (W3 N (F8 F) · b c e d) ((At ..).trans (AF N F b c e d N)):_)
def KR (a:LA) (h:Ah) (k:KF R):O R :=
 match a,h with
 | [(.imm b c 1 e d)],[]=>(Hk N b c e d (F8 k))
 | _,_=>none
theorem QK:Ao N 61 @KR:=by
 intro R Q a h k j;unfold KR;split;exact Av (QJ ..) (QJ ..) ⟨Xq N,Xn N,trivial⟩;exact Ax
def Yb:=Aw (QK N)
def Yc:=Cr (QK N)
def N9 (b:LA) (c:Bool) (r0:List UInt8→O R):O R :=
 (cond (Nat.ble 2 (b.length)) (E3 N (b.take 2) c (fun d=>(cond ((Nat.beq (d.length) 2)&&((Nat.ble 2 (b.length))&&(!false))) (Qc (setCells b 0 d) fun f=>(cond f (Ir 1 ((setCells b 0 d).drop 1) fun g i=>(Hk N g i false (c||false) (fun e=>(cond (Nat.ble (1+(e.length)) 140737488355328) (r0 (([45]:List UInt8)++e)) none)))) (Ir 1 ((setCells b 0 d).drop 1) fun l m=>(Hk N l m false (c||false) (fun n=>(r0 n)))))) none))) none)
def C4:=(Ag (@N9 R)).1
theorem Oa:@C4 R=@N9 R:=(Ag _).2
def gB:Dx:=[(26,Mj N),(61,Yb N)]
def AG (F:KF R):List UInt8→O R:=(fun o=>F (.str o) [])
theorem AH (b:LA) (c:Bool) (F:KF R):Cq (gB N) Cn N 16 [(.pagg b c)] [] F=(C4 N b c (AG F)):=by
 rw[Oa]
 kernel_rfl
def W4 (a:LA) (h:Ah) (k:KF R):O R :=
 match a,h with
 | [(.pagg b c)],[]=>(C4 N b c (AG k))
 | _,_=>none
theorem AI:Ao N 16 @W4:=by
 intro R Q a h k j;unfold W4;split;exact Av (AH ..) (AH ..) ⟨Mk N,Yc N,trivial⟩;exact Ax
def AJ:=Aw (AI N)
def AK:=Cr (AI N)
def U4 (b:LA) (c:Bool) (r0:List UInt8→O R):O R :=
 (cond (Nat.ble 3 (b.length)) (B4 N (b.take 3) c (fun d=>(cond ((Nat.beq (d.length) 3)&&((Nat.ble 3 (b.length))&&(!false))) (Ir 1 ((setCells b 0 d).drop 2) fun g i=>(H6 N g i false (c||false) [(.int .u32 1)] 1 false true (fun l=>(cond l (cond (Nat.ble 2 ((setCells b 0 d).length)) (C4 N ((setCells b 0 d).take 2) (c||false) (fun m=>(r0 m))) none) (cond (Nat.ble 2 ((setCells b 0 d).length)) (C4 N ((setCells b 0 d).take 2) (c||false) (fun e=>(cond (Nat.ble ((e.length)+1) 140737488355328) (Ir 1 ((setCells b 0 d).drop 2) fun n o=>(Hk N n o false (c||false) (fun f=>(cond (Nat.ble ((List.length (e++([47]:List UInt8)))+(f.length)) 140737488355328) (r0 ((e++([47]:List UInt8))++f)) none)))) none))) none))))) none))) none)
def Ib:=(Ag (@U4 R)).1
theorem W5:@Ib R=@U4 R:=(Ag _).2
def gC:Dx:=[(28,Eo N),(65,Ns N),(16,AJ N),(61,Yb N)]
def AL (F:KF R):List UInt8→O R:=(fun p=>F (.str p) [])
theorem AM (b:LA) (c:Bool) (F:KF R):Cq (gC N) Cn N 18 [(.pagg b c)] [] F=(Ib N b c (AL F)):=by
 rw[W5]
 kernel_rfl
def W6 (a:LA) (h:Ah) (k:KF R):O R :=
 match a,h with
 | [(.pagg b c)],[]=>(Ib N b c (AL k))
 | _,_=>none
theorem AN:Ao N 18 @W6:=by
 intro R Q a h k j;unfold W6;split;exact Av (AM ..) (AM ..) ⟨Ep N,Nt N,AK N,Yc N,trivial⟩;exact Ax
def cC:=Aw (AN N)
def cD:=Cr (AN N)
def If (e:Bool) (f:LA) (g:Nat) (p b i:Bool) (l:LA) (m:Nat) (q c:Bool) (n:LA) (o:Nat) (r d:Bool) (r0:Bool→O R):O R :=
 (Cc N (fun s=>(cond (s==true) (Bv N [(.bool e),(.imm f g 1 false b)] (b||false) (fun t=>(C4 N [(.bool e),(.imm f g 1 false b)] (b||false) (fun u=>(cond ((cond true (t==u) false)==true) (Dv N [(.bool i),(.imm l m 1 false c),(.imm n o 1 false d)] (c||(d||false)) (fun v=>(Ib N [(.bool i),(.imm l m 1 false c),(.imm n o 1 false d)] (c||(d||false)) (fun w=>(r0 (cond true (v==w) false)))))) (r0 false)))))) (r0 false))))
def Ft:=(Ag (@If R)).1
theorem Lf:@Ft R=@If R:=(Ag _).2
def DC:Dx:=[(14,Jk N),(15,Lu N),(16,AJ N),(17,Rb N),(18,cC N)]
def Mu (F:KF R):Bool→O R:=(fun x=>F (.bool x) [])
theorem Mv (e:Bool) (f:LA) (g:Nat) (p b i:Bool) (l:LA) (m:Nat) (q c:Bool) (n:LA) (o:Nat) (r d:Bool) (F:KF R):Cq (DC N) Cn N 3 [(.agg [(.bool e),(.imm f g 1 p b)]),(.agg [(.bool i),(.imm l m 1 q c),(.imm n o 1 r d)])] [] F=(Ft N e f g p b i l m q c n o r d (Mu F)):=by
 rw[Lf]
 kernel_rfl
def Lg (a:LA) (h:Ah) (k:KF R):O R :=
 match a,h with
 | [(.agg [(.bool e),(.imm f g 1 p b)]),(.agg [(.bool i),(.imm l m 1 q c),(.imm n o 1 r d)])],[]=>(Ft N e f g p b i l m q c n o r d (Mu k))
 | _,_=>none
theorem Mw:Ao N 3 @Lg:=by
 intro R Q a h k j;unfold Lg;split;exact Av (Mv ..) (Mv ..) ⟨Jl N,Lv N,AK N,Rc N,cD N,trivial⟩;exact Ax
def AO:=Aw (Mw N)
def AP:=Cr (Mw N)
end
end Gx

namespace Gx
open Go Go.Proofs
section
variable {R:Type}
theorem Abk (m:Nat):(Int.tmod (m:Int) 2==1)=decide (m%2=1):=by
 rw[show Int.tmod (m:Int) 2=((m%2:Nat):Int) by rfl]
 rw[Bool.eq_iff_iff];simp;omega
theorem Abl {m:Nat} (h:m≤1000000000000):IntKind.wrap .i64 (Int.tdiv (m:Int) 2)=((m/2:Nat):Int):=by
 rw[show Int.tdiv (m:Int) 2=((m/2:Nat):Int) by rfl,i64 (by omega)]
theorem xQ (n:Bool) (s:LS) (x y:AV):Iv (Bf n s) 0 [x,y]=[x,y]:=rfl
theorem ld (s:LS):An false s=(val s.l:Int):=rfl
theorem xR {N:Nat} {s1 s2:LS} {o1 o2:Bool} (b:Ae s1.l) (c:Ae s2.l) (d:fit (s1.l.length+s2.l.length) N):∃ S,Ae S∧val S=val s1.l*val s2.l∧∀ K:Bool→Nat→LA→O R,Pe N (Bf false s1) o1 (Bf false s2) o2 K=K false (Ac (val s1.l*val s2.l)).length (Aa S):=by
 obtain⟨S,a1,a2,a3⟩:=bs (R:=R) (N:=N) (n1:=false) (n2:=false) (o1:=o1) (o2:=o2) b c d
 rw[ld,ld,←Int.natCast_mul] at a2 a3
 rw[Int.natAbs_natCast] at a2 a3
 refine⟨S,a1,a2,fun K=>?_⟩
 rw[a3,decide_eq_false (by omega)]
theorem TC {P Q m j:Nat} (hP:1≤P) (hQ:1≤Q) (b:j≤m):P ^ j≤Q*P ^ m:=by
 have c:P ^ j≤P ^ m:=Nat.pow_le_pow_right hP b
 have d:1*P ^ m≤Q*P ^ m:=Nat.mul_le_mul_right _ hQ
 omega
theorem wR {N k:Nat} (F:fit (2*k+4) N):∀ (b m P Q:Nat) (c:Bool) (s:LS) (S:List Nat),m<b→m≤1000000000→1≤P→1≤Q→Q*P ^ m<4294967296 ^ k→Ae s.l→val s.l=P→s.l.length≤k+1→Ae S→val S=Q →
  ∃ S',Ae S'∧val S'=Q*P ^ m∧∀ K:Bool→Nat→LA→O R,Fr N K b (m:Int) c (Bf false s) false (Ac Q).length (Aa S)=K false (Ac (Q*P ^ m)).length (Aa S'):=by
 intro b
 induction b with
 | zero=>intro m P Q c s S h;omega
 | succ b x =>
  intro m P Q c s S M I hP hQ f v y z hS hSv
  rcases Nat.eq_zero_or_pos m with A | A
  ·subst A
   refine⟨S,hS,by simp[hSv],fun K=>?_⟩
   rw[Fr];unfold Ke
   rw[show decide (((0:Nat):Int)>0)=false by decide,cf,Nat.pow_zero,Nat.mul_one]
  ·have lQ:(Ac Q).length≤k:=A4 (Nat.lt_of_le_of_lt (Nat.le_mul_of_pos_right Q (Nat.pow_pos hP)) f)
   have hPm:P ^ 1≤Q*P ^ m:=TC hP hQ A
   obtain⟨S1,a1,a2,a3⟩:=xR (R:=R) (N:=N) (s1:=.of (Ac Q) false true) (s2:=s) (o1:=true) (o2:=c) (Ab _) v (F.le (show(Ac Q).length+s.l.length≤_ by omega))
   have vQ:val (LS.of (Ac Q) false true).l=Q:=Ad Q
   rw[vQ,y] at a2 a3
   obtain⟨S2,G,B,C⟩:=xR (R:=R) (N:=N) (s1:=s) (s2:=s) (o1:=c) (o2:=c) v v (F.le (show s.l.length+s.l.length≤_ by omega))
   rw[y] at B C
   have sq:∀ n t:Nat,(P*P) ^ n=P ^ (2*n):=fun n t=>by rw[←Nat.pow_two,←Nat.pow_mul]
   have gt0:decide (((m:Nat):Int)>0)=true:=by simp;omega
   have cell:∀ (t:Nat) (u:List Nat),([.bool false,.imm (List.take ((Ac t).length*1) (Aa u)) (Ac t).length 1 false false]:LA)=[.bool false,.imm (List.take ((Ac t).length*1) (Aa u)) (Ac t).length 1 false false]:=fun _ _=>rfl
   by_cases d:m%2=1
   ·by_cases L:1<m
    ·have e:Q*P ^ m=(Q*P)*(P*P) ^ (m/2):=by
      rw[sq _ 0,Nat.mul_assoc,←Nat.pow_succ']
      congr 2;omega
     have l2:(Ac (P*P)).length≤k:=A4 (Nat.lt_of_le_of_lt (by have:=TC (j:=2) hP hQ (show 2≤m by omega);rwa [Nat.pow_two] at this) f)
     obtain⟨S',c1,i,q⟩:=x (m/2) (P*P) (Q*P) (c||false) (.of (Ac (P*P)) false false) S1 (by omega) (by omega) (Nat.mul_pos hP hP) (Nat.mul_pos hQ hP) (by rw[←e];exact f) (Ab _) (Ad _) (by show(Ac (P*P)).length≤_;omega) a1 a2
     refine⟨S',c1,by rw[i,e],fun K=>?_⟩
     rw[Fr];unfold Ke
     rw[gt0,ct,Abk,decide_eq_true d,ct,Q7,ct,SH,A0 hS hSv,lO,a3,show decide (((m:Nat):Int)>1)=true by simp;omega,ct,ct,ct,C,show((Nat.beq 2 2)&&(true&&(!false)))=true by rfl,ct,Abl (by omega),xQ,A0 G B,lO,q,e]
    ·have D:m=1:=by omega
     subst D
     obtain⟨S',c1,i,q⟩:=x 0 P (Q*P) c s S1 (by omega) (by omega) hP (Nat.mul_pos hQ hP) (by simpa using f) v y z a1 a2
     rw[Nat.pow_zero,Nat.mul_one] at i q
     refine⟨S',c1,by rw[i,Nat.pow_one],fun K=>?_⟩
     rw[Fr];unfold Ke
     rw[gt0,ct,Abk,decide_eq_true d,ct,Q7,ct,SH,A0 hS hSv,lO,a3,show decide (((1:Nat):Int)>1)=false by decide,cf,Abl (by omega),q,Nat.pow_one]
   ·have L:1<m:=by omega
    have e:Q*P ^ m=Q*(P*P) ^ (m/2):=by
     rw[sq _ 0];congr 2;omega
    have l2:(Ac (P*P)).length≤k:=A4 (Nat.lt_of_le_of_lt (by have:=TC (j:=2) hP hQ (show 2≤m by omega);rwa [Nat.pow_two] at this) f)
    obtain⟨S',c1,i,q⟩:=x (m/2) (P*P) Q (c||false) (.of (Ac (P*P)) false false) S (by omega) (by omega) (Nat.mul_pos hP hP) hQ (by rw[←e];exact f) (Ab _) (Ad _) (by show(Ac (P*P)).length≤_;omega) hS hSv
    refine⟨S',c1,by rw[i,e],fun K=>?_⟩
    rw[Fr];unfold Ke
    rw[gt0,ct,Abk,decide_eq_false d,cf,show decide (((m:Nat):Int)>1)=true by simp;omega,ct,Q7,ct,ct,SH,C,show((Nat.beq 2 2)&&(true&&(!false)))=true by rfl,ct,Abl (by omega),xQ,A0 G B,lO,q,e]
theorem Acg:Ac 10=[10]:=by rw[Ry (by omega)];simp[Bx]
theorem KS (n:Nat):10 ^ n<4294967296 ^ (n+1):=by
 have b:10 ^ n≤4294967296 ^ n:=Nat.pow_le_pow_left (by omega) n
 have c:4294967296 ^ n<4294967296 ^ (n+1):=Nat.pow_lt_pow_right (by omega) (by omega)
 omega
theorem MN {N n:Nat} (b:fit (2*n+6) N):∃ S,Ae S∧val S=10 ^ n∧∀ (K:Bool→Nat→LA→O R),(Bm N 10 fun g e i=>Lc N [(.bool g),(.imm (i.take (e*1)) e 1 false true)] true (n:Int) K)=K false (Ac (10 ^ n)).length (Aa S):=by
 have q:=b.1;have s:=b.2
 obtain⟨S0,a1,a2,a3⟩:=F6 (R:=R) (N:=N) (v:=1) (by omega) (by omega)
 obtain⟨S1,f,j,m⟩:=F6 (R:=R) (N:=N) (v:=10) (by omega) (by omega)
 obtain⟨S',c1,c,d⟩:=wR (R:=R) (N:=N) (k:=n+1) (b.le (by omega)) N n 10 1 true (.of (Ac 10) false true) S0 (by omega) (by omega) (by omega) (by omega) (by rw[Nat.one_mul];exact KS n) (Ab _) (Ad _) (by rw[Acg];simp[LS.l]) a1 a2
 rw[Nat.one_mul] at c d
 refine⟨S',c1,c,fun K=>?_⟩
 rw[m,YI];unfold MK
 rw[a3]
 refine Eq.trans ?_ (d K)
 rw[show(10:Int).natAbs=10 by rfl,show(1:Int).natAbs=1 by rfl] at *
 rw[A0 f j]
 rfl
def B9:Nat:=1000000000
def uG:Nat→Nat→List Nat
 | 0,_=>[]
 | n+1,a=>if a=0 then [] else a%B9::uG n (a/B9)
def wT (a:Nat):List Nat:=uG a a
theorem Ach:∀ (n m a:Nat),a≤n→a≤m→uG n a=uG m a:=by
  intro n
  induction n with
  | zero=>intro m a h _;cases m<;>simp[uG];omega
  | succ n b =>
    intro m a c d
    cases m with
    | zero => have : a = 0 := by omega
              subst this;simp[uG]
    | succ m =>
      unfold uG
      split
      · rfl
      · have:a/B9<a:=Nat.div_lt_self (by omega) (by decide)
        rw[b m (a/B9) (by omega) (by omega)]
theorem ZC:wT 0=[]:=rfl
theorem W7 {a:Nat} (h:0<a):wT a=a%B9::wT (a/B9):=by
 unfold wT
 obtain⟨n,rfl⟩:∃ n,a=n+1:=⟨a - 1,by omega⟩
 rw[uG,if_neg (by omega)]
 have:(n+1)/B9<n+1:=Nat.div_lt_self (by omega) (by decide)
 rw[Ach n ((n+1)/B9) _ (by omega) (Nat.le_refl _)]
theorem Ad7:∀ (a:Nat),∀ g ∈ wT a,g<B9:=by
 intro a
 induction a using Nat.strongRecOn with
 | ind a d =>
  intro g b
  rcases Nat.eq_zero_or_pos a with c | c
  ·subst c;cases b
  ·rw[W7 c] at b
   rcases List.mem_cons.1 b with rfl | b
   ·exact Nat.mod_lt _ (by decide)
   ·exact d (a/B9) (Nat.div_lt_self c (by decide)) g b
def zJ (g:Nat):List UInt8:=List.replicate (9 - (Fa g).length) 48++Fa g
def Rr:List Nat→List UInt8
 | []=>[]
 | [g]=>Fa g
 | g::h::r=>Rr (h::r)++zJ g
theorem KT {g:Nat} (h:g<B9):(Fa g).length≤9:=(xG (by omega)).2 h
theorem zK:∀ (a:Nat),0<a→Rr (wT a)=Fa a:=by
 intro a
 induction a using Nat.strongRecOn with
 | ind a f =>
  intro d
  rw[W7 d]
  have c:a/B9<a:=Nat.div_lt_self d (by decide)
  rcases Nat.eq_zero_or_pos (a/B9) with b | b
  ·rw[b,ZC]
   show Fa (a%B9)=Fa a
   have:a<B9:=(Nat.div_eq_zero_iff_lt (by decide)).1 b
   rw[Nat.mod_eq_of_lt this]
  ·have e:=f (a/B9) c b
   rw[W7 b] at e ⊢
   rw[Rr,e,zJ]
   have i:a=a/B9*10 ^ 9+a%B9:=by
    have:=Nat.div_add_mod a B9
    rw[Nat.mul_comm] at this
    exact this.symm
   conv=>rhs;rw[i]
   exact(xv (k:=9) (r:=a%B9) b (Nat.mod_lt _ (by decide)) (KT (Nat.mod_lt _ (by decide)))).symm
theorem ov:∀ (gs:List Nat),(∀ g ∈ gs,g<B9)→(Rr gs).length≤9*gs.length
 | [],_=>by simp[Rr]
 | [g],h=>by have:=KT (h g (by simp));simp[Rr];omega
 | g::k::r,h=>by
  have c:=ov (k::r) (fun x b=>h x (by simp at b ⊢;exact .inr b))
  have d:=KT (h g (by simp))
  rw[Rr,List.length_append,zJ,List.length_append,List.length_replicate]
  simp only[List.length_cons] at *
  omega
def gI (l:List Nat):LA:=l.map fun n:Nat=>.int .i64 (n:Int)
theorem Ad8 (a:List Nat) (g:Nat):gI a++[.int .i64 (g:Int)]=gI (a++[g]):=by simp[gI]
theorem Aci (a:List Nat):List.take (a.length*1) (gI a)=gI a:=by rw[Nat.mul_one];exact List.take_of_length_le (by simp[gI])
theorem Afx {l:List Nat} {j:Nat} (h:j<l.length) {f:Int→O R}:Gb .i64 (List.drop (0+((Int.toNat (j:Int))*1)) (gI l)) f=f (l[j]:Nat):=by
 rw[Nat.zero_add,Nat.mul_one,Int.toNat_natCast]
 have e:List.drop j (gI l)=.int .i64 ((l[j]:Nat):Int)::gI (List.drop (j+1) l):=by
  unfold gI;rw[←List.map_drop,List.drop_eq_getElem_cons h];rfl
 rw[e];rfl
theorem wU (s:List UInt8) (n:Nat) (h:n=s.length):List.take (n*1) (Dh s)=Dh s:=by
 rw[Nat.mul_one];exact List.take_of_length_le (by simp[Dh,h])
theorem uH (s:List UInt8):List.take s.length (Dh s)=Dh s:=List.take_of_length_le (by simp[Dh])
theorem zL (a b:List UInt8):Dh a++Dh b=Dh (a++b):=by simp[Dh]
theorem fM:∀ (s:List UInt8),P9 (Dh s)=some s
 | []=>rfl
 | c::r=>by
  have b:=fM r
  have e:Dh (c::r)=.int .u8 (c.toNat:Int)::Dh r:=rfl
  rw[e,P9,b]
  simp[gG]
theorem Acj {N:Nat} {s:List UInt8} {K:List UInt8→O R} (b:s≠[]) (e:s.length≤9223372036854775807):N5 N s.length (Dh s) K=K s:=by
 rw[Z6];unfold X2
 have c:0<s.length:=List.length_pos_iff.2 b
 have d:((Nat.beq 5 5)&&((Nat.beq 1 1)&&(true&&((!false)&&((Nat.beq 0 0)&&((decide (0<((s.length:Nat):Int)))&&((decide (((s.length:Nat):Int)≤(((Dh s).length:Nat):Int)))&&(decide (((s.length:Nat):Int)≤9223372036854775807)))))))))=true:=by
  simp[Dh];omega
 rw[show Nat.blt 0 s.length=true by simpa using c,ct,d,ct,uH,fM];rfl
theorem Ack {N:Nat} {b:List UInt8} {K:Int→Nat→LA→O R} (c:b.length≤140737488355328):Jj N b K=K (b.length:Int) b.length (Dh b):=by
 rw[Uu];unfold Q8
 rw[Z4];unfold X0
 have:(Nat.ble (0+b.length) 140737488355328&&Nat.ble ((0+b.length)*1) 140737488355328)=true:=by simp;omega
 rw[this,ct,Nat.zero_add]
theorem xS {N:Nat} {s b:List UInt8} {K:Int→Nat→LA→O R} (c:s.length+b.length≤140737488355328):Da N b s.length (Dh s) K=K (b.length:Int) (s++b).length (Dh (s++b)):=by
 rw[Ot];unfold Mb
 rw[Rp];unfold Pr
 have:(Nat.ble (s.length+b.length) 140737488355328&&Nat.ble ((s.length+b.length)*1) 140737488355328)=true:=by simp;omega
 rw[this,ct,wU s _ rfl,zL,List.length_append]
theorem ow {N n:Nat} {K:List UInt8→O R} (h:n≤9223372036854775807):strconv_Itoa N (n:Int) K=K (Fa n):=by
 rw[Jz];unfold Ky
 have:(decide (-9223372036854775808≤(n:Int))&&decide ((n:Int)≤9223372036854775807))=true:=by simp;omega
 rw[this,ct,Lib.itoa,if_neg (by omega),Int.toNat_natCast]
theorem uI (k:Nat):Lib.repeatL [48] k=List.replicate k 48:=by
 induction k with
 | zero=>rfl
 | succ k b=>rw[Lib.repeatL,b];rfl
theorem gN {N k:Nat} {K:List UInt8→O R} (h:k≤140737488355328):strings_Repeat N [48] (k:Int) K=K (List.replicate k 48):=by
 rw[G4];unfold Hp
 have:(decide ((0:Int)≤(k:Int))&&(decide ((k:Int)≤9223372036854775807)&&decide (((([48]:List UInt8).length:Nat):Int)*(k:Int)≤140737488355328)))=true:=by simp;omega
 rw[this,ct,Int.toNat_natCast,uI]
end
end Gx

namespace Gx
open Go Go.Proofs
section
variable {R:Type}
theorem Acl:∀ (k a:Nat),a<B9 ^ k→(wT a).length≤k:=by
  intro k
  induction k with
  | zero => intro a h; have : a = 0 := by simpa using h
            subst this;simp[ZC]
  | succ k c =>
    intro a h
    rcases Nat.eq_zero_or_pos a with b | b
    · subst b;simp[ZC]
    · rw[W7 b,List.length_cons]
      have:=c (a/B9) (Nat.div_lt_of_lt_mul (by rw[Nat.pow_succ,Nat.mul_comm] at h;exact h))
      omega
theorem Abm {l:List Nat} (h:Ae l):(wT (val l)).length≤2*l.length:=by
 refine Acl _ _ (Nat.lt_of_lt_of_le (Bi h) ?_)
 rw[Nat.pow_mul]
 exact Nat.pow_le_pow_left (by decide) _
theorem Aer:(Ac (10 ^ 9)).length≤1:=A4 (by decide)
theorem Afg:(10:Nat) ^ 9=B9:=by decide
theorem Bp (v:Nat) (a b:Bool):Ae (LS.of (Ac v) a b).l:=Ab v
theorem Adf {N v:Nat} {S:List Nat} {o:Bool} {K:LA→LA→Bool→O R} (b:Ae S) (c:val S=10 ^ 9) {s:LS} (d:Ae s.l) (e:val s.l=v) (f:fit (s.l.length+5) N) :
  D5 N (Bf false s) o [(.bool false),(.imm (List.take ((Ac (10 ^ 9)).length*1) (Aa S)) (Ac (10 ^ 9)).length 1 false true)] true K=K (Aq ((v/B9:Nat):Int)) (Aq ((v%B9:Nat):Int)) true:=by
 rw[A0 b c,lO,Sg d (Bp _ _ _) (by rw[ld];simp only[LS.l];rw[Ad];decide) (f.le (by have:=Aer;simp only[LS.l];omega)),ld,ld,e]
 simp only[LS.l]
 rw[Ad,Afg];rfl
theorem pA {N v:Nat} {o:Bool} {K:Int→Bool→O R} (c:v≤9223372036854775807) (b:fit 3 N):Qk N (Aq (v:Int)) o K=K (v:Int) true:=by
 have:(Ac v).length≤2:=A4 (by omega)
 rw[Ur,td (Bp _ _ _) (b.le (by simp only[LS.l];omega)) (by rw[ld];simp only[LS.l];rw[Ad];omega),ld]
 simp only[LS.l]
 rw[Ad]
theorem KU {N v:Nat} {o:Bool} {K:Int→O R} (b:fit ((Ac v).length) N):Ij N (Aq (v:Int)) o K=K (v:Int).sign:=by
 rw[Ur,Pp (Bp _ _ _) b,ld]
 simp only[LS.l]
 rw[Ad]
theorem Abn {v:Nat}:decide ((v:Int).sign>0)=decide (0<v):=by
 rw[decide_eq_decide]
 cases v with
 | zero=>simp
 | succ v=>simp
theorem Aes {l:List Nat} {j:Nat} {i:Int} (b:i=(j:Int)) (h:j<l.length) {f:Int→O R}:Gb .i64 (List.drop (0+((Int.toNat i)*1)) (gI l)) f=f (l[j]:Nat):=by subst b;exact Afx h
theorem zM {N:Nat} {G:List Nat} {K:List UInt8→O R} (hG:∀ g ∈ G,g<B9) (s:G.length≤2000000000):∀ (b m:Nat),1≤m→m≤G.length→G.length - m<b →
  N6 N K G.length (gI G) b (G.length:Int) (m:Int) (Rr (G.drop (G.length - m))).length (Dh (Rr (G.drop (G.length - m))))=K (Rr G):=by
 intro b
 induction b with
 | zero=>intro m _ _ h;omega
 | succ b k =>
  intro m i t u
  have hT:=ov (G.drop (G.length - m)) (fun g d=>hG g (List.mem_of_mem_drop d))
  rw[List.length_drop] at hT
  rw[N6];unfold X3
  by_cases e:m<G.length
  ·rw[NR e,ct]
   have j:IntKind.wrap .i64 ((IntKind.wrap .i64 (((G.length:Nat):Int) - 1)) - (m:Int))=((G.length - m - 1:Nat):Int):=by
    rw[show IntKind.wrap .i64 (((G.length:Nat):Int) - 1)=((G.length - 1:Nat):Int) by rw[i64 (by omega)];omega,i64 (by omega)];omega
   have c:G.length - m - 1<G.length:=by omega
   rw[show Ap (IntKind.wrap .i64 ((IntKind.wrap .i64 (((G.length:Nat):Int) - 1)) - (m:Int))) G.length=true by rw[j];unfold Ap;simp;omega,ct,Aes j c]
   have d:=hG _ (List.getElem_mem c)
   have hB:B9=1000000000:=rfl
   have l:=KT d
   rw[ow (by omega),show decide (((m:Nat):Int)>0)=true by simp;omega,ct]
   rw[show IntKind.wrap .i64 (9 - (((Fa G[G.length - m - 1]).length:Nat):Int))=((9 - (Fa G[G.length - m - 1]).length:Nat):Int) by rw[i64 (by omega)];omega]
   have n:G.drop (G.length - (m+1))=G[G.length - m - 1]::G.drop (G.length - m):=by
    rw[show G.length - (m+1)=G.length - m - 1 by omega,List.drop_eq_getElem_cons c,show G.length - m - 1+1=G.length - m by omega]
   have f:Rr (G.drop (G.length - (m+1)))=Rr (G.drop (G.length - m))++zJ G[G.length - m - 1]:=by
    rw[n]
    cases q:G.drop (G.length - m) with
    | nil=>have:=congrArg List.length q;rw[List.length_drop] at this;simp at this;omega
    | cons x y=>rw[Rr]
   rw[gN (by omega),xS (by rw[List.length_replicate];omega),xS (by rw[List.length_append,List.length_replicate];omega),List.append_assoc,show List.replicate (9 - (Fa G[G.length - m - 1]).length) 48++Fa G[G.length - m - 1]=zJ G[G.length - m - 1] from rfl,←f,wS (by omega)]
   exact k (m+1) (by omega) (by omega) (by omega)
  ·have e:m=G.length:=by omega
   subst e
   rw[VC (by omega),cf]
   rw[Nat.sub_self,List.drop_zero] at hT ⊢
   rw[Acj (by
    cases hG':G with
    | nil=>rw[hG'] at i;simp at i
    | cons g r =>
     cases r with
     | nil=>exact Qz g
     | cons h r =>
      rw[Rr,zJ];simp[Qz]) (by omega)]
theorem zN (g:Nat):Rr [g]=Fa g:=rfl
theorem zO {N:Nat} {G:List Nat} {K:List UInt8→O R} (hG:∀ g ∈ G,g<B9) (d:G≠[]) (f:G.length≤2000000000) (hN:G.length+2≤N):N7 N K G.length (gI G) N (G.length:Int)=K (Rr G):=by
 have k:=List.length_pos_iff.2 d
 obtain⟨n,rfl⟩:∃ n,N=n+1:=⟨N - 1,by omega⟩
 rw[N7];unfold X4
 have c:IntKind.wrap .i64 ((IntKind.wrap .i64 (((G.length:Nat):Int) - 1)) - 0)=((G.length - 1:Nat):Int):=by
  rw[show IntKind.wrap .i64 (((G.length:Nat):Int) - 1)=((G.length - 1:Nat):Int) by rw[i64 (by omega)];omega,i64 (by omega)];omega
 have b:G.length - 1<G.length:=by omega
 have i:=hG _ (List.getElem_mem b)
 have hB:B9=1000000000:=rfl
 have j:=KT i
 rw[show decide ((0:Int)<((G.length:Nat):Int))=true by simp;omega,ct,show Ap (IntKind.wrap .i64 ((IntKind.wrap .i64 (((G.length:Nat):Int) - 1)) - 0)) G.length=true by rw[c];unfold Ap;simp;omega,ct,Aes c b,ow (by omega),Ack (by omega)]
 have e:G.drop (G.length - 1)=[G[G.length - 1]]:=by
  rw[List.drop_eq_getElem_cons b,List.drop_eq_nil_of_le (by omega)]
 have:=zM (R:=R) (N:=n+1) (K:=K) hG f n 1 (by omega) (by omega) (by omega)
 rw[e,zN] at this
 exact this
theorem zP {N a:Nat} {S:List Nat} {i:Bool} {e:Nat} {l:LA} {K:List UInt8→O R} (m:Ae S) (n:val S=10 ^ 9) (q:0<a) (t:(wT a).length≤2000000000) (hN:(wT a).length+2≤N) (d:fit ((Ac a).length+5) N) :
  ∀ (b v:Nat) (G:List Nat),v≤a→G≠[]→G++wT v=wT a→(wT v).length<b→N8 N K false (Ac (10 ^ 9)).length (Aa S) i e l b G.length (Aq (v:Int)) (gI G)=K (Fa a):=by
 intro b
 induction b with
 | zero=>intro v G _ _ _ h;omega
 | succ b u =>
  intro v G f hG0 hG j
  have x:=Al f
  rw[N8];unfold X5
  have k:=congrArg List.length hG
  rw[List.length_append] at k
  rw[Jc,ct,MJ,KU (d.le (by omega)),Abn]
  rcases Nat.eq_zero_or_pos v with c | c
  ·subst c
   rw[ZC,List.append_nil] at hG
   have y:=List.length_pos_iff.2 hG0
   rw[show decide (0<0)=false by decide,cf,show(((G.length:Nat):Int)==0)=false by simp;omega,cf]
   rw[hG] at hG0 ⊢
   exact(zO (Ad7 a) hG0 t hN).trans (by rw[zK a q])
  ·rw[decide_eq_true c,ct,ct,Ur,Adf m n (s:=.of (Ac v) false false) (Bp _ _ _) (Ad v) (d.le (by simp only[LS.l];omega)),fq,ct,fq,ct,Jc,ct,MJ]
   have hB:B9=1000000000:=rfl
   have z:v%B9<B9:=Nat.mod_lt _ (by decide)
   rw[pA (by omega) (d.le (by omega)),show((Nat.ble (G.length+1) 140737488355328)&&(Nat.ble ((G.length+1)*8) 140737488355328))=true by simp;omega,ct,Jc,ct,MJ,mo,ct,←Ur,tb,Aci,Ad8]
   have e:(G++[v%B9])++wT (v/B9)=wT a:=by rw[List.append_assoc,←hG,W7 c];rfl
   have:=u (v/B9) (G++[v%B9]) (by have:=Nat.div_le_self v B9;omega) (by simp) e (by rw[W7 c,List.length_cons] at j;omega)
   rw[List.length_append] at this
   exact this
theorem uJ {N:Nat} {n:Bool} {s:LS} {u:Bool} {K:List UInt8→O R} (d:Ae s.l) (b:fit (2*s.l.length+40) N):Ti N (Bf n s) u K=K (Fa (An n s).natAbs):=by
 have hN:=b.1;have hN2:=b.2
 obtain⟨S,j,k,q⟩:=MN (R:=R) (N:=N) (n:=9) (b.le (by omega))
 rw[QC];unfold C_
 refine Eq.trans (q _) ?_
 rw[Q7,ct,SH,zE d (b.le (by omega))]
 have e:=Ba n s
 have f:=Abm d
 have i:=(Az d).2
 rw[←e] at f i
 generalize (An n s).natAbs=a at *
 obtain⟨m,rfl⟩:∃ m,N=m+1:=⟨N - 1,by omega⟩
 show Kf (m+1) K false _ false _ _ _ (m+1)=_
 rw[Kf];unfold X6
 rw[A0 (Ab a) (Ad a),lO,Pp (Bp _ _ _) (b.le (by show(Ac a).length≤_;omega)),ld,show val (LS.of (Ac a) false true).l=a from Ad a,Abn]
 rcases Nat.eq_zero_or_pos a with c | c
 ·subst c
  rw[show decide (0<0)=false by decide,cf,Dl (by omega)];rfl
 ·have hB:B9=1000000000:=rfl
  have t:a%B9<B9:=Nat.mod_lt _ (by decide)
  rw[decide_eq_true c,ct,Adf j k (s:=.of (Ac a) false true) (Bp _ _ _) (Ad a) (b.le (by show(Ac a).length+5≤_;omega)),fq,ct,fq,ct,Jc,ct,MJ,pA (by omega) (b.le (by omega)),Jc,ct,MJ,fq,ct]
  exact zP (R:=R) (G:=[a%B9]) j k c (by omega) (by omega) (b.le (by omega)) m (a/B9) (Nat.div_le_self _ _) (by simp) (by rw[W7 c];rfl) (by
   have:=congrArg List.length (W7 c)
   rw[List.length_cons] at this;omega)
end
end Gx

namespace Gx
open Go Go.Proofs
section
variable {R:Type}
theorem wV {v k:Nat} (h:v<10 ^ k):(Fa v).length≤k+1:=by
 have:=(xG (u:=v) (k:=k+1) (by omega)).2 (Nat.lt_of_lt_of_le h (Nat.pow_le_pow_right (by omega) (by omega)))
 exact this
theorem Acm (k:Nat):4294967296 ^ k≤10 ^ (10*k):=by
 rw[Nat.pow_mul];exact Nat.pow_le_pow_left (by decide) _
theorem Hx (v:Nat):(Fa v).length≤10*(Ac v).length+1:=wV (Nat.lt_of_lt_of_le (CW (Nat.le_refl _)) (Acm _))
def Dr (c:Nat) (s:List UInt8):List UInt8:=List.replicate (c+1 - s.length) 48++s
def Yd (z:Int) (s:List UInt8):List UInt8:=if z<0 then 45::s else s
def Adg (c:Nat) (s:List UInt8):List UInt8:=if c=0 then s else (Dr c s).take ((Dr c s).length - c)++[46]++(Dr c s).drop ((Dr c s).length - c)
def pt (z:Int) (c:Nat):List UInt8:=Yd z (Adg c (Fa z.natAbs))
theorem cE (c:Nat) (s:List UInt8):c+1≤(Dr c s).length∧(Dr c s).length≤c+1+s.length:=by
 unfold Dr;rw[List.length_append,List.length_replicate];omega
theorem Sm {a b:Nat} (h:a≤b):Nat.ble a b=true:=by simpa using h
theorem Adh {N:Nat} {n:Bool} {s:LS} {u:Bool} {c:Nat} {b:List UInt8} {K:List UInt8→O R} (d:Ae s.l) (f:fit s.l.length N) (j:c≤b.length) (k:b.length≤100000000000):Hv N K (c:Int) u (Bf n s) b=K (Yd (An n s) (b.take (b.length - c)++[46]++b.drop (b.length - c))):=by
 have i:IntKind.wrap .i64 ((((b.length):Nat):Int) - (c:Int))=((b.length - c:Nat):Int):=by rw[i64 (by omega)];omega
 unfold Hv
 rw[i]
 rw[show((decide ((0:Int)≤(0:Int)))&&((decide (0≤((b.length - c:Nat):Int)))&&((decide (((b.length - c:Nat):Int)≤(((b.length):Nat):Int)))&&(decide ((((b.length):Nat):Int)≤(((b.length):Nat):Int))))))=true by simp,ct]
 rw[Int.toNat_natCast,Sm (by rw[List.length_take];omega),ct]
 rw[show((decide (0≤((b.length - c:Nat):Int)))&&((decide (((b.length - c:Nat):Int)≤(((b.length):Nat):Int)))&&((decide ((((b.length):Nat):Int)≤(((b.length):Nat):Int)))&&(decide ((((b.length):Nat):Int)≤(((b.length):Nat):Int))))))=true by simp,ct]
 rw[List.take_of_length_le (l:=List.drop (b.length - c) b) (by rw[List.length_drop];omega)]
 rw[Sm (by rw[List.length_append,List.length_take,List.length_drop,List.length_singleton];omega),ct,Q7,ct,SH,Pp d f]
 unfold Yd
 by_cases h:An n s<0
 ·rw[show decide ((An n s).sign<0)=true by rw[decide_eq_true_eq];exact Int.sign_neg_iff.2 h,ct,if_pos h,Sm (by rw[List.length_append,List.length_append,List.length_take,List.length_drop,List.length_singleton];omega),ct];rfl
 ·rw[show decide ((An n s).sign<0)=false by rw[decide_eq_false_iff_not];intro e;exact h (Int.sign_neg_iff.1 e),cf,if_neg h]
theorem U5 {N:Nat} {n:Bool} {s:LS} {u:Bool} {c:Nat} {K:List UInt8→O R} (i:Ae s.l) (t:c≤1000000000) (d:fit (2*s.l.length+40) N):Ei N (Bf n s) u (c:Int) K=K (pt (An n s) c):=by
 have hN:=d.1;have hN2:=d.2
 have v:(Fa (An n s).natAbs).length≤10*s.l.length+1:=by
  have k:=Hx (An n s).natAbs
  have m:=(Az i).2
  rw[←Ba n s] at m;omega
 have x:=List.length_pos_iff.2 (Qz (An n s).natAbs)
 rw[Z7];unfold P7
 rw[Q7,ct,SH,uJ i d]
 unfold pt Adg
 generalize Fa (An n s).natAbs=f at *
 have q:=cE c f
 by_cases j:c=0
 ·subst j
  rw[show decide (((0:Nat):Int)>0)=false by decide,cf,ct,Pp i (d.le (by omega)),if_pos rfl]
  unfold Yd
  by_cases h:An n s<0
  ·rw[show decide ((An n s).sign<0)=true by rw[decide_eq_true_eq];exact Int.sign_neg_iff.2 h,ct,if_pos h,Sm (by omega),ct];rfl
  ·rw[show decide ((An n s).sign<0)=false by rw[decide_eq_false_iff_not];intro e;exact h (Int.sign_neg_iff.1 e),cf,if_neg h]
 ·rw[show decide (((c:Nat):Int)>0)=true by simp;omega,ct,if_neg j]
  by_cases k:f.length≤c
  ·rw[show decide ((((f.length):Nat):Int)≤(c:Int))=true by simp;omega,ct]
   rw[show IntKind.wrap .i64 ((IntKind.wrap .i64 (((c:Nat):Int)+1)) - (((f.length):Nat):Int))=((c+1 - f.length:Nat):Int) by rw[wS (by omega),i64 (by omega)];omega]
   rw[gN (by omega),Sm (by rw[List.length_replicate];omega),ct]
   exact Adh (b:=Dr c f) i (d.le (by omega)) (by omega) (by omega)
  ·rw[show decide ((((f.length):Nat):Int)≤(c:Int))=false by simp;omega,cf]
   have e:Dr c f=f:=by unfold Dr;rw[show c+1 - f.length=0 by omega];rfl
   rw[e]
   exact Adh (b:=f) i (d.le (by omega)) (by omega) (by omega)
def F9 (z:Int):List UInt8:=Yd z (Fa z.natAbs)
theorem gO (z:Int):pt z 0=F9 z:=rfl
theorem AQ (z:Int):(F9 z).length≤10*(Ac z.natAbs).length+2:=by
 have:=Hx z.natAbs
 unfold F9 Yd;split<;>simp<;>omega
theorem Jm {N:Nat} {n:Bool} {s:LS} {u:Bool} {K:List UInt8→O R} (b:Ae s.l) (d:fit (2*s.l.length+40) N):Bv N (Bf n s) u K=K (F9 (An n s)):=by
 rw[AA];unfold X9
 rw[Q7,ct,SH]
 exact U5 (c:=0) b (by omega) d
def M8 (q:Rat):List UInt8:=if q.den=1 then F9 q.num else F9 q.num++[47]++Fa q.den
theorem Acn {N v:Nat} {a b u:Bool} {K:List UInt8→O R} (c:fit (2*(Ac v).length+40) N):Bv N (Bf false (.of (Ac v) a b)) u K=K (Fa v):=by
 have:=Jm (R:=R) (n:=false) (s:=.of (Ac v) a b) (u:=u) (K:=K) (Bp v a b) (by show fit (2*(Ac v).length+40) N;exact c)
 rw[this,ld,show val (LS.of (Ac v) a b).l=v from Ad v]
 unfold F9 Yd
 rw[if_neg (by omega),Int.natAbs_natCast]
theorem xT {d:RatD} {q:Rat} (h:d.can q):An d.neg d.ns=q.num:=by
 unfold An
 rw[h.1,h.2.1,Ad]
 by_cases b:q.num<0
 ·rw[decide_eq_true b,if_pos rfl];omega
 ·rw[decide_eq_false b,if_neg (by simp)];omega
theorem U6 {N:Nat} {x:RatD} {o:Bool} {K:List UInt8→O R} (i:x.ok) (c:fit (4*x.m+60) N):Dv N x.av o K=K (M8 x.q):=by
 have A:=c.1;have B:=c.2
 obtain⟨d,b,k⟩:=SY (R:=R) (N:=N) (o:=o) i (c.le (by omega))
 obtain⟨S,a1,a2,a3⟩:=F6 (R:=R) (N:=N) (v:=1) (by omega) (by omega)
 have n:=Mr x i
 rw[←b.m] at n
 have s:d.ns.l.length≤d.m:=Nat.le_max_left _ _
 have t:d.ds.l.length≤d.m:=Nat.le_max_right _ _
 have e:=AQ x.q.num
 have f:=Hx x.q.den
 rw[←b.2.1] at e
 rw[←b.2.2] at f
 rw[AC];unfold Ya
 rw[Is,ct,Dp,k,show((Nat.beq (List.length d.av) 3)&&(true&&(!false)))=true by rfl,ct,show setCells x.av 0 d.av=d.av by rfl,bw,a3,A0 a1 a2]
 have u:([.bool false,.imm (Aa d.ds.l) d.ds.l.length 1 false (o||false)]:LA)=Bf false (.of (Ac x.q.den) false (o||false)):=by rw[b.2.2];rfl
 rw[u,lO,Xv (Bp _ _ _) (Bp _ _ _) (c.le (by
  have:(Ac (1:Int).natAbs).length≤1:=A4 (by decide)
  show(Ac x.q.den).length+(Ac (1:Int).natAbs).length≤_
  rw[←b.2.2];omega)),ld,show val (LS.of (Ac x.q.den) false (o||false)).l=x.q.den from Ad _]
 rw[show An (decide ((1:Int)<0)) (LS.of (Ac (1:Int).natAbs) false true)=1 from B5]
 have y:Nat.ble 2 (List.length d.av)=true:=rfl
 have z:List.take 2 d.av=Bf d.neg d.ns:=rfl
 have j:∀ K:List UInt8→O R,Bv N (Bf d.neg d.ns) (o||false) K=K (F9 x.q.num):=fun K=>by
  rw[Jm b.ok.1 (c.le (by omega)),xT b]
 rw[y,ct,z,j]
 unfold M8
 by_cases h:x.q.den=1
 ·rw[if_pos h,h,show((Om ((1:Nat):Int) 1)==0)=true by decide,ct]
 ·have:Om (x.q.den:Int) 1≠0:=by
   have:=x.q.den_pos
   unfold Om;rw[if_neg (by omega),if_pos (by omega)];decide
  rw[if_neg h,show((Om ((x.q.den:Nat):Int) 1)==0)=false by simpa using this,cf,ct,j,Sm (by omega),ct,Acn (c.le (by rw[←b.2.2];omega)),Sm (by rw[List.length_append,List.length_singleton];omega),ct]
theorem lh {v:Nat} (b:v<10):(List.take ((IntKind.wrap .u64 ((v:Int)+1)).toNat - (v:Int).toNat) (List.drop (v:Int).toNat ([48,49,50,51,52,53,54,55,56,57]:List UInt8)))=[UInt8.ofNat (48+v)]:=by
 rw[show(v:Int)+1=((v+1:Nat):Int) by omega,Fj (by omega),Int.toNat_natCast,Int.toNat_natCast]
 rcases v with _ | _ | _ | _ | _ | _ | _ | _ | _ | _ | v<;>first | rfl | omega
theorem uK {v:Nat} (b:v<10):((decide (0≤(v:Int)))&&((decide ((v:Int)≤(IntKind.wrap .u64 ((v:Int)+1))))&&((decide ((IntKind.wrap .u64 ((v:Int)+1))≤10))&&(decide ((10:Int)≤(10:Int))))))=true:=by
 rw[show(v:Int)+1=((v+1:Nat):Int) by omega,Fj (by omega)]
 simp;omega
theorem Aet {N v:Nat} {t o:Bool} {K:Nat→Nat→Bool→LA→LA→O R} (c:fit ((Ac v).length+6) N):F4 N (Aa (Ac v)) (Ac v).length t o [(.int .u32 10)] 1 false true K=K (Ac (v/10)).length (Ac (v%10)).length true (Aa (Ac (v/10))) (Aa (Ac (v%10))):=by
 have:=Nz (R:=R) (N:=N) (a:=Ac v) (b:=[10]) (t:=t) (o:=o) (t':=false) (o':=true) (K:=K) rfl rfl (Ab _) (by intro x d;simp at d;omega) (by decide) (c.le (by simp))
 rw[Ad] at this
 exact this
theorem Abo {N v:Nat} {K:Int→Bool→O R} (c:v<10) (b:fit 1 N):E4 N (List.take ((Ac v).length*1) (Aa (Ac v))) (Ac v).length false true K=K (v:Int) true:=by
 have:(Ac v).length≤1:=A4 (by omega)
 rw[wI,Nw rfl (Ab _) (b.le (by omega)),Ad,if_pos (by omega)]
theorem qv {N:Nat} {l:LA} {c:Nat} {e d:Bool} {K:List UInt8→O R}:∀ (b v:Nat) (f:List UInt8),0<v→(Fa v).length≤b→(Fa v).length+f.length≤100000000000→fit ((Ac v).length+6) N→Ld N K l c e d b (Ac v).length f (Aa (Ac v))=K (Fa v++f):=by
 intro b
 induction b with
 | zero=>intro v f _ h;exact absurd (List.length_eq_zero_iff.1 (by omega)) (Qz v)
 | succ b m =>
  intro v f t n q i
  have j:v%10<10:=Nat.mod_lt _ (by omega)
  have k:(([UInt8.ofNat (48+v%10)]:List UInt8).length)=1:=rfl
  rw[Ld];unfold Uz
  rw[wI,Aet i,Abo j (i.le (by omega)),uK j,ct,lh j,Sm (by rw[k];omega),ct]
  by_cases h:v<10
  ·rw[Nat.div_eq_of_lt h,Bx,show(((([]:List Nat).length:Nat):Int)==0)=true by rfl,ct,Dl h,Nat.mod_eq_of_lt h]
  ·have s:0<v/10:=Nat.div_pos (by omega) (by omega)
   rw[gL (fun e=>by have:=A2.1 e;omega),cf]
   rw[Pz (by omega),List.length_append,List.length_singleton] at n q
   rw[m (v/10) _ s (by omega) (by rw[List.length_append,k];omega) (i.le (by have:=Al (Nat.div_le_self v 10);omega)),Pz (u:=v) (by omega),List.append_assoc]
theorem Kg {N v:Nat} {e d:Bool} {K:List UInt8→O R} (b:fit ((Ac v).length+6) N):Hk N (Aa (Ac v)) (Ac v).length e d K=K (Fa v):=by
 have l:=b.1;have m:=b.2
 have q:=Hx v
 rw[KQ];unfold W3
 obtain⟨n,rfl⟩:∃ n,N=n+1:=⟨N - 1,by omega⟩
 have c:v%10<10:=Nat.mod_lt _ (by omega)
 have f:(([UInt8.ofNat (48+v%10)]:List UInt8).length)=1:=rfl
 rw[Le];unfold U0
 rw[Aet b,Abo c (b.le (by omega)),uK c,ct,lh c,Sm (by rw[f];omega),ct]
 by_cases h:v<10
 ·rw[Nat.div_eq_of_lt h,Bx,show(((([]:List Nat).length:Nat):Int)==0)=true by rfl,ct,Dl h,Nat.mod_eq_of_lt h];rfl
 ·have i:0<v/10:=Nat.div_pos (by omega) (by omega)
  have j:=Hx (v/10)
  have k:=Al (Nat.div_le_self v 10)
  rw[gL (fun e=>by have:=A2.1 e;omega),cf,List.append_nil]
  exact(qv (R:=R) n (v/10) _ i (by omega) (by rw[f];omega) (b.le (by omega))).trans (by rw[Pz (u:=v) (by omega)])
theorem Abp {N:Nat} {z:Int} {u:Bool} {K:List UInt8→O R} (b:fit ((Ac z.natAbs).length+6) N):C4 N (Aq z) u K=K (F9 z):=by
 have c:=b.2
 have d:=Hx z.natAbs
 rw[Oa];unfold N9
 rw[Jc,ct,MJ,YG,Jd (Bp _ _ _) (b.le (by show(Ac z.natAbs).length≤_;omega)),B5,←YG,mo,ct,tb,zG]
 unfold F9 Yd
 by_cases h:z<0
 ·rw[decide_eq_true h,ct,zH,Kg b,Sm (by omega),ct,if_pos h];rfl
 ·rw[decide_eq_false h,cf,zH,Kg b,if_neg h]
theorem gD {N:Nat} {n:Bool} {s:LS} {u:Bool} {K:List UInt8→O R} (c:Ae s.l) (b:fit (s.l.length+6) N):C4 N (Bf n s) u K=K (F9 (An n s)):=by
 have e:=b.2
 have d:=(Az c).2
 rw[←Ba n s] at d
 have f:=Hx (An n s).natAbs
 rw[Oa];unfold N9
 rw[Q7,ct,SH,Jd c (b.le (by omega)),mo,ct,show setCells (Bf n s) 0 (Aq (An n s))=Aq (An n s) by rfl,zG]
 generalize An n s=z at *
 unfold F9 Yd
 by_cases h:z<0
 ·rw[decide_eq_true h,ct,zH,Kg (b.le (by omega)),Sm (by omega),ct,if_pos h];rfl
 ·rw[decide_eq_false h,cf,zH,Kg (b.le (by omega)),if_neg h]
theorem gE {N:Nat} {x:RatD} {o:Bool} {K:List UInt8→O R} (d:x.ok) (c:fit (8*x.m+20) N):Ib N x.av o K=K (M8 x.q):=by
 have l:=c.1;have n:=c.2
 have s:=Mr x d
 have u:=Xy x.q
 have v:=JO x.q
 have i:=AQ x.q.num
 have j:=Hx x.q.den
 rw[W5];unfold U4
 rw[Is,ct,Dp,Cy d (c.le (by omega)),show((Nat.beq (List.length (cq x.q)) 3)&&(true&&(!false)))=true by rfl,ct,show setCells x.av 0 (cq x.q)=cq x.q by rfl,Ade]
 have k:=fun K=>IN (R:=R) (N:=N) (a:=Ac x.q.den) (b:=[1]) (t:=false) (o:=(o||false)) (t':=false) (o':=true) (K:=K) rfl rfl (c.le (by omega))
 have f:∀ K:List UInt8→O R,C4 N (Aq x.q.num) (o||false) K=K (F9 x.q.num):=fun K=>Abp (c.le (by omega))
 refine Eq.trans (k _) ?_
 rw[Z2,ct,ct,Pq,f,f,Ade]
 unfold M8
 by_cases h:x.q.den=1
 ·rw[if_pos h,h,decide_eq_true Hg,ct]
 ·have:Ac x.q.den≠[1]:=by
   intro e
   have:=congrArg val e
   rw[Ad] at this
   exact h (by simpa[val] using this)
  rw[if_neg h,decide_eq_false this,cf,Sm (by omega),ct,Kg (c.le (by omega)),Sm (by rw[List.length_append,List.length_singleton];omega),ct]
end
end Gx

namespace Gx
open Go Go.Proofs
open IntKind (wrap)
set_option maxRecDepth 100000
noncomputable section
variable {R:Type} (N:Nat)
def li (r0:LA→O R):O R :=
 (A8 N 10 (fun b=>(cond ((Nat.beq 0 0)&&((Nat.beq (b.length) 2)&&(Nat.beq 2 2))) (cond (Nat.ble 2 (b.length)) (r0 (b.take 2)) none) none)))
def ZD:=(Ag (@li R)).1
theorem fN:@ZD R=@li R:=(Ag _).2
def zQ:Dx:=[(32,C5 N)]
def lj (F:KF R):LA→O R:=(fun c=>F (.pagg c false) [])
theorem lk (F:KF R):Cq (zQ N) I0 N 142 [] [] F=(ZD N (lj F)):=by
 rw[fN]
 kernel_rfl
def fO (a:LA) (h:Ah) (k:KF R):O R :=
 match a,h with
 | [],[]=>(ZD N (lj k))
 | _,_=>none
theorem lm:Ao N 142 @fO:=by
 intro R Q a h k j;unfold fO;split;exact Av (lk ..) (lk ..) ⟨C6 N,trivial⟩;exact Ax
def wW:=Aw (lm N)
def wX:=Cr (lm N)
def Ye (r0:LA→O R) (b:Int) (k0:Int→LA→O R) (d:Int) (c:LA):O R :=
 (cond (decide (d<b)) (cond (Nat.ble 2 (c.length)) (ZD N (fun g=>(Nx N (c.take 2) false g false (fun e=>(cond ((Nat.beq (e.length) 2)&&((Nat.ble 2 (c.length))&&(!false))) (k0 (wrap .i64 (d+1)) (setCells c 0 e)) none))))) none) (cond (Nat.ble 2 (c.length)) (cond ((Nat.beq 0 0)&&((Nat.beq ((c.take 2).length) 2)&&(Nat.beq 2 2))) (cond (Nat.ble 2 ((c.take 2).length)) (r0 ((c.take 2).take 2)) none) none) none))
def Kh (r0:LA→O R) (b:Int):Nat→Int→LA→O R
 | 0,_,_=>none
 | n+1,d,c=>(Ye N r0 b (Kh r0 b n) d c)
def DD (r0:LA→O R) (q0:Int→LA→O R) (b:Int):O R :=
 (A8 N 1 (fun f=>(cond ((Nat.beq 0 0)&&((Nat.beq (f.length) 2)&&(Nat.beq 2 2))) (q0 0 f) none)))
def Ps:=(Ag (fun (N:Nat) (b:Int) (r0:LA→O R)=>(DD N r0 (fun d c=>(Kh N r0 b N d c)) b))).1
theorem QL (b r0):(@Ps R N b r0)=(DD N r0 (fun d c=>(Kh N r0 b N d c)) b):=by rw[Ps,(Ag _).2]
def ZE:Hints:={ H:=(hS hL (hS hL (hS (hS hL (hS (hP [0,2,3,4] hL) hL)) hL))),modes:=[(3,0)] }
def fP:Dx:=[(32,C5 N),(142,wW N),(95,SQ N)]
def qw (F:KF R):=S6 Tryz.f73 ZE (fP N) [] N F
def Ob (F:KF R):LA→O R:=(fun i=>F (.pagg i false) [])
def qy (b d:Int) (c:LA):St:=⟨[(0,(iv b)),(2,(op 0)),(3,(op 1)),(4,(iv d))],(hq [(bN 0 [(.bool false),.nsl]),(bQ 0 c)])⟩
def qz (F:KF R):=qw N F [1,1,0,1,0] []
theorem FX (F:KF R) (b:Int):∀ (n:Nat) (d:Int) (c:LA),Ay (qz N F) n (qy b d c)=(Kh N (Ob F) b n d c)
 | 0,_,_=>by kernel_rfl
 | n+1,d,c=>Eq.trans (by kernel_rfl) (El (Ye N (Ob F) b · d c) (funext fun d=>funext fun c=>(FX F b n d c)):_)
theorem ZF (b:Int) (F:KF R):Cq (fP N) ZE N 73 [(iv b)] [] F=(Ps N b (Ob F)):=by
 rw[QL]
 exact Eq.trans (by kernel_rfl) (El (DD N (Ob F) · b) (funext fun d=>funext fun c=>(At ..).trans (FX N F b N d c)):_)
def QM (a:LA) (h:Ah) (k:KF R):O R :=
 match a,h with
 | [(.int .i64 b)],[]=>(Ps N b (Ob k))
 | _,_=>none
theorem ZG:Ao N 73 @QM:=by
 intro R Q a h k j;unfold QM;split;exact Av (ZF ..) (ZF ..) ⟨C6 N,wX N,SR N,trivial⟩;exact Ax
def ZH:=Aw (ZG N)
def ZI:=Cr (ZG N)
def Yf (N:Nat) (r0:List UInt8→O R) (c:Int) (k0:List UInt8→Bool→LA→O R) (b:List UInt8) (e:Bool) (d:LA):O R :=
 (cond (decide ((((b.length):Nat):Int)≤c)) (cond (Nat.ble (1+(b.length)) 140737488355328) (k0 (([48]:List UInt8)++b) e d) none) (cond (decide (c>0)) (cond ((decide ((0:Int)≤(0:Int)))&&((decide (0≤(wrap .i64 ((((b.length):Nat):Int) - c))))&&((decide ((wrap .i64 ((((b.length):Nat):Int) - c))≤(((b.length):Nat):Int)))&&(decide ((((b.length):Nat):Int)≤(((b.length):Nat):Int)))))) (cond (Nat.ble ((List.length (List.take ((wrap .i64 ((((b.length):Nat):Int) - c)).toNat) b))+1) 140737488355328) (cond ((decide (0≤(wrap .i64 ((((b.length):Nat):Int) - c))))&&((decide ((wrap .i64 ((((b.length):Nat):Int) - c))≤(((b.length):Nat):Int)))&&((decide ((((b.length):Nat):Int)≤(((b.length):Nat):Int)))&&(decide ((((b.length):Nat):Int)≤(((b.length):Nat):Int)))))) (cond (Nat.ble ((List.length ((List.take ((wrap .i64 ((((b.length):Nat):Int) - c)).toNat) b)++([46]:List UInt8)))+(List.length (List.take ((b.length) - ((wrap .i64 ((((b.length):Nat):Int) - c)).toNat)) (List.drop ((wrap .i64 ((((b.length):Nat):Int) - c)).toNat) b)))) 140737488355328) (Qc d fun l=>(cond l (cond (Nat.ble (1+(List.length (((List.take ((wrap .i64 ((((b.length):Nat):Int) - c)).toNat) b)++([46]:List UInt8))++(List.take ((b.length) - ((wrap .i64 ((((b.length):Nat):Int) - c)).toNat)) (List.drop ((wrap .i64 ((((b.length):Nat):Int) - c)).toNat) b))))) 140737488355328) (r0 (([45]:List UInt8)++(((List.take ((wrap .i64 ((((b.length):Nat):Int) - c)).toNat) b)++([46]:List UInt8))++(List.take ((b.length) - ((wrap .i64 ((((b.length):Nat):Int) - c)).toNat)) (List.drop ((wrap .i64 ((((b.length):Nat):Int) - c)).toNat) b))))) none) (r0 (((List.take ((wrap .i64 ((((b.length):Nat):Int) - c)).toNat) b)++([46]:List UInt8))++(List.take ((b.length) - ((wrap .i64 ((((b.length):Nat):Int) - c)).toNat)) (List.drop ((wrap .i64 ((((b.length):Nat):Int) - c)).toNat) b)))))) none) none) none) none) (Qc d fun m=>(cond m (cond (Nat.ble (1+(b.length)) 140737488355328) (r0 (([45]:List UInt8)++b)) none) (r0 b)))))
def Ki (r0:List UInt8→O R) (c:Int):Nat→List UInt8→Bool→LA→O R
 | 0,_,_,_=>none
 | n+1,b,e,d=>(Yf N r0 c (Ki r0 c n) b e d)
def DE (r0:List UInt8→O R) (q0:List UInt8→Bool→LA→O R) (f:LA) (g:Bool) (c:Int):O R :=
 (cond (Nat.ble 2 (f.length)) (E3 N (f.take 2) g (fun i=>(cond ((Nat.beq (i.length) 2)&&((Nat.ble 2 (f.length))&&(!false))) (Ir 1 ((setCells f 0 i).drop 1) fun o p=>(Hk N o p false (g||false) (fun q=>(q0 q (g||false) (setCells f 0 i))))) none))) none)
def Pt:=(Ag (fun (N:Nat) (f:LA) (g:Bool) (c:Int) (r0:List UInt8→O R)=>(DE N r0 (fun b e d=>(Ki N r0 c N b e d)) f g c))).1
theorem QN (f g c r0):(@Pt R N f g c r0)=(DE N r0 (fun b e d=>(Ki N r0 c N b e d)) f g c):=by rw[Pt,(Ag _).2]
def ZJ:Hints:={ H:=(hS hL (hS hL (hS hL (hS (hS (hP [1,2,5] hL) hL) hL)))) }
def fQ:Dx:=[(26,Mj N),(61,Yb N)]
def rA (F:KF R):=S6 Tryz.f74 ZJ (fQ N) [] N F
def Oc (F:KF R):List UInt8→O R:=(fun r=>F (.str r) [])
def rB (c:Int) (b:List UInt8) (e:Bool) (d:LA):St:=⟨[(1,(iv c)),(2,(op 0)),(5,(.str b))],(hq [(bP e 0 d)])⟩
def rC (F:KF R):=rA N F [1,1,1,0,0] []
theorem FY (F:KF R) (c:Int):∀ (n:Nat) (b:List UInt8) (e:Bool) (d:LA),Ay (rC N F) n (rB c b e d)=(Ki N (Oc F) c n b e d)
 | 0,_,_,_=>by kernel_rfl
 | n+1,b,e,d=>Eq.trans (by kernel_rfl) (El (Yf N (Oc F) c · b e d) (funext fun b=>funext fun e=>funext fun d=>(FY F c n b e d)):_)
theorem ZK (f:LA) (g:Bool) (c:Int) (F:KF R):Cq (fQ N) ZJ N 74 [(.pagg f g),(iv c)] [] F=(Pt N f g c (Oc F)):=by
 rw[QN]
 exact Eq.trans (by kernel_rfl) (El (DE N (Oc F) · f g c) (funext fun b=>funext fun e=>funext fun d=>(At ..).trans (FY N F c N b e d)):_)
def QO (a:LA) (h:Ah) (k:KF R):O R :=
 match a,h with
 | [(.pagg f g),(.int .i64 c)],[]=>(Pt N f g c (Oc k))
 | _,_=>none
theorem ZL:Ao N 74 @QO:=by
 intro R Q a h k j;unfold QO;split;exact Av (ZK ..) (ZK ..) ⟨Mk N,Yc N,trivial⟩;exact Ax
def ZM:=Aw (ZL N)
def ZN:=Cr (ZL N)
def Rd (k4:Int→LA→O R) (r0:List UInt8→Bool→O R) (c:Bool) (b d:LA) (e:Nat) (k2:Int→Int→LA→O R) (m o:Int) (i:LA):O R :=
 (A8 N m (fun v=>(cond (Nat.ble 2 (i.length)) (Mn N v false (i.take 2) false (fun w=>(cond w (cond (Nat.ble 2 (i.length)) (A8 N m (fun x=>(C8 N (i.take 2) false x false (fun t ar au=>(cond ((Nat.beq (t.length) 2)&&((Nat.ble 2 (i.length))&&(!false))) (k2 m o (setCells i 0 t)) none))))) none) (k4 (wrap .i64 (o+1)) i)))) none)))
def Bz (k4:Int→LA→O R) (r0:List UInt8→Bool→O R) (c:Bool) (b d:LA) (e:Nat):Nat→Int→Int→LA→O R
 | 0,_,_,_=>none
 | n+1,m,o,i=>(Rd N k4 r0 c b d e (Bz k4 r0 c b d e n) m o i)
def Hy (k0:Int→O R) (k4:Int→LA→O R) (r0:List UInt8→Bool→O R) (c:Bool) (b d:LA) (e:Nat) (k1:Int→Int→O R) (k2:Int→Int→LA→O R) (q r:Int):O R :=
 (A8 N q (fun y=>(Mn N y false [(.bool false),(.imm d e 1 false false)] false (fun z=>(cond z (A8 N q (fun aa=>(C8 N [(.bool false),(.imm d e 1 false false)] false aa false (fun u av aw=>(cond ((Nat.beq 0 0)&&((Nat.beq (u.length) 2)&&(Nat.beq 2 2))) (k2 q r u) none))))) (k0 (wrap .i64 (r+1))))))))
def Cd (k0:Int→O R) (k4:Int→LA→O R) (r0:List UInt8→Bool→O R) (c:Bool) (b d:LA) (e:Nat):Nat→Int→Int→O R
 | 0,_,_=>none
 | n+1,q,r=>(Hy N k0 k4 r0 c b d e (Cd k0 k4 r0 c b d e n) (fun m o i=>(Bz N k4 r0 c b d e n m o i)) q r)
def Re (r0:List UInt8→Bool→O R) (c:Bool) (b:LA) (k3:Int→O R) (p:Int):O R :=
 (cond (Nat.ble 3 (b.length)) (Ps N p (fun ab=>(H9 N ab false (fun ac=>(Ny N (b.take 3) c ac false (fun ad=>(B4 N ad false (fun s=>(cond ((Nat.beq 0 0)&&((Nat.beq (s.length) 3)&&(Nat.beq 3 3))) (Ir 1 (s.drop 2) fun ae af=>(H6 N ae af false false [(.int .u32 1)] 1 false true (fun ag=>(cond ag (cond (Nat.ble 2 (s.length)) (Pt N (s.take 2) false p (fun ah=>(r0 ah true))) none) (k3 (wrap .i64 (p+1))))))) none))))))))) none)
def Dc (r0:List UInt8→Bool→O R) (c:Bool) (b:LA):Nat→Int→O R
 | 0,_=>none
 | n+1,p=>(Re N r0 c b (Dc r0 c b n) p)
def Lw (r0:List UInt8→Bool→O R) (c:Bool) (b d:LA) (e:Nat) (k4:Int→LA→O R) (q2:Int→Int→LA→O R) (q3:Int→O R) (f:Int) (g:LA):O R :=
 (cond (decide (f<2)) (cond (Ap f 2) (Gb .i64 (List.drop (0+((f.toNat)*1)) [(.int .i64 2),(.int .i64 5)]) fun ai=>(q2 ai f g)) none) (cond (Nat.ble 2 (g.length)) (A8 N 1 (fun aj=>(Ja N (g.take 2) false aj false (fun ak=>(cond (ak != 0) (r0 ([]:List UInt8) false) (q3 0)))))) none))
def Bd (r0:List UInt8→Bool→O R) (c:Bool) (b d:LA) (e:Nat):Nat→Int→LA→O R
 | 0,_,_=>none
 | n+1,f,g=>(Lw N r0 c b d e (Bd r0 c b d e n) (fun m o i=>(Bz N (Bd r0 c b d e n) r0 c b d e N m o i)) (fun p=>(Dc N r0 c b N p)) f g)
def Lx (r0:List UInt8→Bool→O R) (c:Bool) (b d:LA) (e:Nat) (k0:Int→O R) (k4:Int→LA→O R) (q1:Int→Int→O R) (q3:Int→O R) (l:Int):O R :=
 (cond (decide (l<2)) (cond (Ap l 2) (Gb .i64 (List.drop (0+((l.toNat)*1)) [(.int .i64 2),(.int .i64 5)]) fun al=>(q1 al l)) none) (A8 N 1 (fun am=>(Ja N [(.bool false),(.imm d e 1 false false)] false am false (fun an=>(cond (an != 0) (r0 ([]:List UInt8) false) (q3 0)))))))
def A6 (r0:List UInt8→Bool→O R) (c:Bool) (b d:LA) (e:Nat):Nat→Int→O R
 | 0,_=>none
 | n+1,l=>(Lx N r0 c b d e (A6 r0 c b d e n) (fun f g=>(Bd N r0 c b d e n f g)) (fun q r=>(Cd N (A6 r0 c b d e n) (fun f g=>(Bd N r0 c b d e n f g)) r0 c b d e N q r)) (fun p=>(Dc N r0 c b N p)) l)
def Sn (r0:List UInt8→Bool→O R) (q0:LA→Nat→Int→O R) (b:LA) (c:Bool):O R :=
 (cond (Nat.ble 3 (b.length)) (B4 N (b.take 3) c (fun ao=>(Ir 1 (ao.drop 2) fun d e=>(q0 d e 0)))) none)
def Fu:=(Ag (fun (N:Nat) (b:LA) (c:Bool) (r0:List UInt8→Bool→O R)=>(Sn N r0 (fun d e l=>(A6 N r0 c b d e N l)) b c))).1
theorem FZ (b c r0):(@Fu R N b c r0)=(Sn N r0 (fun d e l=>(A6 N r0 c b d e N l)) b c):=by rw[Fu,(Ag _).2]
def KV:Hints:={ H:=(hS hL (hS hL (hS (hS hL (hS (hP [1,4,13,14,15] (hS hL (hS hL (hS (hS (hS hL (hS (hP [1,4,6,13,14,15] hL) hL)) hL) hL)))) hL)) (hS hL (hS hL (hS (hP [1,7] hL) hL)))))) }
def QP:Dx:=[(28,Eo N),(32,C5 N),(72,kY N),(70,kW N),(71,K7 N),(73,ZH N),(30,Sd N),(41,SU N),(65,Ns N),(74,ZM N)]
def U7 (F:KF R):=S6 Tryz.f20 KV (QP N) [] N F
def Be (F:KF R):List UInt8→Bool→O R:=(fun ap aq=>F (.tup [(.str ap),(.bool aq)]) [])
def ln (c:Bool) (b d:LA) (e:Nat) (m o:Int) (i:LA):St:=⟨[(1,(op 0)),(4,(op 1)),(6,(iv m)),(13,(.own 300002 0 2)),(14,(iv 2)),(15,(iv o))],(hq [(bP c 0 b),(bQ 0 i),(bQ 1 [(iv 2),(iv 5)])])⟩
def lp (c:Bool) (b d:LA) (e:Nat) (q r:Int):St:=⟨[(1,(op 0)),(4,(op 1)),(6,(iv q)),(13,(.own 300002 0 2)),(14,(iv 2)),(15,(iv r))],(hq [(bP c 0 b),(bN 0 [(.bool false),(.imm d e 1 false false)]),(bQ 1 [(iv 2),(iv 5)])])⟩
def KW (F:KF R) (Q0:St→O R):=U7 N F [1,1,0,1,0,0,1,1,0,0,1,0] [Q0]
def lt (c:Bool) (b:LA) (p:Int):St:=⟨[(1,(op 0)),(7,(iv p))],(hq [(bP c 0 b)])⟩
def lu (F:KF R):=U7 N F [1,1,1,1,1,0] []
def Jn (c:Bool) (b d:LA) (e:Nat) (f:Int) (g:LA):St:=⟨[(1,(op 0)),(4,(op 1)),(13,(.own 300002 0 2)),(14,(iv 2)),(15,(iv f))],(hq [(bP c 0 b),(bQ 0 g),(bQ 1 [(iv 2),(iv 5)])])⟩
def U8 (c:Bool) (b d:LA) (e:Nat) (l:Int):St:=⟨[(1,(op 0)),(4,(op 1)),(13,(.own 300002 0 2)),(14,(iv 2)),(15,(iv l))],(hq [(bP c 0 b),(bN 0 [(.bool false),(.imm d e 1 false false)]),(bQ 1 [(iv 2),(iv 5)])])⟩
def Od (F:KF R):=U7 N F [1,1,0,1,0] []
theorem Oe (Q0:St→O R) (F:KF R) (c:Bool) (b d:LA) (e:Nat):∀ (n:Nat) (m o:Int) (i:LA),Ay (KW N F Q0) n (ln c b d e m o i)=(Bz N (fun f g=>Q0 (Jn c b d e f g)) (Be F) c b d e n m o i)
 | 0,_,_,_=>by kernel_rfl
 | n+1,m,o,i=>Eq.trans (by kernel_rfl) (El (Rd N (fun f g=>Q0 (Jn c b d e f g)) (Be F) c b d e · m o i) (funext fun m=>funext fun o=>funext fun i=>(Oe Q0 F c b d e n m o i)):_)
theorem W8 (Q0:St→O R) (F:KF R) (c:Bool) (b d:LA) (e:Nat):∀ (n:Nat) (q r:Int),Ay (KW N F Q0) n (lp c b d e q r)=(Cd N (fun l=>Q0 (U8 c b d e l)) (fun f g=>Q0 (Jn c b d e f g)) (Be F) c b d e n q r)
 | 0,_,_=>by kernel_rfl
 | n+1,q,r=>Eq.trans (by kernel_rfl) (vC (Hy N (fun l=>Q0 (U8 c b d e l)) (fun f g=>Q0 (Jn c b d e f g)) (Be F) c b d e · · q r) (funext fun q=>funext fun r=>(W8 Q0 F c b d e n q r)) (funext fun m=>funext fun o=>funext fun i=>(Oe N Q0 F c b d e n m o i)):_)
theorem Of (F:KF R) (c:Bool) (b:LA):∀ (n:Nat) (p:Int),Ay (lu N F) n (lt c b p)=(Dc N (Be F) c b n p)
 | 0,_=>by kernel_rfl
 | n+1,p=>Eq.trans (by kernel_rfl) (El (Re N (Be F) c b · p) (funext fun p=>(Of F c b n p)):_)
theorem Og (F:KF R) (c:Bool) (b d:LA) (e:Nat):∀ (n:Nat) (f:Int) (g:LA),Ay (Od N F) n (Jn c b d e f g)=(Bd N (Be F) c b d e n f g)
 | 0,_,_=>by kernel_rfl
 | n+1,f,g=>have e0:=(funext fun f=>funext fun g=>(Og F c b d e n f g))
  Eq.trans (by kernel_rfl) (Afm (Lw N (Be F) c b d e · · · f g) e0 (funext fun m=>funext fun o=>funext fun i=>(At ..).trans ((Oe N (Ay (Od N F) n) F c b d e N m o i).trans (El (Bz N · (Be F) c b d e N m o i) e0))) (funext fun p=>(At ..).trans (Of N F c b N p)):_)
theorem W9 (F:KF R) (c:Bool) (b d:LA) (e:Nat):∀ (n:Nat) (l:Int),Ay (Od N F) n (U8 c b d e l)=(A6 N (Be F) c b d e n l)
 | 0,_=>by kernel_rfl
 | n+1,l=>have e0:=(funext fun l=>(W9 F c b d e n l))
  Eq.trans (by kernel_rfl) (Afs (Lx N (Be F) c b d e · · · · l) e0 (funext fun f=>funext fun g=>(Og N F c b d e n f g)) (funext fun q=>funext fun r=>(At ..).trans ((W8 N (Ay (Od N F) n) F c b d e N q r).trans (vC (Cd N · · (Be F) c b d e N q r) e0 (funext fun f=>funext fun g=>(Og N F c b d e n f g))))) (funext fun p=>(At ..).trans (Of N F c b N p)):_)
theorem KX (b:LA) (c:Bool) (F:KF R):Cq (QP N) KV N 20 [(.pagg b c)] [] F=(Fu N b c (Be F)):=by
 rw[FZ]
 exact Eq.trans (by kernel_rfl) (El (Sn N (Be F) · b c) (funext fun d=>funext fun e=>funext fun l=>(At ..).trans (W9 N F c b d e N l)):_)
def F_ (a:LA) (h:Ah) (k:KF R):O R :=
 match a,h with
 | [(.pagg b c)],[]=>(Fu N b c (Be k))
 | _,_=>none
theorem KY:Ao N 20 @F_:=by
 intro R Q a h k j;unfold F_;split;exact Av (KX ..) (KX ..) ⟨Ep N,C6 N,kZ N,kX N,K8 N,ZI N,Se N,SV N,Nt N,ZN N,trivial⟩;exact Ax
def lv:=Aw (KY N)
def lw:=Cr (KY N)
def DF (c:LA) (d:Bool) (b:Int) (r0:List UInt8→Int→O R):O R :=
 (cond ((decide (b<0))==false) (cond (cond false true (decide (b>100))) (r0 ([]:List UInt8) 3) (cond (Nat.ble 3 (c.length)) (Ps N b (fun e=>(H9 N e false (fun f=>(Ny N (c.take 3) d f false (fun g=>(Z1 N g false (fun i=>(Pt N i false b (fun l=>(r0 l 0))))))))))) none)) (r0 ([]:List UInt8) 3))
def Kj:=(Ag (@DF R)).1
theorem Yg:@Kj R=@DF R:=(Ag _).2
def uL:Dx:=[(73,ZH N),(30,Sd N),(41,SU N),(77,qZ N),(74,ZM N)]
def ZO (F:KF R):List UInt8→Int→O R:=(fun m n=>F (.tup [(.str m),(iv n)]) [])
theorem ZP (c:LA) (d:Bool) (b:Int) (F:KF R):Cq (uL N) Cn N 22 [(.pagg c d),(iv b)] [] F=(Kj N c d b (ZO F)):=by
 rw[Yg]
 kernel_rfl
def QQ (a:LA) (h:Ah) (k:KF R):O R :=
 match a,h with
 | [(.pagg c d),(.int .i64 b)],[]=>(Kj N c d b (ZO k))
 | _,_=>none
theorem ZQ:Ao N 22 @QQ:=by
 intro R Q a h k j;unfold QQ;split;exact Av (ZP ..) (ZP ..) ⟨ZI N,Se N,SV N,q8 N,ZN N,trivial⟩;exact Ax
def rD:=Aw (ZQ N)
def rE:=Cr (ZQ N)
def Bs (r0:Bool→O R) (p:List UInt8) (q:Bool) (r:List UInt8) (s d:Bool) (e:LA) (f:Nat) (l b:Bool) (g:LA) (i:Nat) (m c:Bool) (k0:Int→LA→O R) (o:Int) (t:LA):O R :=
 (cond (decide (o<2)) (cond (Ap o 2) (Gb .i64 (t.drop (0+((o.toNat)*1))) fun w=>(Hw N [(.bool d),(.imm e f 1 false b),(.imm g i 1 false c)] (b||(c||false)) w (fun x y=>(Kj N [(.bool d),(.imm e f 1 false b),(.imm g i 1 false c)] (b||(c||false)) w (fun z aa=>(cond ((!(x==z))==false) (cond (cond false true (y != aa)) (r0 false) (k0 (wrap .i64 (o+1)) t)) (r0 false))))))) none) (Cc N (fun ab=>(cond (ab==true) (cond ((cond true (p==r) false)==true) (r0 (cond true (q==s) false)) (r0 false)) (r0 false)))))
def Bb (r0:Bool→O R) (p:List UInt8) (q:Bool) (r:List UInt8) (s d:Bool) (e:LA) (f:Nat) (l b:Bool) (g:LA) (i:Nat) (m c:Bool):Nat→Int→LA→O R
 | 0,_,_=>none
 | n+1,o,t=>(Bs N r0 p q r s d e f l b g i m c (Bb r0 p q r s d e f l b g i m c n) o t)
def Ej (r0:Bool→O R) (q0:List UInt8→Bool→List UInt8→Bool→Int→LA→O R) (d:Bool) (e:LA) (f:Nat) (l b:Bool) (g:LA) (i:Nat) (m c:Bool) (u v:Int):O R :=
 (Eb N [(.bool d),(.imm e f 1 false b),(.imm g i 1 false c)] (b||(c||false)) (fun p q=>(Fu N [(.bool d),(.imm e f 1 false b),(.imm g i 1 false c)] (b||(c||false)) (fun r s=>(q0 p q r s 0 [(.int .i64 u),(.int .i64 (wrap .i64 v))])))))
def Dj:=(Ag (fun (N:Nat) (d:Bool) (e:LA) (f:Nat) (l b:Bool) (g:LA) (i:Nat) (m c:Bool) (u v:Int) (r0:Bool→O R)=>(Ej N r0 (fun p q r s o t=>(Bb N r0 p q r s d e f l b g i m c N o t)) d e f l b g i m c u v))).1
theorem Kl (d e f l b g i m c u v r0):(@Dj R N d e f l b g i m c u v r0)=(Ej N r0 (fun p q r s o t=>(Bb N r0 p q r s d e f l b g i m c N o t)) d e f l b g i m c u v):=by rw[Dj,(Ag _).2]
def Lh:Hints:={ H:=(hS hL (hS hL (hS hL (hS (hS hL (hS (hP [3,7,8,9,10,30,31,32] hL) hL)) hL)))) }
def Mx:Dx:=[(19,X7 N),(20,lv N),(21,fK N),(22,rD N),(14,Jk N)]
def Yh (F:KF R):=S6 Tryz.f4 Lh (Mx N) [] N F
def Cp (F:KF R):Bool→O R:=(fun ac=>F (.bool ac) [])
def Yi (p:List UInt8) (q:Bool) (r:List UInt8) (s d:Bool) (e:LA) (f:Nat) (l b:Bool) (g:LA) (i:Nat) (m c:Bool) (o:Int) (t:LA):St:=⟨[(3,(op 0)),(7,(.str p)),(8,(.bool q)),(9,(.str r)),(10,(.bool s)),(30,(.own 300001 0 2)),(31,(iv 2)),(32,(iv o))],(hq [(bN 0 [(.bool d),(.imm e f 1 l b),(.imm g i 1 m c)]),(bQ 1 t)])⟩
def Yj (F:KF R):=Yh N F [1,1,1,0,1,0] []
theorem Iq (F:KF R) (p:List UInt8) (q:Bool) (r:List UInt8) (s d:Bool) (e:LA) (f:Nat) (l b:Bool) (g:LA) (i:Nat) (m c:Bool):∀ (n:Nat) (o:Int) (t:LA),Ay (Yj N F) n (Yi p q r s d e f l b g i m c o t)=(Bb N (Cp F) p q r s d e f l b g i m c n o t)
 | 0,_,_=>by kernel_rfl
 | n+1,o,t=>Eq.trans (by kernel_rfl) (El (Bs N (Cp F) p q r s d e f l b g i m c · o t) (funext fun o=>funext fun t=>(Iq F p q r s d e f l b g i m c n o t)):_)
theorem Li (d:Bool) (e:LA) (f:Nat) (l b:Bool) (g:LA) (i:Nat) (m c:Bool) (u v:Int) (F:KF R):Cq (Mx N) Lh N 4 [(.agg [(.bool d),(.imm e f 1 l b),(.imm g i 1 m c)]),(iv u),(.int .u8 v)] [] F=(Dj N d e f l b g i m c u v (Cp F)):=by
 rw[Kl]
 exact Eq.trans (by kernel_rfl) (El (Ej N (Cp F) · d e f l b g i m c u v) (funext fun p=>funext fun q=>funext fun r=>funext fun s=>funext fun o=>funext fun t=>(At ..).trans (Iq N F p q r s d e f l b g i m c N o t)):_)
def Km (a:LA) (h:Ah) (k:KF R):O R :=
 match a,h with
 | [(.agg [(.bool d),(.imm e f 1 l b),(.imm g i 1 m c)]),(.int .i64 u),(.int .u8 v)],[]=>(Dj N d e f l b g i m c u v (Cp k))
 | _,_=>none
theorem Lj:Ao N 4 @Km:=by
 intro R Q a h k j;unfold Km;split;exact Av (Li ..) (Li ..) ⟨X8 N,lw N,fL N,rE N,Jl N,trivial⟩;exact Ax
def Yk:=Aw (Lj N)
def Yl:=Cr (Lj N)
def So (b:List UInt8) (r0:LA→Int→O R):O R :=
 (Ji N b (fun d=>(cond (!d) (r0 [(.bool false),.nsl] 2) (Ma N b (fun e=>(cond e (r0 [(.bool false),.nsl] 8) (Mt N b (fun c=>(cond ((Nat.beq 0 0)&&((Nat.beq (c.length) 2)&&(Nat.beq 2 2))) (cond (Nat.ble 2 (c.length)) (r0 (c.take 2) 0) none) none)))))))))
def Er:=(Ag (@So R)).1
theorem Rf:@Er R=@So R:=(Ag _).2
def nF:Dx:=[(78,KA N),(79,PZ N),(80,YQ N)]
def KZ (F:KF R):LA→Int→O R:=(fun f g=>F (.tup [(.pagg f false),(iv g)]) [])
theorem K_ (b:List UInt8) (F:KF R):Cq (nF N) zy N 23 [(.str b)] [] F=(Er N b (KZ F)):=by
 rw[Rf]
 kernel_rfl
def F' (a:LA) (h:Ah) (k:KF R):O R :=
 match a,h with
 | [(.str b)],[]=>(Er N b (KZ k))
 | _,_=>none
theorem LB:Ao N 23 @F':=by
 intro R Q a h k j;unfold F';split;exact Av (K_ ..) (K_ ..) ⟨KB N,P_ N,YR N,trivial⟩;exact Ax
def U9:=Aw (LB N)
def Va:=Cr (LB N)
def Gq (m:Bool) (n:LA) (o:Nat) (p d e:Bool) (f:LA) (g:Nat) (q b:Bool) (i:LA) (l:Nat) (r c:Bool) (r0:Bool→O R):O R :=
 (Bv N [(.bool m),(.imm n o 1 false d)] (d||false) (fun v=>(Dv N [(.bool e),(.imm f g 1 false b),(.imm i l 1 false c)] (b||(c||false)) (fun t=>(Er N v (fun u x=>(cond ((Nat.beq 0 0)&&((Nat.beq (u.length) 2)&&(Nat.beq 2 2))) (D1 N t (fun s w=>(cond ((Nat.beq 0 0)&&((Nat.beq (s.length) 3)&&(Nat.beq 3 3))) (Cc N (fun y=>(cond (y==true) (cond ((decide ((((v.length):Nat):Int)>4096))==false) (cond ((x==0)==true) (cond (Nat.ble 2 (u.length)) (E3 N [(.bool m),(.imm n o 1 false d)] (d||false) (fun z=>(H8 N (u.take 2) false z false (fun aa=>(cond ((cond true (cond false true (cond true aa false)) false)==true) (cond ((decide ((((t.length):Nat):Int)>4096))==false) (cond ((w==0)==true) (cond (Nat.ble 3 (s.length)) (B4 N [(.bool e),(.imm f g 1 false b),(.imm i l 1 false c)] (b||(c||false)) (fun ab=>(D6 N (s.take 3) false ab false (fun ac=>(r0 (cond true (cond false true (cond true ac false)) false)))))) none) (r0 false)) (r0 true)) (r0 false)))))) none) (r0 false)) (cond ((decide ((((t.length):Nat):Int)>4096))==false) (cond ((w==0)==true) (cond (Nat.ble 3 (s.length)) (B4 N [(.bool e),(.imm f g 1 false b),(.imm i l 1 false c)] (b||(c||false)) (fun ad=>(D6 N (s.take 3) false ad false (fun ae=>(r0 (cond true (cond false true (cond true ae false)) false)))))) none) (r0 false)) (r0 true))) (r0 false)))) none))) none)))))))
def Ek:=(Ag (@Gq R)).1
theorem Jo:@Ek R=@Gq R:=(Ag _).2
def Ym:Dx:=[(15,Lu N),(17,Rb N),(23,U9 N),(24,Us N),(14,Jk N),(26,Mj N),(25,XF N),(28,Eo N),(27,CK N)]
def Kn (F:KF R):Bool→O R:=(fun af=>F (.bool af) [])
theorem Ko (m:Bool) (n:LA) (o:Nat) (p d e:Bool) (f:LA) (g:Nat) (q b:Bool) (i:LA) (l:Nat) (r c:Bool) (F:KF R):Cq (Ym N) Cn N 5 [(.agg [(.bool m),(.imm n o 1 p d)]),(.agg [(.bool e),(.imm f g 1 q b),(.imm i l 1 r c)])] [] F=(Ek N m n o p d e f g q b i l r c (Kn F)):=by
 rw[Jo]
 kernel_rfl
def Jp (a:LA) (h:Ah) (k:KF R):O R :=
 match a,h with
 | [(.agg [(.bool m),(.imm n o 1 p d)]),(.agg [(.bool e),(.imm f g 1 q b),(.imm i l 1 r c)])],[]=>(Ek N m n o p d e f g q b i l r c (Kn k))
 | _,_=>none
theorem Kp:Ao N 5 @Jp:=by
 intro R Q a h k j;unfold Jp;split;exact Av (Ko ..) (Ko ..) ⟨Lv N,Rc N,Va N,Ut N,Jl N,Mk N,XG N,Ep N,CL N,trivial⟩;exact Ax
def Vh:=Aw (Kp N)
def Vi:=Cr (Kp N)
def Kr (d:Bool) (e:LA) (f:Nat) (l b:Bool) (g:LA) (i:Nat) (m c:Bool) (r0:Bool→O R):O R :=
 (Eb N [(.bool d),(.imm e f 1 false b),(.imm g i 1 false c)] (b||(c||false)) (fun n p=>(cond (!p) (cond ((n==([]:List UInt8))==true) (Cc N (fun q=>(r0 (cond true q false)))) (r0 false)) (cond (decide ((((n.length):Nat):Int)>4096)) (Cc N (fun r=>(r0 r))) (D1 N n (fun o s=>(cond ((Nat.beq 0 0)&&((Nat.beq (o.length) 3)&&(Nat.beq 3 3))) (Er N n (fun t u=>(cond ((Nat.beq 0 0)&&((Nat.beq (t.length) 2)&&(Nat.beq 2 2))) (Mo N [(.bool d),(.imm e f 1 false b),(.imm g i 1 false c)] (b||(c||false)) (fun v=>(H9 N v false (fun w=>(Fq N [(.bool d),(.imm e f 1 false b),(.imm g i 1 false c)] (b||(c||false)) w false (fun x=>(Cc N (fun y=>(cond (y==true) (cond ((cond true (s==0) false)==true) (cond (Nat.ble 3 (o.length)) (B4 N [(.bool d),(.imm e f 1 false b),(.imm g i 1 false c)] (b||(c||false)) (fun z=>(D6 N (o.take 3) false z false (fun aa=>(cond ((cond true aa false)==true) (r0 (cond true ((u==0)==(x==0)) false)) (r0 false)))))) none) (r0 false)) (r0 false)))))))))) none))) none)))))))
def Hl:=(Ag (@Kr R)).1
theorem Oh:@Hl R=@Kr R:=(Ag _).2
def LC:Dx:=[(19,X7 N),(14,Jk N),(24,Us N),(23,U9 N),(31,XT N),(30,Sd N),(29,JG N),(28,Eo N),(27,CK N)]
def Ou (F:KF R):Bool→O R:=(fun ab=>F (.bool ab) [])
theorem Ov (d:Bool) (e:LA) (f:Nat) (l b:Bool) (g:LA) (i:Nat) (m c:Bool) (F:KF R):Cq (LC N) Cn N 6 [(.agg [(.bool d),(.imm e f 1 l b),(.imm g i 1 m c)])] [] F=(Hl N d e f l b g i m c (Ou F)):=by
 rw[Oh]
 kernel_rfl
def Oi (a:LA) (h:Ah) (k:KF R):O R :=
 match a,h with
 | [(.agg [(.bool d),(.imm e f 1 l b),(.imm g i 1 m c)])],[]=>(Hl N d e f l b g i m c (Ou k))
 | _,_=>none
theorem Ow:Ao N 6 @Oi:=by
 intro R Q a h k j;unfold Oi;split;exact Av (Ov ..) (Ov ..) ⟨X8 N,Jl N,Ut N,Va N,XU N,Se N,JH N,Ep N,CL N,trivial⟩;exact Ax
def GC:=Aw (Ow N)
def GD:=Cr (Ow N)
def Jq (b:Int) (r0:Bool→O R):O R :=
 (A8 N b (fun d=>(Bv N d false (fun e=>(Er N e (fun c f=>(cond ((Nat.beq 0 0)&&((Nat.beq (c.length) 2)&&(Nat.beq 2 2))) (cond (Nat.ble 2 (c.length)) (Tg N (c.take 2) false (fun g i=>(Cc N (fun l=>(cond (l==true) (cond ((cond true (f==0) false)==true) (cond ((cond true i false)==true) (r0 (cond true (g==b) false)) (r0 false)) (r0 false)) (r0 false)))))) none) none)))))))
def Gd:=(Ag (@Jq R)).1
theorem My:@Gd R=@Jq R:=(Ag _).2
def GE:Dx:=[(32,C5 N),(15,Lu N),(23,U9 N),(33,qb N),(14,Jk N)]
def Oj (F:KF R):Bool→O R:=(fun m=>F (.bool m) [])
theorem Ok (b:Int) (F:KF R):Cq (GE N) Cn N 7 [(iv b)] [] F=(Gd N b (Oj F)):=by
 rw[My]
 kernel_rfl
def Mz (a:LA) (h:Ah) (k:KF R):O R :=
 match a,h with
 | [(.int .i64 b)],[]=>(Gd N b (Oj k))
 | _,_=>none
theorem Ol:Ao N 7 @Mz:=by
 intro R Q a h k j;unfold Mz;split;exact Av (Ok ..) (Ok ..) ⟨C6 N,Lv N,Va N,qc N,Jl N,trivial⟩;exact Ax
def DG:=Aw (Ol N)
def DH:=Cr (Ol N)
end
end Gx

namespace Gx
open Go Go.Proofs
section
variable {R:Type}
theorem uM:∀ (s:List UInt8) (b k:Nat),b<10 ^ k→s.length+k≤18→s.all Bl=true→Lib.parseUint10 b s=.ok (b*10 ^ s.length+Cj s)
 | [],b,_,_,_,_=>by simp[Lib.parseUint10,Cj]
 | c::r,b,k,m,l,e=>by
  simp only[List.all_cons,Bool.and_eq_true] at e
  have j:=e.1
  simp[Bl] at j
  simp only[List.length_cons] at l
  have d:10 ^ (k+1)≤10 ^ 18:=Nat.pow_le_pow_right (by omega) (by omega)
  rw[Nat.pow_succ] at d
  have f:b*10+(c.toNat - 48)<10 ^ k*10:=by omega
  have i:(10:Nat) ^ 18=1000000000000000000:=by decide
  rw[i] at d
  rw[Lib.parseUint10,if_pos j,if_neg (by omega),if_neg (by omega),uM r (b*10+(c.toNat - 48)) (k+1) (by rw[Nat.pow_succ];exact f) (by omega) e.2,S7,List.length_cons,Nat.pow_succ,Nat.add_mul]
  congr 1
  rw[show b*10*10 ^ r.length=b*(10 ^ r.length*10) by rw[Nat.mul_assoc,Nat.mul_comm 10]]
  omega
theorem zR {N:Nat} {s:List UInt8} {K:Int→O R} (b:s.all Bl=true) (d:s≠[]) (e:s.length≤18):Rz N s K=K (Cj s:Int):=by
 have f:=UC b
 have i:10 ^ s.length≤10 ^ 18:=Nat.pow_le_pow_right (by omega) e
 have j:(10:Nat) ^ 18=1000000000000000000:=by decide
 have key:Lib.atoiAll s=.ok (Cj s:Int):=by
  cases s with
  | nil=>exact absurd rfl d
  | cons c r =>
   have k:Bl c=true:=by simp only[List.all_cons,Bool.and_eq_true] at b;exact b.1
   simp[Bl] at k
   rw[Lib.atoiAll_plain c r (by omega) (by omega),Lib.parseMag,if_neg d,uM (c::r) 0 0 (by decide) (by omega) b,Nat.zero_mul,Nat.zero_add,Lib.signless,if_neg (by omega)]
 rw[J4];unfold Kz
 rw[Sm (by omega),ct,key]
theorem Aco (k:Nat):10 ^ k<4294967296 ^ (k+1):=KS k
theorem xU {v k:Nat} (h:v<10 ^ k):(Ac v).length≤k+1:=A4 (Nat.lt_trans h (Aco k))
theorem fR {N:Nat} {c:Bool} {q:Nat} {S9:List Nat} {K:LA→O R} (X:Ae S9) (Y:val S9=10 ^ q) (hq:q=9):∀ (b j v:Nat) (g:List UInt8) (S:List Nat),g.length<b→g.all Bl=true→v<10 ^ j→(v=0∨g.length%9=0)→fit (j+g.length+20) N→Ae S→val S=v →
  Fs N K c false (Ac (10 ^ q)).length (Aa S9) b g false (Ac v).length (Aa S)=K (Aq (if c then -((v*10 ^ g.length+Cj g:Nat):Int) else ((v*10 ^ g.length+Cj g:Nat):Int))):=by
 intro b
 induction b with
 | zero=>intro j v g S h;omega
 | succ b ih =>
  intro j v g S hl y A k i hS hSv
  have f1:=i.1;have f2:=i.2
  have B:(Ac (10 ^ q)).length≤1:=by rw[hq];exact Aer
  have hdv:=xU A
  rw[Fs];unfold Xz
  cases m:g with
  | nil =>
   rw[show(!(([]:List UInt8)==[]))=false by rfl,cf]
   rw[show v*10 ^ ([]:List UInt8).length+Cj []=v by simp[Cj]]
   cases c
   ·rw[cf,A0 hS hSv,if_neg (by simp)]
    congr 1
   ·rw[ct,A0 hS hSv,lO,zF (Bp _ _ _) (i.le (by show(Ac v).length≤_;omega)),ld,show val (LS.of (Ac v) false true).l=v from Ad v,Int.natAbs_natCast,wI,if_pos rfl]
    congr 1
    unfold Aq
    rw[Int.natAbs_neg,Int.natAbs_natCast];rfl
  | cons d r =>
   rw[←m]
   have n:g≠[]:=by rw[m];simp
   have G:=List.length_pos_iff.2 n
   rw[show(!(g==[]))=true by simp[n],ct]
   have step:∀ o:Nat,1≤o→o≤9→o≤g.length→(g.length - o)%9=0→(v=0∨o=q)→N4 N (Fs N K c false (Ac (10 ^ q)).length (Aa S9) b) K c false (Ac (10 ^ q)).length (Aa S9) g (o:Int) false (Ac v).length (Aa S)=K (Aq (if c then -((v*10 ^ g.length+Cj g:Nat):Int) else ((v*10 ^ g.length+Cj g:Nat):Int))):=by
    intro o o1 o9 ol om oz
    have I:(g.take o).all Bl=true:=by
     rw[List.all_eq_true] at y ⊢;exact fun x C=>y x (List.mem_of_mem_take C)
    have f:(g.take o).length=o:=by rw[List.length_take];omega
    have s:(g.drop o).length=g.length - o:=List.length_drop ..
    have t:=UC I
    rw[f] at t
    have z:10 ^ o≤10 ^ q:=Nat.pow_le_pow_right (by omega) (by omega)
    have e9:10 ^ q=1000000000:=by rw[hq]
    obtain⟨S1,a1,a2,a3⟩:=xR (R:=R) (N:=N) (s1:=.of (Ac v) false true) (s2:=.of (Ac (10 ^ q)) false true) (o1:=true) (o2:=true) (Bp _ _ _) (Bp _ _ _) (i.le (by have:=B;show(Ac v).length+(Ac (10 ^ q)).length≤_;omega))
    rw[show val (LS.of (Ac v) false true).l=v from Ad v,show val (LS.of (Ac (10 ^ q)) false true).l=10 ^ q from Ad _] at a2 a3
    obtain⟨S2,b1,L,M⟩:=F6 (R:=R) (N:=N) (v:=(Cj (g.take o):Int)) (by omega) (by omega)
    rw[Int.natAbs_natCast] at L M
    have hm:v*10 ^ q<10 ^ (j+q):=by rw[Nat.pow_add];exact Nat.mul_lt_mul_of_pos_right A (Nat.pow_pos (by omega))
    have hdm:=xU hm
    have hdx:(Ac (Cj (g.take o))).length≤1:=A4 (by omega)
    obtain⟨S3,c1,T,U⟩:=bu (R:=R) (N:=N) (n1:=false) (n2:=false) (s1:=.of (Ac (v*10 ^ q)) false true) (s2:=.of (Ac (Cj (g.take o))) false true) (o1:=true) (o2:=true) (Bp _ _ _) (Bp _ _ _) (i.le (by show(Ac (v*10 ^ q)).length+(Ac (Cj (g.take o))).length+1≤_;omega))
    rw[ld,ld,show val (LS.of (Ac (v*10 ^ q)) false true).l=v*10 ^ q from Ad _,show val (LS.of (Ac (Cj (g.take o))) false true).l=Cj (g.take o) from Ad _,Xj,Int.natAbs_natCast] at T U
    unfold N4
    rw[show((decide ((0:Int)≤(0:Int)))&&((decide (0≤(o:Int)))&&((decide ((o:Int)≤(((g.length):Nat):Int)))&&(decide ((((g.length):Nat):Int)≤(((g.length):Nat):Int))))))=true by simp;omega,ct,Int.toNat_natCast]
    rw[zR I (by intro e;rw[e] at f;simp at f;omega) (by omega)]
    rw[A0 hS hSv,A0 X Y,lO,lO,a3,M,A0 a1 a2,A0 b1 L,lO,show decide (((Cj (g.take o):Nat):Int)<0)=false by simp,lO,U]
    rw[show decide (((v*10 ^ q+Cj (g.take o):Nat):Int)<0)=false by rw[decide_eq_false_iff_not];omega]
    rw[show((decide (0≤(o:Int)))&&((decide ((o:Int)≤(((g.length):Nat):Int)))&&((decide ((((g.length):Nat):Int)≤(((g.length):Nat):Int)))&&(decide ((((g.length):Nat):Int)≤(((g.length):Nat):Int))))))=true by simp;omega,ct]
    rw[List.take_of_length_le (l:=g.drop o) (by omega)]
    have D:v*10 ^ q+Cj (g.take o)<10 ^ (j+q):=by
     rcases oz with oz | oz
     ·subst oz;rw[Nat.zero_mul,Nat.zero_add]
      have:10 ^ q≤10 ^ (j+q):=Nat.pow_le_pow_right (by omega) (by omega)
      omega
     ·have:(v+1)*10 ^ q≤10 ^ j*10 ^ q:=Nat.mul_le_mul_right _ A
      rw[Nat.add_mul,Nat.one_mul] at this
      rw[Nat.pow_add];omega
    have F:v*10 ^ q+Cj (g.take o)<10 ^ (j+o):=by
     rcases oz with oz | oz
     ·subst oz;rw[Nat.zero_mul,Nat.zero_add]
      have:10 ^ o≤10 ^ (j+o):=Nat.pow_le_pow_right (by omega) (by omega)
      omega
     ·rw[show j+o=j+q by rw[oz]];exact D
    rw[ih (j+o) (v*10 ^ q+Cj (g.take o)) (g.drop o) S3 (by omega) (by rw[List.all_eq_true] at y ⊢;exact fun x C=>y x (List.mem_of_mem_drop C)) F (.inr (by rw[s];exact om)) (i.le (by omega)) c1 T]
    have e:(v*10 ^ q+Cj (g.take o))*10 ^ (g.drop o).length+Cj (g.drop o)=v*10 ^ g.length+Cj g:=by
     have V:=Qd (g.take o) (g.drop o)
     rw[List.take_append_drop] at V
     rw[V,Nat.add_mul,Nat.add_assoc]
     congr 1
     rcases oz with oz | oz
     ·subst oz;simp
     ·rw[Nat.mul_assoc,←Nat.pow_add,s];congr 2;omega
    rw[e]
   have u:Int.tmod ((g.length:Nat):Int) 9=((g.length%9:Nat):Int):=rfl
   rw[u]
   by_cases z:g.length%9=0
   ·rw[z,show((((0:Nat):Int))==0)=true by rfl,ct]
    exact step 9 (by omega) (by omega) (by omega) (by omega) (.inr hq.symm)
   ·rw[gL z,cf]
    exact step (g.length%9) (by omega) (by omega) (Nat.mod_le _ _) (by omega) (.inl (by rcases k with k | k;exact k;exact absurd k z))
def Ks (s:List UInt8):Int:=match s with
 | 45::r=>-((Cj r:Nat):Int)
 | s=>((Cj s:Nat):Int)
def Kt (s:List UInt8):Bool:=match s with
 | 45::r=>r.all Bl
 | s=>s.all Bl
theorem LD {N:Nat} {s:List UInt8} {K:LA→O R} (d:Kt s=true) (b:fit (s.length+30) N):Mt N s K=K (Aq (Ks s)):=by
 have j:=b.1;have m:=b.2
 obtain⟨S0,a1,a2,a3⟩:=F6 (R:=R) (N:=N) (v:=0) (by omega) (by omega)
 obtain⟨S,e,f,i⟩:=MN (R:=R) (N:=N) (n:=9) (b.le (by omega))
 rw[P'];unfold CY
 by_cases h:s.head?=some 45
 ·obtain⟨r,rfl⟩:∃ r,s=45::r:=by
   cases s with
   | nil=>simp at h
   | cons c r=>simp at h;exact⟨r,by rw[h]⟩
  rw[X1,a3]
  refine Eq.trans (i _) ?_
  have:=fR (R:=R) (N:=N) (c:=true) (K:=K) e f rfl N 0 0 r S0 (by rw[List.length_cons] at j;omega) d (by decide) (.inl rfl) (b.le (by rw[List.length_cons];omega)) a1 a2
  rw[Nat.zero_mul,Nat.zero_add] at this
  exact this
 ·have k:Ks s=((Cj s:Nat):Int):=by
   unfold Ks
   split
   ·simp at h
   ·rfl
  have l:s.all Bl=true:=by
   rw[←d];unfold Kt
   split
   ·simp at h
   ·rfl
  rw[Uy h,a3]
  refine Eq.trans (i _) ?_
  have:=fR (R:=R) (N:=N) (c:=false) (K:=K) e f rfl N 0 0 s S0 (by omega) l (by decide) (.inl rfl) (b.le (by omega)) a1 a2
  rw[Nat.zero_mul,Nat.zero_add] at this
  rw[k]
  exact this
theorem AR {s:List UInt8} (h:D7 s=true):s.all Bl=true:=by
 simp only[D7,RH,Bool.and_eq_true] at h;exact h.1.1
theorem Ly {s:List UInt8} (h:MS s=true):Kt s=true:=by
 by_cases b:s.head?=some 45
 ·obtain⟨r,rfl⟩:∃ r,s=45::r:=by
   cases s with
   | nil=>simp at b
   | cons c r=>simp at b;exact⟨r,by rw[b]⟩
  have h:(D7 r&&!(r==[48]))=true:=h
  simp only[Bool.and_eq_true] at h;exact AR h.1
 ·have d:MS s=D7 s:=by
   unfold MS;split
   ·simp at b
   ·rfl
  have e:Kt s=s.all Bl:=by
   unfold Kt;split
   ·simp at b
   ·rfl
  rw[e];rw[d] at h;exact AR h
theorem MO {s:List UInt8} (h:s.all Bl=true):∀ c ∈ s,c.toNat<128:=by
 intro c b
 have:=List.all_eq_true.1 h c b
 simp[Bl] at this;omega
theorem ZR {s:List UInt8} (h:Kt s=true):∀ c ∈ s,c.toNat<128:=by
 unfold Kt at h
 split at h
 ·intro c b
  rcases List.mem_cons.1 b with rfl | b
  ·decide
  ·exact MO h c b
 ·exact MO h
theorem Yn {N:Nat} {s:List UInt8} {K:LA→Int→O R} (b:MS s=true) (c:fit (s.length+30) N):Er N s K=if 4096<Vg s then K [(.bool false),.nsl] 8 else K (Aq (Ks s)) 0:=by
 have d:=c.1;have e:=c.2
 rw[Rf];unfold So
 rw[Ia (by omega),b,show(!true)=false by rfl,cf,YU (ZR (Ly b)) (by omega) (by omega)]
 by_cases h:4096<Vg s
 ·rw[decide_eq_true h,ct,if_pos h]
 ·rw[decide_eq_false h,cf,LD (Ly b) c,fq,ct,Jc,ct,MJ,if_neg h]
theorem rF {N:Nat} {s:List UInt8} {K:LA→Int→O R} (b:MS s=false) (c:fit (s.length+30) N):Er N s K=K [(.bool false),.nsl] 2:=by
 have d:=c.1
 rw[Rf];unfold So
 rw[Ia (by omega),b];rfl
theorem Abq (u:Nat):MS (Fa u)=true:=by
 have b:=LV u
 unfold MS
 split
 ·rename_i r c
  have:=AR b
  rw[c] at this
  simp only[List.all_cons,Bool.and_eq_true] at this
  exact absurd this.1 (by decide)
 ·exact b
theorem wY (u:Nat):Ks (Fa u)=(u:Int):=by
 unfold Ks
 split
 ·rename_i r b
  have:=AR (LV u)
  rw[b] at this
  simp only[List.all_cons,Bool.and_eq_true] at this
  exact absurd this.1 (by decide)
 ·rw[Kx]
theorem Fm (z:Int):MS (F9 z)=true:=by
 unfold F9 Yd
 by_cases h:z<0
 ·rw[if_pos h]
  show(D7 (Fa z.natAbs)&&!(Fa z.natAbs==[48]))=true
  rw[LV,Bool.true_and]
  simp only[Bool.not_eq_true',beq_eq_false_iff_ne]
  intro e
  have:=congrArg Cj e
  rw[Kx] at this
  have:z.natAbs=0:=this
  omega
 ·rw[if_neg h];exact Abq _
theorem Qw (z:Int):Ks (F9 z)=z:=by
 unfold F9 Yd
 by_cases h:z<0
 ·rw[if_pos h]
  show -((Cj (Fa z.natAbs):Nat):Int)=z
  rw[Kx];omega
 ·rw[if_neg h,wY];omega
theorem zS (z:Int):Vg (F9 z)=(Fa z.natAbs).length:=by
 have e:Vg (Fa z.natAbs)=(Fa z.natAbs).length:=by
  unfold Vg
  rw[List.countP_eq_length]
  exact fun c b=>List.all_eq_true.1 (Kw _) c b
 unfold F9 Yd
 split
 ·unfold Vg at *;rw[List.countP_cons,e];rfl
 ·exact e
end
end Gx

namespace Gx
open Go Go.Proofs
section
variable {R:Type}
theorem TD (c b:UInt8) (l:List UInt8):Lib.index (b::l) [c]=if c=b then 0 else if Lib.index l [c]=-1 then -1 else Lib.index l [c]+1:=by
 rw[Lib.index]
 have f:([c].isPrefixOf (b::l)=true)↔c=b:=by simp[List.isPrefixOf]
 by_cases h:c=b
 ·rw[if_pos (f.2 h),if_pos h]
 ·rw[if_neg (fun e=>h (f.1 e)),if_neg h]
  by_cases d:Lib.index l [c]=-1
  ·rw[d];rfl
  ·rw[if_neg (by simpa using d),if_neg d]
theorem uN (c:UInt8):∀ s:List UInt8,c ∉ s→Lib.index s [c]=-1
 | [],_=>rfl
 | b::l,h=>by
  rw[TD,if_neg (fun e=>h (by simp[e])),uN c l (fun e=>h (by simp[e])),if_pos rfl]
theorem uO (c:UInt8) (b:List UInt8):∀ a:List UInt8,c ∉ a→Lib.index (a++c::b) [c]=(a.length:Int)
 | [],_=>by rw[List.nil_append,TD,if_pos rfl];rfl
 | d::l,h=>by
  have:=uO c b l (fun e=>h (by simp[e]))
  rw[List.cons_append,TD,if_neg (fun e=>h (by simp[e])),this,if_neg (by omega),List.length_cons];omega
theorem Ad9 {c:UInt8} {s:List UInt8} (h:c ∉ s):Lib.cut s [c]=(s,[],false):=by
 unfold Lib.cut;rw[uN c s h,if_neg (by omega)]
theorem Abr {c:UInt8} {a b:List UInt8} (h:c ∉ a):Lib.cut (a++c::b) [c]=(a,b,true):=by
 unfold Lib.cut;rw[uO c b a h,if_pos (by omega),Int.toNat_natCast]
 rw[List.take_left,List.length_singleton,←List.drop_drop,List.drop_left];rfl
theorem Aea {N:Nat} {s t:List UInt8} {K:List UInt8→List UInt8→Bool→O R} (h:s.length≤4294967280):strings_Cut N s t K=K (Lib.cut s t).1 (Lib.cut s t).2.1 (Lib.cut s t).2.2:=by
 rw[Ll];unfold Nf;rw[Sm h,ct]
theorem ZS {c:UInt8} (h:Bl c=false) {s:List UInt8} (b:s.all Bl=true):c ∉ s:=by
 intro d;rw[List.all_eq_true.1 b c d] at h;cases h
theorem rG {c:UInt8} (h:Bl c=false) (f:c≠45) {s:List UInt8} (b:Kt s=true):c ∉ s:=by
 unfold Kt at b
 split at b
 ·intro d
  rcases List.mem_cons.1 d with e | d
  ·exact f e
  ·exact ZS h b d
 ·exact ZS h b
theorem pB {N:Nat} {s:List UInt8} {K:List UInt8→List UInt8→Bool→O R} (b:MS s=true) (c:s.length<N):N2 N s K=K s [49] true:=by
 rw[Si];unfold Th
 rw[Ia c,b,ct]
theorem wZ {N:Nat} {a b:List UInt8} {K:List UInt8→List UInt8→Bool→O R} (d:MS a=true) (i:D7 b=true) (j:(a++47::b).length≤4294967280) (k:(a++47::b).length<N):N2 N (a++47::b) K=K a b true:=by
 have l:MS (a++47::b)=false:=by
  rw[←Bool.not_eq_true];intro e
  exact rG (c:=47) (by decide) (by decide) (Ly e) (by simp)
 have f:(a++47::b).length=a.length+(b.length+1):=by simp
 rw[Si];unfold Th
 rw[Ia k,l,cf,Aea j,Abr (rG (by decide) (by decide) (Ly d))]
 dsimp only
 rw[ct,Ia (by omega),d,show(true==true)=true by rfl,ct,Sl (by omega),i];rfl
theorem pC {N:Nat} {e:Bool} {d c:List UInt8} {K:List UInt8→List UInt8→Bool→O R} (k:D7 d=true) (l:RH c=true) (F:d.length+c.length≤1000000000) (G:d.length+c.length+10<N):N2 N ((if e then [45] else [])++(d++46::c)) K=K ((if e then [45] else [])++(d++c)) (49::List.replicate c.length 48) true:=by
 have f:=AR k
 have m:c.all Bl=true:=by simp only[RH,Bool.and_eq_true] at l;exact l.1
 have i:Bl 46=false:=by decide
 have u:MS ((if e then [45] else [])++(d++46::c))=false:=by
  rw[←Bool.not_eq_true];intro v
  exact rG (c:=46) i (by decide) (Ly v) (by simp)
 have n:(47:UInt8) ∉ ((if e then [45] else [])++(d++46::c)):=by
  have z:=ZS (c:=47) (by decide) f
  have A:=ZS (c:=47) (by decide) m
  cases e<;>simp[z,A]
 have B:((if e then [45] else [])++(d++46::c):List UInt8).length≤d.length+c.length+2:=by cases e<;>simp<;>omega
 have q:d≠[]:=by intro h;subst h;simp[D7,RH] at k
 have fin:Ms N K e d c ((if e then [45] else [])++(d++46::c))=K ((if e then [45] else [])++(d++c)) (49::List.replicate c.length 48) true:=by
  unfold Ms
  rw[Sm (by omega),ct]
  cases e
  ·rw[cf,gN (by omega),Sm (by rw[List.length_replicate];omega),ct];rfl
  ·rw[ct,Sm (by rw[List.length_append];omega),ct,gN (by omega),Sm (by rw[List.length_replicate];omega),ct];rfl
 rw[Si];unfold Th
 rw[Ia (by omega),u,cf,Aea (by omega),Ad9 n]
 dsimp only
 rw[cf]
 have go:∀ b:Bool,b=e→strings_Cut N (d++46::c) [46] (fun d' c' w=>Jh N d' fun r=>cond ((!r)==false) (Gy N c' fun s=>cond (cond false true (!s)) (K [] [] false) (Ms N K b d' c' ((if e then [45] else [])++(d++46::c)))) (K [] [] false))=K ((if e then [45] else [])++(d++c)) (49::List.replicate c.length 48) true:=by
  intro b C
  subst C
  have t:(d++46::c).length=d.length+(c.length+1):=by simp
  rw[Aea (by omega),Abr (ZS i f)]
  dsimp only
  rw[Sl (by omega),k,show((!true)==false)=true by rfl,ct,QB (by omega),l,show(cond false true (!true))=false by rfl,cf,fin]
 cases e
 ·have D:((if false=true then [45] else [])++(d++46::c):List UInt8).head?≠some 45:=by
   cases j:d with
   | nil=>exact absurd j q
   | cons x y =>
    rw[j] at f
    simp only[List.all_cons,Bool.and_eq_true] at f
    intro h
    simp at h
    rw[h] at f
    exact absurd f.1 (by decide)
  rw[Uy D]
  exact go false rfl
 ·exact(X1 (b:=d++46::c) (c:=45)).trans (go true rfl)
theorem Abs {N:Nat} {a:Int} {b:Nat} (n:0<b) (c:fit (4*((Ac a.natAbs).length+(Ac b).length)+10) N):∃ d:RatD,d.can (mkRat a b)∧∀ K:LA→Bool→O R,jS N (Aq a) false (Aq (b:Int)) false K=K d.av true:=by
 let x:RatD:=⟨decide (a<0),.of (Ac a.natAbs) false false,.of (Ac b) false false⟩
 have f:x.ok:=⟨Ab _,Ab _⟩
 have hq:x.q=mkRat a b:=by
  show mkRat (An (decide (a<0)) (.of (Ac a.natAbs) false false)) (val (Ac b))=_
  rw[B5,Ad]
 have s:x.m≤(Ac a.natAbs).length+(Ac b).length:=Nat.max_le.2 ⟨by show(Ac a.natAbs).length≤_;omega,by show(Ac b).length≤_;omega⟩
 obtain⟨d,e,i⟩:=SY (R:=R) (N:=N) (x:=x) (o:=(false||(false||false))) f (c.le (by omega))
 rw[hq] at e
 refine⟨d,e,fun K=>?_⟩
 rw[jT];unfold qN
 rw[zG,zH,Ad0,ct,zG,zH,Ad0,ct]
 have j:([(.bool (decide ((b:Int)<0))),(.imm (Aa (Ac (b:Int).natAbs)) (Ac (b:Int).natAbs).length 1 false false)]:LA)=Aq (b:Int):=rfl
 rw[j,KU (c.le (by omega))]
 have k:((b:Int).sign==0)=false:=by
  rw[beq_eq_false_iff_ne];intro h;have:=Int.sign_eq_zero_iff_zero.1 h;omega
 rw[k,cf]
 have l:([(.bool (!(decide (a<0)==decide ((b:Int)<0)))),(.imm (Aa (Ac a.natAbs)) (Ac a.natAbs).length 1 false false),(.imm (Aa (Ac (b:Int).natAbs)) (Ac (b:Int).natAbs).length 1 false false)]:LA)=x.av:=by
  rw[show decide ((b:Int)<0)=false by rw[decide_eq_false_iff_not];omega,Int.natAbs_natCast,show(!(decide (a<0)==false))=decide (a<0) by cases decide (a<0)<;>rfl];rfl
 rw[l,i];rfl
theorem Vb {N:Nat} {s n d:List UInt8} (l:∀ K:List UInt8→List UInt8→Bool→O R,N2 N s K=K n d true) (q:Kt n=true) (m:d.all Bl=true) (f:0<Cj d) (y:∀ c ∈ s,c.toNat<128) (i:fit (8*(s.length+n.length+d.length)+60) N) :
  ∃ x:RatD,x.can (mkRat (Ks n) (Cj d))∧∀ K:LA→Int→O R,D1 N s K=if 4096<Vg s then K [(.bool false),.nsl,.nsl] 8 else K x.av 0:=by
 have A:=i.1;have B:=i.2
 have e:∀ t:List UInt8,Kt t=true→(Ac (Ks t).natAbs).length≤t.length+1:=by
  intro t k
  unfold Kt at k
  unfold Ks
  split at k
  ·have:=xU (UC k)
   rw[Int.natAbs_neg,Int.natAbs_natCast,List.length_cons];omega
  ·have:=xU (UC k)
   rw[Int.natAbs_natCast];omega
 have j:d.head?≠some 45:=by
  cases d with
  | nil=>simp
  | cons c r =>
   intro h
   simp at h;subst h
   simp only[List.all_cons,Bool.and_eq_true] at m
   exact absurd m.1 (by decide)
 have u:Ks d=((Cj d:Nat):Int):=by
  unfold Ks;split
  ·simp at j
  ·rfl
 have v:Kt d=true:=by
  unfold Kt;split
  ·simp at j
  ·exact m
 have C:=e n q
 have z:=e d v
 rw[u,Int.natAbs_natCast] at z
 obtain⟨x,x1,x2⟩:=Abs (R:=R) (N:=N) (a:=Ks n) (b:=Cj d) f (i.le (by omega))
 refine⟨x,x1,fun K=>?_⟩
 rw[FB];unfold CZ
 rw[l,show(!true)=false by rfl,cf,YU y (by omega) (by omega)]
 by_cases h:4096<Vg s
 ·rw[decide_eq_true h,ct,if_pos h]
 ·rw[decide_eq_false h,cf,LD q (i.le (by omega)),LD v (i.le (by omega)),u,x2,if_neg h];rfl
end
end Gx

namespace Gx
open Go Go.Proofs
section
variable {R:Type}
theorem Xa (a b:Nat):(a:Int)%(b:Int)=((a%b:Nat):Int):=rfl
theorem Ab1 (v:Nat) (a b:Bool):val (LS.of (Ac v) a b).l=v:=Ad v
theorem Adi (v:Nat) (a b:Bool):(LS.of (Ac v) a b).l.length=(Ac v).length:=rfl
theorem w5 {N x p:Nat} {a b c d o o':Bool} {K:LA→LA→Bool→O R} (f:0<p) (e:fit ((Ac x).length+(Ac p).length+4) N):D5 N (Bf false (.of (Ac x) a b)) o (Bf false (.of (Ac p) c d)) o' K=K (Aq ((x/p:Nat):Int)) (Aq ((x%p:Nat):Int)) true:=by
 rw[Sg (Bp _ _ _) (Bp _ _ _) (by rw[ld,Ab1];omega) e,ld,ld,Ab1,Ab1];rfl
theorem w6 {v:Nat}:((v:Int).sign != 0)=decide (v≠0):=by
 cases v with
 | zero=>rfl
 | succ v=>simp[Int.sign]
theorem mA {N:Nat}:∀ (d x p L:Nat) (b g:Bool) (S:List Nat),0<x→2≤p→x<2 ^ d→(Ac x).length≤L→(Ac p).length≤2*L+1→fit (5*L+30) N→Ae S→val S=p →
  ∃ (r k:Nat) (j g':Bool),x=r*p ^ k∧¬ p∣r∧∀ K:LA→Bool→Int→O R,Hj N d (Bf false (.of (Ac x) false b)) g false (Ac p).length (Aa S) K=K (Bf false (.of (Ac r) false j)) g' (k:Int):=by
 intro d
 induction d with
 | zero=>intro x p L b g S h1 _ l;rw[Nat.pow_zero] at l;omega
 | succ d I =>
  intro x p L b g S h0 m M hL hpL f hS hSv
  have f2:=f.2
  have T:=Nat.div_add_mod x p
  have U:=Nat.mod_lt x (show 0<p by omega)
  have V:(Ac (x%p)).length≤(Ac p).length:=Al (by omega)
  have c:∀ K:LA→Bool→Int→O R,Hj N (d+1) (Bf false (.of (Ac x) false b)) g false (Ac p).length (Aa S) K=ML N (Hj N d) (Bf false (.of (Ac x) false b)) g false (Ac p).length (Aa S) K:=fun _=>rfl
  by_cases C:x%p=0
  ·have i:p*(x/p)=x:=by omega
   have n:0<x/p:=by
    rcases Nat.eq_zero_or_pos (x/p) with e | e
    ·rw[e] at i;omega
    ·exact e
   have D:p≤x:=by rw[←i];exact Nat.le_mul_of_pos_right p n
   have hxL:=CW hL
   have u:(Ac (p*p)).length≤2*L+1:=by
    refine Nat.le_trans (A4 (k:=L+L) ?_) (by omega)
    rw[Nat.pow_add]
    exact Nat.mul_lt_mul_of_lt_of_lt (by omega) (by omega)
   have q:(Ac (x/p)).length≤L:=Nat.le_trans (Al (Nat.div_le_self _ _)) hL
   have v:x/p<2 ^ d:=by
    rw[Nat.pow_succ] at M
    have:2*(x/p)≤p*(x/p):=Nat.mul_le_mul_right _ m
    omega
   obtain⟨S',m1,m2,m3⟩:=xR (R:=R) (N:=N) (s1:=.of (Ac p) false true) (s2:=.of (Ac p) false true) (o1:=true) (o2:=true) (Bp _ _ _) (Bp _ _ _) (f.le (by rw[Adi];omega))
   rw[Ab1] at m2 m3
   obtain⟨r,k,j,g',i1,i2,i3⟩:=I (x/p) (p*p) L false false S' n (by have:=Nat.mul_le_mul m m;omega) v q u f m1 m2
   have y:∀ K:LA→Bool→Int→O R,Hj N d (Aq ((x/p:Nat):Int)) false false (Ac (p*p)).length (Aa S') K=K (Bf false (.of (Ac r) false j)) g' (k:Int):=fun K=>by rw[Ur];exact i3 K
   have z:0<r:=by
    rcases Nat.eq_zero_or_pos r with e | e
    ·rw[e,Nat.zero_mul] at i1;omega
    ·exact e
   have A:0<(p*p) ^ k:=Nat.pow_pos (Nat.mul_pos (by omega) (by omega))
   have B:r≤x/p:=by rw[i1];exact Nat.le_mul_of_pos_right r A
   have X:(Ac r).length≤L:=Nat.le_trans (Al B) q
   have Y:k≤32*L:=by
    have k1:2 ^ k≤(p*p) ^ k:=Nat.pow_le_pow_left (by have:=Nat.mul_le_mul m m;omega) k
    have k2:(p*p) ^ k≤x/p:=by rw[i1];exact Nat.le_mul_of_pos_left _ z
    have k3:2 ^ k<2 ^ (32*L):=by
     have:(4294967296:Nat) ^ L=2 ^ (32*L):=by rw[Nat.pow_mul]
     have:=Nat.div_le_self x p
     omega
    exact Nat.le_of_lt ((Nat.pow_lt_pow_iff_right (by omega)).1 k3)
   have s:(p*p) ^ k=p ^ (2*k):=by rw[Nat.pow_mul,Nat.pow_two]
   have hrm:=Nat.mod_lt r (show 0<p by omega)
   have hrd:=Nat.div_add_mod r p
   have F:(Ac (r%p)).length≤(Ac p).length:=Al (by omega)
   have front:∀ K:LA→Bool→Int→O R,Hj N (d+1) (Bf false (.of (Ac x) false b)) g false (Ac p).length (Aa S) K =
     cond (r%p≠0) (K (Bf false (.of (Ac r) false j)) g' ((2*k+1:Nat):Int)) (K (Aq ((r/p:Nat):Int)) false ((2*k+2:Nat):Int)):=by
    intro K
    rw[c];unfold ML
    rw[Q7,ct,SH,A0 hS hSv,lO,w5 (by omega) (f.le (by omega)),fq,ct,fq,ct,Jc,ct,MJ,KU (f.le (by omega)),w6,decide_eq_false (by omega),cf,Jc,ct,m3,MJ]
    refine Eq.trans (y _) ?_
    rw[show((Nat.beq 0 0)&&((Nat.beq (List.length (Bf false (.of (Ac r) false j))) 2)&&(Nat.beq 2 2)))=true by rfl,ct,Q7,ct,SH,w5 (by omega) (f.le (by omega)),mo,ct,mo,ct,tb,Jc,ct,MJ,KU (f.le (by omega)),w6]
    have G:IntKind.wrap .i64 (IntKind.wrap .i64 (2*(k:Int))+1)=((2*k+1:Nat):Int):=by
     rw[i64 (a:=2*(k:Int)) (by omega),i64 (by omega)];omega
    have w2:IntKind.wrap .i64 (IntKind.wrap .i64 (IntKind.wrap .i64 (2*(k:Int))+1)+1)=((2*k+2:Nat):Int):=by
     rw[G,wS (by omega)]
    rw[w2,G,tb];rfl
   by_cases l:r%p=0
   ·refine⟨r/p,2*k+2,false,false,?_,?_,fun K=>?_⟩
    ·rw[←i,i1,s,Nat.pow_succ,Nat.pow_succ]
     have:r=p*(r/p):=by omega
     conv=>lhs;rw[this]
     simp only[Nat.mul_assoc,Nat.mul_comm,Nat.mul_left_comm]
    ·intro t
     apply i2
     have:r=p*(r/p):=by omega
     rw[this];exact Nat.mul_dvd_mul_left p t
    ·rw[front,show(decide (r%p≠0))=false by simp[l],cf,Ur]
   ·refine⟨r,2*k+1,j,g',?_,fun t=>l (Nat.mod_eq_zero_of_dvd t),fun K=>?_⟩
    ·rw[←i,i1,s,Nat.pow_succ]
     simp only[Nat.mul_comm,Nat.mul_left_comm]
    ·rw[front,decide_eq_true l,ct]
  ·refine⟨x,0,b,g,by simp,fun t=>C (Nat.mod_eq_zero_of_dvd t),fun K=>?_⟩
   rw[c];unfold ML
   rw[Q7,ct,SH,A0 hS hSv,lO,w5 (by omega) (f.le (by omega)),fq,ct,fq,ct,Jc,ct,MJ,KU (f.le (by omega)),w6,decide_eq_true C,ct];rfl
end
end Gx

namespace Gx
open Go Go.Proofs
section
variable {R:Type}
theorem rH {N:Nat} (p:Nat) (b:p≤9223372036854775807) (hN:4≤N):∃ S,Ae S∧val S=p∧∀ K:Bool→Nat→LA→O R,Bm N (p:Int) K=K false (Ac p).length (Aa S):=by
 obtain⟨S,a1,a2,a3⟩:=F6 (R:=R) (N:=N) (v:=(p:Int)) (by omega) hN
 rw[Int.natAbs_natCast] at a2 a3
 exact⟨S,a1,a2,fun K=>by rw[a3,decide_eq_false (by omega)]⟩
theorem Aeu:Nat.Coprime 2 5:=by decide
theorem xV (p:Nat):10 ^ p=2 ^ p*5 ^ p:=by rw[←Nat.mul_pow]
theorem rI {a b p:Nat}:5 ^ b*2 ^ a∣10 ^ p↔a≤p∧b≤p:=by
 rw[xV]
 constructor
 ·intro h
  have c:2 ^ a∣2 ^ p*5 ^ p:=Nat.dvd_trans (Nat.dvd_mul_left _ _) h
  have d:5 ^ b∣2 ^ p*5 ^ p:=Nat.dvd_trans (Nat.dvd_mul_right _ _) h
  have c1:Nat.Coprime (2 ^ a) (5 ^ p):=Nat.Coprime.pow _ _ Aeu
  have e:Nat.Coprime (5 ^ b) (2 ^ p):=Nat.Coprime.pow _ _ Aeu.symm
  exact⟨(Nat.pow_dvd_pow_iff_le_right (by omega)).1 (c1.dvd_of_dvd_mul_right c),(Nat.pow_dvd_pow_iff_le_right (by omega)).1 (e.dvd_of_dvd_mul_left d)⟩
 ·rintro⟨c,d⟩
  rw[Nat.mul_comm]
  exact Nat.mul_dvd_mul (Nat.pow_dvd_pow 2 c) (Nat.pow_dvd_pow 5 d)
theorem pD {p r:Nat} (d:p=2∨p=5) (h:¬ p∣r):Nat.Coprime r p:=by
 have b:Nat.gcd r p∣p:=Nat.gcd_dvd_right r p
 have f:Nat.gcd r p≤p:=Nat.le_of_dvd (by omega) b
 have c:Nat.gcd r p∣r:=Nat.gcd_dvd_left r p
 show Nat.gcd r p=1
 generalize Nat.gcd r p=g at *
 rcases d with rfl | rfl
 ·have:g=0∨g=1∨g=2:=by omega
  rcases this with e | e | e
  ·subst e;simp at b
  ·exact e
  ·subst e;exact absurd c h
 ·have:g=0∨g=1∨g=2∨g=3∨g=4∨g=5:=by omega
  rcases this with e | e | e | e | e | e
  ·subst e;simp at b
  ·exact e
  ·subst e;exact absurd b (by decide)
  ·subst e;exact absurd b (by decide)
  ·subst e;exact absurd b (by decide)
  ·subst e;exact absurd c h
theorem fS {r d p:Nat} (b:¬ 2∣r) (c:¬ 5∣r) (e:r≠1) (f:r∣d):¬ d∣10 ^ p:=by
 intro i
 have h:=Nat.dvd_trans f i
 rw[xV] at h
 have c1:Nat.Coprime r (2 ^ p):=(pD (.inl rfl) b).pow_right p
 have j:Nat.Coprime r (5 ^ p):=(pD (.inr rfl) c).pow_right p
 exact e (Nat.Coprime.eq_one_of_dvd (Nat.Coprime.mul_right c1 j) h)
theorem Abt (a b:Nat):AW (a:Int) (b:Int)=((max a b:Nat):Int):=by
 unfold AW
 by_cases h:(b:Int)>(a:Int)
 ·rw[decide_eq_true h,cond_true];omega
 ·rw[decide_eq_false h,cond_false];omega
theorem ZT {x L:Nat} (h:(Ac x).length≤L):x<2 ^ (32*L):=by
 have b:=CW h
 rwa [show(4294967296:Nat) ^ L=2 ^ (32*L) by rw[Nat.pow_mul]] at b
theorem DI {N:Nat} {x:RatD} {o:Bool} (I:x.ok) (f:fit (80*x.m+300) N) :
  (∃ P,x.q.den∣10 ^ P∧(∀ p,x.q.den∣10 ^ p→P≤p)∧P≤32*(x.m+1)∧∀ K:List UInt8→Bool→O R,Eb N x.av o K=K (pt (x.q.num*((10 ^ P:Nat):Int)/(x.q.den:Int)) P) true) ∨
  ((∀ p,¬ x.q.den∣10 ^ p)∧∀ K:List UInt8→Bool→O R,Eb N x.av o K=K [] false):=by
 have f1:=f.1;have f2:=f.2
 obtain⟨d,M,d2⟩:=SY (R:=R) (N:=N) (o:=o) I (f.le (by omega))
 have hm:=Mr x I
 have hq1:=Xy x.q
 have hq2:=JO x.q
 have i:=x.q.den_pos
 obtain⟨S2,a1,a2,a3⟩:=rH (R:=R) (N:=N) 2 (by omega) (by omega)
 obtain⟨S5,b1,b2,b3⟩:=rH (R:=R) (N:=N) 5 (by omega) (by omega)
 obtain⟨S1,c1,c2,c3⟩:=rH (R:=R) (N:=N) 1 (by omega) (by omega)
 have hd2:(Ac 2).length≤1:=A4 (by decide)
 have hd5:(Ac 5).length≤1:=A4 (by decide)
 have hd1:(Ac 1).length≤1:=A4 (by decide)
 generalize hL:x.m+1=L at *
 have B:x.q.den<2 ^ N:=Nat.lt_of_lt_of_le (ZT (L:=L) (by omega)) (Nat.pow_le_pow_right (by omega) (by omega))
 obtain⟨r,k,X,g',y,e2,e3⟩:=mA (R:=R) (N:=N) N x.q.den 2 L (o||false) ((o||false)||false) S2 i (by omega) B (by omega) (by omega) (f.le (by omega)) a1 a2
 have C:0<r:=by
  rcases Nat.eq_zero_or_pos r with e | e
  ·rw[e,Nat.zero_mul] at y;omega
  ·exact e
 have U:r≤x.q.den:=by rw[y];exact Nat.le_mul_of_pos_right r (Nat.pow_pos (by omega))
 have j:(Ac r).length≤L:=Nat.le_trans (Al U) (by omega)
 obtain⟨c,A,t,g2',u,q2,q3⟩:=mA (R:=R) (N:=N) N r 5 L X g' S5 C (by omega) (by omega) j (by omega) (f.le (by omega)) b1 b2
 have D:0<c:=by
  rcases Nat.eq_zero_or_pos c with e | e
  ·rw[e,Nat.zero_mul] at u;omega
  ·exact e
 have F:c≤r:=by rw[u];exact Nat.le_mul_of_pos_right c (Nat.pow_pos (by omega))
 have Y:(Ac c).length≤L:=Nat.le_trans (Al F) j
 have kb:∀ (p k r x:Nat),2≤p→0<r→x=r*p ^ k→(Ac x).length≤L→k≤32*L:=by
  intro p k r x T hr e I
  have k1:2 ^ k≤p ^ k:=Nat.pow_le_pow_left T k
  have A:p ^ k≤x:=by rw[e];exact Nat.le_mul_of_pos_left _ hr
  have k3:2 ^ k<2 ^ (32*L):=by have:=ZT I;omega
  exact Nat.le_of_lt ((Nat.pow_lt_pow_iff_right (by omega)).1 k3)
 have hk1:=kb 2 k r _ (by omega) C y (by omega)
 have hk2:=kb 5 A c _ (by omega) D u j
 have en:([.bool false,.imm (Aa d.ds.l) d.ds.l.length 1 false (o||false)]:LA)=Bf false (.of (Ac x.q.den) false (o||false)):=by rw[M.2.2];rfl
 have et:∀ (v:Nat) (b:Bool),((Nat.beq 0 0)&&((Nat.beq (List.length (Bf false (.of (Ac v) false b))) 2)&&(Nat.beq 2 2)))=true:=fun _ _=>rfl
 have front:∀ K:List UInt8→Bool→O R,Eb N x.av o K=cond (decide (c≠1)) (K [] false) (Bm N 10 (fun ad q ae=>(Lc N [(.bool ad),(.imm (ae.take (q*1)) q 1 false true)] true ((max k A:Nat):Int) (fun af r ag=>(Pe N (Bf d.neg d.ns) (o||false) [(.bool af),(.imm (ag.take (r*1)) r 1 false true)] true (fun ah s ai=>(D5 N [(.bool ah),(.imm (ai.take (s*1)) s 1 false true)] true (Bf false (.of (Ac x.q.den) false (o||false))) ((o||false)||false) (fun g aj an=>(cond ((Nat.beq 0 0)&&((Nat.beq (g.length) 2)&&(Nat.beq 2 2))) (cond ((Nat.beq 0 0)&&((Nat.beq (aj.length) 2)&&(Nat.beq 2 2))) (cond (Nat.ble 2 (g.length)) (Ei N (g.take 2) false ((max k A:Nat):Int) (fun ak=>(K ak true))) none) none) none))))))))):=by
  intro K
  rw[KL];unfold KK
  rw[Is,ct,Dp,d2,show((Nat.beq (List.length d.av) 3)&&(true&&(!false)))=true by rfl,ct,show setCells x.av 0 d.av=d.av by rfl,bw,en]
  refine Eq.trans (a3 _) ?_
  refine Eq.trans (e3 _) ?_
  rw[et,ct,Q7,ct,SH]
  refine Eq.trans (b3 _) ?_
  refine Eq.trans (q3 _) ?_
  rw[show((Nat.beq (List.length (Bf false (.of (Ac c) false t))) 2)&&(true&&(!false)))=true by rfl,ct,show setCells (Bf false (.of (Ac r) false X)) 0 (Bf false (.of (Ac c) false t))=Bf false (.of (Ac c) false t) by rfl,Q7,ct,SH]
  refine Eq.trans (c3 _) ?_
  rw[A0 c1 c2,lO,Xv (Bp _ _ _) (Bp _ _ _) (f.le (by rw[Adi,Adi];omega)),ld,ld,Ab1,Ab1]
  rw[show(Om (c:Int) ((1:Nat):Int) != 0)=decide (c≠1) by
   unfold Om
   by_cases h:c=1
   ·subst h;decide
   ·rw[if_neg (by omega),if_pos (by omega)];simp[h]]
  rw[show Nat.ble 2 (List.length d.av)=true by rfl,ct,show List.take 2 d.av=Bf d.neg d.ns by rfl,Abt]
 by_cases G:c=1
 ·left
  refine⟨max k A,?_,?_,by omega,fun K=>?_⟩
  ·rw[y,u,G,Nat.one_mul];exact rI.2 ⟨Nat.le_max_left _ _,Nat.le_max_right _ _⟩
  ·intro p T
   rw[y,u,G,Nat.one_mul] at T
   have:=rI.1 T
   omega
  ·generalize hP:max k A=P at *
   have hPb:P≤32*L:=by omega
   have hnl:d.ns.l.length≤L:=by rw[M.2.1];omega
   have hpl:=Nat.le_of_lt_succ (Nat.lt_succ_of_le (A4 (KS P)))
   obtain⟨S,p1,p2,p3⟩:=MN (R:=R) (N:=N) (n:=P) (f.le (by omega))
   obtain⟨S',m1,m2,m3⟩:=bs (R:=R) (N:=N) (n1:=d.neg) (n2:=false) (s1:=d.ns) (s2:=.of (Ac (10 ^ P)) false true) (o1:=(o||false)) (o2:=true) M.ok.1 (Bp _ _ _) (f.le (by rw[Adi];omega))
   rw[ld,Ab1,xT M] at m2 m3
   have hzl:(Ac (x.q.num*((10 ^ P:Nat):Int)).natAbs).length≤L+(P+1):=by
    rw[Int.natAbs_mul,Int.natAbs_natCast]
    refine A4 ?_
    rw[Nat.pow_add]
    exact Nat.mul_lt_mul_of_lt_of_lt (CW (by omega)) (KS P)
   rw[front,decide_eq_false (by simpa using G),cf]
   refine Eq.trans (p3 _) ?_
   rw[A0 p1 p2,lO,m3,A0 m1 m2,lO,Sg (Bp _ _ _) (Bp _ _ _) (by rw[ld,Ab1];omega) (f.le (by rw[Adi,Adi];omega)),fq,ct,fq,ct,Jc,ct,MJ,ld,Ab1,B5]
   generalize x.q.num*((10 ^ P:Nat):Int)=z at *
   have V:=JN z x.q.den i
   have hz3:=Al V
   rw[YG,U5 (Bp _ _ _) (by omega) (f.le (by rw[Adi];omega)),B5]
 ·right
  refine⟨fun p=>fS (r:=c) ?_ q2 G ?_,fun K=>?_⟩
  ·intro h;apply e2;rw[u];exact Nat.dvd_trans h (Nat.dvd_mul_right _ _)
  ·rw[y,u,Nat.mul_assoc];exact Nat.dvd_mul_right _ _
  ·rw[front,decide_eq_true G,ct]
theorem zT {N:Nat} {x:LA} {o:Bool} {c:Int} (h:c<0∨100<c) {K:List UInt8→Int→O R}:Hw N x o c K=K [] 3:=by
 rw[DA];unfold Z9
 by_cases b:c<0
 ·rw[decide_eq_true b];rfl
 ·rw[decide_eq_false b,show(false==false)=true by rfl,ct,decide_eq_true (show c>100 by omega)];rfl
theorem mB {N:Nat} {x:RatD} {o:Bool} {c:Nat} {K:List UInt8→Int→O R} (i:x.ok) (D:c≤100) (b:fit (10*x.m+3000) N):Hw N x.av o (c:Int) K=K (pt (zY (((10 ^ c:Nat):Rat)*x.q)) c) 0:=by
 have F:=b.1;have G:=b.2
 obtain⟨S,k,l,s⟩:=MN (R:=R) (N:=N) (n:=c) (b.le (by omega))
 have t:=A4 (KS c)
 let y:RatD:=⟨false,.of (Ac (10 ^ c)) false true,.of [1] false true⟩
 have j:y.ok:=⟨Ab _,bx⟩
 have e:y.q=((10 ^ c:Nat):Rat):=by
  show mkRat (An false (.of (Ac (10 ^ c)) false true)) (val [1])=_
  rw[ld,Ab1,show val [1]=1 by rfl,lT];rfl
 have u:y.m≤102:=Nat.max_le.2 ⟨by show(Ac (10 ^ c)).length≤_;omega,by show 1≤_;omega⟩
 obtain⟨d,f,v⟩:=zA (R:=R) (N:=N) (x:=x) (y:=y) (o:=o) (o':=true) i j (b.le (by omega))
 rw[e,Rat.mul_comm] at f
 have z:d.m≤x.m+104:=by
  rw[f.m]
  have A:=qf ((10 ^ c:Nat):Rat) x.q
  have B:=Mr x i
  have C:=Mr y j
  rw[e] at C
  omega
 rw[DA];unfold Z9
 rw[decide_eq_false (by omega),show(false==false)=true by rfl,ct,decide_eq_false (show ¬ (c:Int)>100 by omega),show cond false true false=false by rfl,cf]
 unfold W1
 refine Eq.trans (s _) ?_
 rw[A0 k l,Is,ct,Dp]
 have ey:([(.bool false),(.imm (Aa (Ac (10 ^ c))) (Ac (10 ^ c)).length 1 false true),(.imm [(.int .u32 1)] 1 1 false true)]:LA)=y.av:=rfl
 rw[ey,v,tg f.ok (b.le (by omega)),f.q]
 have I:(Ac (zY (((10 ^ c:Nat):Rat)*x.q)).natAbs).length≤d.m+1:=by
  rw[f.m]
  refine A4 ?_
  have A:=Xw (((10 ^ c:Nat):Rat)*x.q)
  have B:=JN (((10 ^ c:Nat):Rat)*x.q).num (((10 ^ c:Nat):Rat)*x.q).den (((10 ^ c:Nat):Rat)*x.q).den_pos
  rw[Nat.pow_succ]
  unfold zY mq
  split<;>omega
 rw[YG,U5 (Bp _ _ _) (by omega) (b.le (by rw[Adi];omega)),B5]
end
end Gx

namespace Gx
open Go Go.Proofs
section
variable {R:Type}
theorem Aev (x:RatD):((Nat.beq 0 0)&&((Nat.beq (List.length x.av) 3)&&(Nat.beq 3 3)))=true:=rfl
theorem Acp:Fa 175=[49,55,53]:=by
 rw[Pz (by omega),show 175/10=17 by rfl,Pz (by omega),show 17/10=1 by rfl,Dl (by omega)];rfl
theorem Aeb {P:Nat} (b:40∣10 ^ P) (c:∀ p,40∣10 ^ p→P≤p):P=3:=by
 have f:P≤3:=c 3 (by decide)
 have d:P=0∨P=1∨P=2∨P=3:=by omega
 rcases d with e | e | e | e
 ·subst e;exact absurd b (by decide)
 ·subst e;exact absurd b (by decide)
 ·subst e;exact absurd b (by decide)
 ·exact e
theorem Acq:(mkRat 7 40).num=7∧(mkRat 7 40).den=40:=by decide
theorem Afq:(mkRat 6 4).num=3∧(mkRat 6 4).den=2:=by decide
theorem mC {b:Nat} {z:Int} (c:b≠0) (d:z.natAbs<4294967296) (h:b<4294967296):qm (mkRat z b)≤1:=Aa3 z b 1 (by omega) (by omega) c
theorem Aew {N:Nat} {d:RatD} {p:Rat} {w:Int} {o o':Bool} {K:Bool→O R} (h:d.can p):H8 N (Bf d.neg d.ns) o (Aq w) o' K=H8 N (Aq p.num) o (Aq w) o' K:=by
 rw[Xt];unfold CI
 simp only[Gn,F5,YG,h.1,h.2.1]
 rfl
theorem mD {N:Nat} {d:RatD} {p q:Rat} {o o':Bool} {K:Bool→O R} (h:d.can p) (b:fit (qm p) N):D6 N d.av o (cq q) o' K=K (decide (p=q)):=by
 have hq:=Ad6 (R:=R) (N:=N) (p:=p) (q:=q) (o:=o) (o':=o') (K:=K) b
 rw[←hq,Xu];unfold CJ
 rw[show Nat.ble 2 (List.length d.av)=true by rfl,ct,Z2,ct,Z2,ct,show List.take 2 d.av=Bf d.neg d.ns by rfl,Pq,Pq,Aew h,bw,Ade,Ade,h.2.2]
 rfl
theorem Afh {N:Nat} {q:Rat} (b:fit 10000 N) (h:qm q≤1) (c d:Nat) (e:c+d≤10000):fit (c*(ZV q).m+d) N:=b.le (by rw[Wt];have:=Nat.mul_le_mul_left c h;omega)
theorem Vc {N:Nat} {K:Bool→O R} (b:fit 10000 N):Cc N K=K true:=by
 have u:=b.1
 obtain⟨x,x1,x2⟩:=Vb (R:=R) (N:=N) (s:=[45,48,46,50,53]) (n:=[45,48,50,53]) (d:=[49,48,48]) (fun K=>pC (e:=true) (d:=[48]) (c:=[50,53]) (by decide) (by decide) (by decide) (by simp;omega)) (by decide) (by decide) (by decide) (by decide) (b.le (by decide))
 have qx:mkRat (Ks [45,48,50,53]) (Cj [49,48,48])=mkRat (-1) 4:=by decide
 rw[qx] at x1
 have mx:x.m≤1:=by rw[x1.m];exact mC (by decide) (by decide) (by decide)
 have m1:qm (mkRat 7 40)≤1:=mC (by decide) (by decide) (by decide)
 have m2:qm (mkRat 5 2)≤1:=mC (by decide) (by decide) (by decide)
 have m3:qm (mkRat 6 4)≤1:=mC (by decide) (by decide) (by decide)
 have m4:qm (mkRat (-1) 4)≤1:=mC (by decide) (by decide) (by decide)
 rw[FV];unfold DB
 have i:∀ K:List UInt8→Bool→O R,Eb N (cq (mkRat 7 40)) false K=K [48,46,49,55,53] true:=by
  rcases DI (R:=R) (N:=N) (x:=ZV (mkRat 7 40)) (o:=false) (Kq _) (Afh b m1 80 300 (by decide)) with⟨P,f,l,_,t⟩ | ⟨f,_⟩
  ·rw[Qm] at f l t
   rw[Acq.2] at f l
   have hP:=Aeb f l
   subst hP
   have e:pt ((mkRat 7 40).num*((10 ^ 3:Nat):Int)/((mkRat 7 40).den:Int)) 3=[48,46,49,55,53]:=by
    rw[Acq.1,Acq.2,show(7*((10 ^ 3:Nat):Int)/((40:Nat):Int))=175 by decide]
    unfold pt Adg Dr Yd
    rw[show(175:Int).natAbs=175 by rfl,Acp];rfl
   intro K
   rw[←e];exact t K
  ·rw[Qm,Acq.2] at f
   exact absurd (by decide) (f 3)
 have j:∀ K:List UInt8→Int→O R,Hw N (cq (mkRat 5 2)) false 0 K=K [50] 0:=by
  intro K
  have:=mB (R:=R) (N:=N) (x:=ZV (mkRat 5 2)) (o:=false) (c:=0) (K:=K) (Kq _) (by omega) (Afh b m2 10 3000 (by decide))
  rw[Qm] at this
  have e:pt (zY (((10 ^ 0:Nat):Rat)*mkRat 5 2)) 0=[50]:=by
   rw[show(((10 ^ 0:Nat):Rat)*mkRat 5 2)=mkRat 5 2 from Rat.one_mul _,Abd _ _ (by decide),show mq 5 2=2 by decide,gO]
   unfold F9 Yd
   rw[show(2:Int).natAbs=2 by rfl,Dl (by omega)];decide
  rw[e] at this
  exact this
 have k:∀ K:List UInt8→O R,Dv N (cq (mkRat 6 4)) false K=K [51,47,50]:=by
  intro K
  have:=U6 (R:=R) (N:=N) (x:=ZV (mkRat 6 4)) (o:=false) (K:=K) (Kq _) (Afh b m3 4 60 (by decide))
  rw[Qm] at this
  have e:M8 (mkRat 6 4)=[51,47,50]:=by
   unfold M8 F9 Yd
   rw[Afq.1,Afq.2,if_neg (by omega),if_neg (by omega),show(3:Int).natAbs=3 by rfl,Dl (by omega),Dl (by omega)];decide
  rw[e] at this
  exact this
 have q:∀ K:Bool→O R,D6 N x.av false (cq (mkRat (-1) 4)) false K=K true:=by
  intro K
  rw[mD x1 (b.le (Nat.le_trans m4 (by decide))),decide_eq_true rfl]
 have of1:∀ K:LA→O R,Q6 N 7 40 K=K (cq (mkRat 7 40)):=fun K=>YE (by omega) (by omega) (by omega)
 have of2:∀ K:LA→O R,Q6 N 5 2 K=K (cq (mkRat 5 2)):=fun K=>YE (by omega) (by omega) (by omega)
 have of3:∀ K:LA→O R,Q6 N 6 4 K=K (cq (mkRat 6 4)):=fun K=>YE (by omega) (by omega) (by omega)
 have of4:∀ K:LA→O R,Q6 N (-1) 4 K=K (cq (mkRat (-1) 4)):=fun K=>YE (by omega) (by omega) (by omega)
 rw[x2,show Vg [45,48,46,50,53]=3 by decide,if_neg (by omega),Aev,ct,of1,i,of2,j,of3,k]
 rw[Is,Dp,of4,q]
 rfl
end
end Gx

namespace Gx
open Go Go.Proofs
section
variable {R:Type}
theorem Acr {N:Nat} {z:Int} {o:Bool} {K:List UInt8→O R} (b:fit (2*(Ac z.natAbs).length+40) N):Bv N (Aq z) o K=K (F9 z):=by
 rw[YG,Jm (Bp _ _ _) b,B5]
theorem uP {N:Nat} {b:Int} (d:-9223372036854775808≤b∧b≤9223372036854775807) {K:Bool→O R} (c:fit 10000 N):Gd N b K=K true:=by
 have e:=c.1
 have f:(Ac b.natAbs).length≤2:=A4 (by omega)
 have i:=AQ b
 have j:Vg (F9 b)≤4096:=by
  rw[zS]
  have:=Hx b.natAbs
  omega
 rw[My];unfold Jq
 rw[A9 d (by omega),Acr (c.le (by omega)),Yn (Fm b) (c.le (by omega)),if_neg (by omega),Qw,fq,ct,Jc,ct,MJ,Ad4 (c.le (by omega)) d,Vc c]
 rw[show(b==b)=true by simp]
 rfl
end
end Gx

namespace Gx
open Go Go.Proofs
section
variable {R:Type}
theorem rK {N:Nat} {n1 n2:Bool} {la lb lc:List Nat} (c:Ae la) (e:Ae lb) (f:Ae lc) {K:Bool→O R} (b:fit (8*(la.length+lb.length+lc.length)+10000) N) :
  Ft N n1 (Aa la) la.length false false n2 (Aa lb) lb.length false false (Aa lc) lc.length false false K=K true:=by
 have i:∀ K:List UInt8→O R,Bv N [(.bool n1),(.imm (Aa la) la.length 1 false false)] (false||false) K=K (F9 (An n1 (.of la false false))):=fun K=>Jm (s:=.of la false false) c (b.le (by show 2*la.length+40≤_;omega))
 have j:∀ K:List UInt8→O R,C4 N [(.bool n1),(.imm (Aa la) la.length 1 false false)] (false||false) K=K (F9 (An n1 (.of la false false))):=fun K=>gD (s:=.of la false false) c (b.le (by show la.length+6≤_;omega))
 let x:RatD:=⟨n2,.of lb false false,.of lc false false⟩
 have d:x.ok:=⟨e,f⟩
 have n:x.m≤lb.length+lc.length:=Nat.max_le.2 ⟨by show lb.length≤_;omega,by show lc.length≤_;omega⟩
 have k:∀ K:List UInt8→O R,Dv N [(.bool n2),(.imm (Aa lb) lb.length 1 false false),(.imm (Aa lc) lc.length 1 false false)] (false||(false||false)) K=K (M8 x.q):=fun K=>U6 (x:=x) d (b.le (by omega))
 have l:∀ K:List UInt8→O R,Ib N [(.bool n2),(.imm (Aa lb) lb.length 1 false false),(.imm (Aa lc) lc.length 1 false false)] (false||(false||false)) K=K (M8 x.q):=fun K=>gE (x:=x) d (b.le (by omega))
 rw[Lf];unfold If
 rw[Vc (b.le (by omega)),show(true==true)=true by rfl,ct,i,j,k,l]
 simp
end
end Gx

namespace Gx
open Go Go.Proofs
section
variable {R:Type}
theorem w7 (q:Rat):∀ c ∈ M8 q,c.toNat<128:=by
 have d:=ZR (Ly (Fm q.num))
 have e:=MO (Kw q.den)
 unfold M8
 split
 ·exact d
 ·intro c b
  simp only[List.mem_append,List.mem_singleton] at b
  rcases b with(b | b) | b
  ·exact d c b
  ·subst b;decide
  ·exact e c b
theorem Abu (q:Rat):(M8 q).length≤20*qm q+4:=by
 have b:=AQ q.num
 have c:=Hx q.den
 have d:=Xy q
 have e:=JO q
 unfold M8
 split
 ·omega
 ·rw[List.length_append,List.length_append,List.length_singleton];omega
theorem w8 {N:Nat} {q:Rat} (b:fit (400*qm q+400) N):∃ x:RatD,x.can q∧∀ K:LA→Int→O R,D1 N (M8 q) K=if 4096<Vg (M8 q) then K [(.bool false),.nsl,.nsl] 8 else K x.av 0:=by
 have j:=b.1;have k:=b.2
 have l:=AQ q.num
 have m:=Hx q.den
 have t:=Xy q
 have u:=JO q
 have c:=Abu q
 by_cases h:q.den=1
 ·have e:M8 q=F9 q.num:=by unfold M8;rw[if_pos h]
  rw[e] at c ⊢
  obtain⟨x,x1,x2⟩:=Vb (R:=R) (N:=N) (s:=F9 q.num) (n:=F9 q.num) (d:=[49]) (fun K=>pB (Fm _) (by omega)) (Ly (Fm _)) (by decide) (by decide) (ZR (Ly (Fm _))) (b.le (by rw[List.length_singleton];omega))
  rw[Qw,show Cj [49]=1 by decide] at x1
  have:mkRat q.num 1=q:=by
   have f:=Rat.mkRat_self q
   rw[h] at f;exact f
  rw[this] at x1
  exact⟨x,x1,x2⟩
 ·have e:M8 q=F9 q.num++47::Fa q.den:=by unfold M8;rw[if_neg h,List.append_assoc];rfl
  have i:=w7 q
  rw[e] at c i ⊢
  obtain⟨x,x1,x2⟩:=Vb (R:=R) (N:=N) (s:=F9 q.num++47::Fa q.den) (n:=F9 q.num) (d:=Fa q.den) (fun K=>wZ (Fm _) (LV _) (by omega) (by omega)) (Ly (Fm _)) (Kw _) (by rw[Kx];exact q.den_pos) i (b.le (by omega))
  rw[Qw,Kx,Rat.mkRat_self] at x1
  exact⟨x,x1,x2⟩
theorem rL (s:List UInt8):Vg s≤s.length:=List.countP_le_length
theorem w9 {N:Nat} {n1 n2:Bool} {la lb lc:List Nat} (i:Ae la) (A:Ae lb) (B:Ae lc) {K:Bool→O R} (c:fit (400*(la.length+lb.length+lc.length)+10000) N) :
  Ek N n1 (Aa la) la.length false false n2 (Aa lb) lb.length false false (Aa lc) lc.length false false K=K true:=by
 have T:=c.1;have U:=c.2
 have C:∀ K:List UInt8→O R,Bv N [(.bool n1),(.imm (Aa la) la.length 1 false false)] (false||false) K=K (F9 (An n1 (.of la false false))):=fun K=>Jm (s:=.of la false false) i (c.le (by show 2*la.length+40≤_;omega))
 have D:∀ K:LA→O R,E3 N [(.bool n1),(.imm (Aa la) la.length 1 false false)] (false||false) K=K (Aq (An n1 (.of la false false))):=fun K=>Jd (s:=.of la false false) i (c.le (by show la.length≤_;omega))
 let x:RatD:=⟨n2,.of lb false false,.of lc false false⟩
 have j:x.ok:=⟨A,B⟩
 have V:x.m≤lb.length+lc.length:=Nat.max_le.2 ⟨by show lb.length≤_;omega,by show lc.length≤_;omega⟩
 have F:=Mr x j
 have G:∀ K:List UInt8→O R,Dv N [(.bool n2),(.imm (Aa lb) lb.length 1 false false),(.imm (Aa lc) lc.length 1 false false)] (false||(false||false)) K=K (M8 x.q):=fun K=>U6 (x:=x) j (c.le (by omega))
 have I:∀ K:LA→O R,B4 N [(.bool n2),(.imm (Aa lb) lb.length 1 false false),(.imm (Aa lc) lc.length 1 false false)] (false||(false||false)) K=K (cq x.q):=fun K=>Cy (x:=x) j (c.le (by omega))
 have X:(Ac (An n1 (.of la false false)).natAbs).length≤la.length:=by
  have:=(Az (l:=la) i).2
  rw[Ba];exact this
 generalize An n1 (.of la false false)=z at *
 generalize hq:x.q=q at *
 obtain⟨y,y1,y2⟩:=w8 (R:=R) (N:=N) (q:=q) (c.le (by omega))
 have Y:=AQ z
 have k:∀ K:LA→Int→O R,Er N (F9 z) K=if 4096<Vg (F9 z) then K [(.bool false),.nsl] 8 else K (Aq z) 0:=fun K=>by
  have:=Yn (R:=R) (N:=N) (s:=F9 z) (K:=K) (Fm z) (c.le (by omega))
  rw[Qw] at this;exact this
 have n:∀ K:Bool→O R,Cc N K=K true:=fun K=>Vc (c.le (by omega))
 have heqI:∀ K:Bool→O R,H8 N (Aq z) false (Aq z) false K=K true:=fun K=>by
  rw[Aa9 (c.le (by omega)),decide_eq_true rfl]
 have heqQ:∀ K:Bool→O R,D6 N y.av false (cq q) false K=K true:=fun K=>by
  rw[mD y1 (c.le (by omega)),decide_eq_true rfl]
 rw[Jo];unfold Gq
 rw[C,G,k]
 have second:∀ (s:LA) (w:Int),((decide ((((M8 q).length:Nat):Int)>4096))=false→s=y.av∧w=0) →
   (cond ((decide ((((M8 q).length:Nat):Int)>4096))==false) (cond ((w==0)==true) (cond (Nat.ble 3 (s.length)) (B4 N [(.bool n2),(.imm (Aa lb) lb.length 1 false false),(.imm (Aa lc) lc.length 1 false false)] (false||(false||false)) (fun ab=>(D6 N (s.take 3) false ab false (fun ac=>(K (cond true (cond false true (cond true ac false)) false)))))) none) (K false)) (K true))=K true:=by
  intro s w h
  by_cases b:decide ((((M8 q).length:Nat):Int)>4096)=false
  ·obtain⟨rfl,rfl⟩:=h b
   rw[b,show(false==false)=true by rfl,ct,show(((0:Int)==0)==true)=true by rfl,ct,Is,ct,Dp,I,heqQ];rfl
  ·have:decide ((((M8 q).length:Nat):Int)>4096)=true:=by simpa using b
   rw[this,show(true==false)=false by rfl,cf]
 have d:∀ K':LA→Int→O R,(∀ (s:LA) (w:Int),s.length=3→((decide ((((M8 q).length:Nat):Int)>4096))=false→s=y.av∧w=0)→K' s w=K true)→D1 N (M8 q) K'=K true:=by
  intro K' h
  rw[y2]
  have t:=rL (M8 q)
  by_cases f:4096<Vg (M8 q)
  ·rw[if_pos f]
   refine h _ _ rfl fun e=>?_
   rw[decide_eq_false_iff_not] at e
   omega
  ·rw[if_neg f]
   exact h _ _ rfl fun _=>⟨rfl,rfl⟩
 have sz2:∀ u:LA,u.length=2→((Nat.beq 0 0)&&((Nat.beq (u.length) 2)&&(Nat.beq 2 2)))=true:=fun u h=>by rw[h];rfl
 have sz3':∀ u:LA,u.length=3→((Nat.beq 0 0)&&((Nat.beq (u.length) 3)&&(Nat.beq 3 3)))=true:=fun u h=>by rw[h];rfl
 have body:∀ (u:LA) (x0:Int),u.length=2→((decide ((((F9 z).length:Nat):Int)>4096))=false→u=Aq z∧x0=0) →
   (cond ((Nat.beq 0 0)&&((Nat.beq (u.length) 2)&&(Nat.beq 2 2))) (D1 N (M8 q) (fun s w=>(cond ((Nat.beq 0 0)&&((Nat.beq (s.length) 3)&&(Nat.beq 3 3))) (Cc N (fun y=>(cond (y==true) (cond ((decide ((((F9 z).length:Nat):Int)>4096))==false) (cond ((x0==0)==true) (cond (Nat.ble 2 (u.length)) (E3 N [(.bool n1),(.imm (Aa la) la.length 1 false false)] (false||false) (fun z=>(H8 N (u.take 2) false z false (fun aa=>(cond ((cond true (cond false true (cond true aa false)) false)==true) (cond ((decide ((((M8 q).length:Nat):Int)>4096))==false) (cond ((w==0)==true) (cond (Nat.ble 3 (s.length)) (B4 N [(.bool n2),(.imm (Aa lb) lb.length 1 false false),(.imm (Aa lc) lc.length 1 false false)] (false||(false||false)) (fun ab=>(D6 N (s.take 3) false ab false (fun ac=>(K (cond true (cond false true (cond true ac false)) false)))))) none) (K false)) (K true)) (K false)))))) none) (K false)) (cond ((decide ((((M8 q).length:Nat):Int)>4096))==false) (cond ((w==0)==true) (cond (Nat.ble 3 (s.length)) (B4 N [(.bool n2),(.imm (Aa lb) lb.length 1 false false),(.imm (Aa lc) lc.length 1 false false)] (false||(false||false)) (fun ad=>(D6 N (s.take 3) false ad false (fun ae=>(K (cond true (cond false true (cond true ae false)) false)))))) none) (K false)) (K true))) (K false)))) none))) none)=K true:=by
  intro u x0 L M
  rw[sz2 u L,ct]
  refine d _ fun s w S v=>?_
  rw[sz3' s S,ct,n,show(true==true)=true by rfl,ct]
  by_cases b:decide ((((F9 z).length:Nat):Int)>4096)=false
  ·obtain⟨rfl,rfl⟩:=M b
   rw[b,show(false==false)=true by rfl,ct,show(((0:Int)==0)==true)=true by rfl,ct,Jc,ct,D,MJ,heqI,show((cond true (cond false true (cond true true false)) false)==true)=true by rfl,ct]
   exact second s w v
  ·have e:decide ((((F9 z).length:Nat):Int)>4096)=true:=by simpa using b
   rw[e,show(true==false)=false by rfl,cf]
   exact second s w v
 have t:=rL (F9 z)
 by_cases f:4096<Vg (F9 z)
 ·rw[if_pos f]
  refine body _ _ rfl fun e=>?_
  rw[decide_eq_false_iff_not] at e
  omega
 ·rw[if_neg f]
  exact body _ _ rfl fun _=>⟨rfl,rfl⟩
end
end Gx

namespace Gx
open Go Go.Proofs
section
variable {R:Type}
theorem Abv {s:List UInt8} (h:s.all Bl=true) (n:Nat):(s.take n).all Bl=true:=by
 rw[List.all_eq_true] at h ⊢;exact fun x b=>h x (List.mem_of_mem_take b)
theorem Abw {s:List UInt8} (h:s.all Bl=true) (n:Nat):(s.drop n).all Bl=true:=by
 rw[List.all_eq_true] at h ⊢;exact fun x b=>h x (List.mem_of_mem_drop b)
theorem pE {c:Nat} {s:List UInt8} (h:s.all Bl=true):(Dr c s).all Bl=true:=by
 unfold Dr
 rw[List.all_append,h,Bool.and_true,List.all_eq_true]
 intro x b
 rw[List.eq_of_mem_replicate b];decide
theorem w_ (c:Nat) (s:List UInt8):Cj (Dr c s)=Cj s:=RI _ _
theorem uQ {c u:Nat} (k:1≤c):D7 ((Dr c (Fa u)).take ((Dr c (Fa u)).length - c))=true:=by
 have l:=List.length_pos_iff.2 (Qz u)
 by_cases h:(Fa u).length≤c
 ·have e:(Dr c (Fa u)).length=c+1:=by unfold Dr;rw[List.length_append,List.length_replicate];omega
  rw[e,show c+1 - c=1 by omega]
  unfold Dr
  rw[show c+1 - (Fa u).length=(c - (Fa u).length)+1 by omega,List.replicate_succ]
  simp only[List.cons_append,List.take_succ_cons,List.take_zero]
  decide
 ·have e:Dr c (Fa u)=Fa u:=by unfold Dr;rw[show c+1 - (Fa u).length=0 by omega];rfl
  rw[e]
  have i:0<u:=by
   rcases Nat.eq_zero_or_pos u with b | b
   ·subst b;rw[Dl (by omega)] at h;simp at h;omega
   ·exact b
  have d:=UD u i
  refine iV (Abv (Kw u) _) ?_ ?_
  ·intro e;have:=congrArg List.length e;rw[List.length_take] at this;simp at this;omega
  ·cases f:Fa u with
   | nil=>exact absurd f (Qz u)
   | cons a r =>
    rw[f] at d h
    obtain⟨m,j⟩:∃ m,(a::r).length - c=m+1:=⟨(a::r).length - c - 1,by omega⟩
    rw[j,List.take_succ_cons]
    simpa using d
theorem zU {c u:Nat} (e:1≤c):RH ((Dr c (Fa u)).drop ((Dr c (Fa u)).length - c))=true:=by
 have b:=Abw (pE (c:=c) (Kw u)) ((Dr c (Fa u)).length - c)
 have f:=(cE c (Fa u)).1
 unfold RH
 rw[b,Bool.true_and]
 cases d:(Dr c (Fa u)).drop ((Dr c (Fa u)).length - c) with
 | nil=>have:=congrArg List.length d;rw[List.length_drop] at this;simp at this;omega
 | cons a r=>rfl
theorem Acx (z:Int) (s:List UInt8):Yd z s=(if decide (z<0)=true then [45] else [])++s:=by
 unfold Yd
 by_cases h:z<0
 ·rw[if_pos h,if_pos (by simpa using h)];rfl
 ·rw[if_neg h,if_neg (by simpa using h)];rfl
theorem pF (c:Nat):Cj (49::List.replicate c 48)=10 ^ c:=by
 rw[S7,List.length_replicate]
 have:=RI c []
 rw[List.append_nil] at this
 rw[this]
 show 1*10 ^ c+0=10 ^ c
 omega
theorem Acy {z:Int} {c:Nat} (d:1≤c):MS (pt z c)=false:=by
 rw[←Bool.not_eq_true];intro b
 refine rG (c:=46) (by decide) (by decide) (Ly b) ?_
 unfold pt Adg Yd
 rw[if_neg (show ¬ c=0 by omega)]
 split<;>simp
theorem Abx {N c:Nat} {z:Int} (m:fit (40*(pt z c).length+200) N):∃ x:RatD,x.can (mkRat z (10 ^ c))∧∀ K:LA→Int→O R,D1 N (pt z c) K=if 4096<Vg (pt z c) then K [(.bool false),.nsl,.nsl] 8 else K x.av 0:=by
 have I:=m.1;have L:=m.2
 rcases Nat.eq_zero_or_pos c with v | v
 ·subst v
  rw[gO] at I L ⊢
  rw[gO] at m
  obtain⟨x,x1,x2⟩:=Vb (R:=R) (N:=N) (s:=F9 z) (n:=F9 z) (d:=[49]) (fun K=>pB (Fm _) (by omega)) (Ly (Fm _)) (by decide) (by decide) (ZR (Ly (Fm _))) (m.le (by rw[List.length_singleton];omega))
  rw[Qw,show Cj [49]=1 by decide] at x1
  exact⟨x,x1,x2⟩
 ·have e:pt z c=(if decide (z<0)=true then [45] else [])++((Dr c (Fa z.natAbs)).take ((Dr c (Fa z.natAbs)).length - c)++46::(Dr c (Fa z.natAbs)).drop ((Dr c (Fa z.natAbs)).length - c)):=by
   unfold pt Adg
   rw[if_neg (show ¬ c=0 by omega),Acx,List.append_assoc];rfl
  have A:=uQ (c:=c) (u:=z.natAbs) v
  have B:=zU (c:=c) (u:=z.natAbs) v
  have i:=pE (c:=c) (Kw z.natAbs)
  have j:=w_ c (Fa z.natAbs)
  have D:=(cE c (Fa z.natAbs)).1
  rw[Kx] at j
  generalize Dr c (Fa z.natAbs)=b at *
  have C:b.take (b.length - c)++b.drop (b.length - c)=b:=List.take_append_drop _ _
  have k:(b.drop (b.length - c)).length=c:=by rw[List.length_drop];omega
  have l:(b.take (b.length - c)).length=b.length - c:=by rw[List.length_take];omega
  have F:b.length+1≤(pt z c).length:=by
   rw[e,List.length_append,List.length_append,List.length_cons,l,k];omega
  have M:((if decide (z<0)=true then [45] else [])++b:List UInt8).length≤b.length+1:=by split<;>simp
  have S:Kt ((if decide (z<0)=true then [45] else [])++b)=true:=by
   by_cases q:z<0
   ·rw[if_pos (by simpa using q)];exact i
   ·rw[if_neg (by simpa using q),List.nil_append]
    unfold Kt
    split
    ·rename_i r _ 
     simp only[List.all_cons,Bool.and_eq_true] at i
     exact absurd i.1 (by decide)
    ·exact i
  have T:Ks ((if decide (z<0)=true then [45] else [])++b)=z:=by
   by_cases q:z<0
   ·rw[if_pos (by simpa using q)]
    show -((Cj b:Nat):Int)=z
    rw[j];omega
   ·rw[if_neg (by simpa using q),List.nil_append]
    unfold Ks
    split
    ·rename_i r _ 
     simp only[List.all_cons,Bool.and_eq_true] at i
     exact absurd i.1 (by decide)
    ·rw[j];omega
  have t:∀ ch ∈ pt z c,ch.toNat<128:=by
   intro ch f
   rw[e] at f
   have G:∀ x ∈ b,x.toNat<128:=MO i
   simp only[List.mem_append,List.mem_cons] at f
   rcases f with f | f | f | f
   ·split at f
    ·simp at f;subst f;decide
    ·cases f
   ·exact G _ (List.mem_of_mem_take f)
   ·subst f;decide
   ·exact G _ (List.mem_of_mem_drop f)
  obtain⟨x,x1,x2⟩:=Vb (R:=R) (N:=N) (s:=pt z c) (n:=(if decide (z<0)=true then [45] else [])++b) (d:=49::List.replicate c 48) (fun K=>by
   rw[e]
   have:=pC (R:=R) (N:=N) (e:=decide (z<0)) (K:=K) A B (by rw[l,k];omega) (by rw[l,k];omega)
   rw[this,C,k]) S (by
    rw[List.all_cons,Bool.and_eq_true]
    refine⟨by decide,?_⟩
    rw[List.all_eq_true];intro y U;rw[List.eq_of_mem_replicate U];decide) (by rw[pF];exact Nat.pow_pos (by omega)) t (m.le (by rw[List.length_cons,List.length_replicate];omega))
  rw[T,pF] at x1
  exact⟨x,x1,x2⟩
theorem zV {q:Rat} {P:Nat} (h:q.den∣10 ^ P):mkRat (q.num*((10 ^ P:Nat):Int)/(q.den:Int)) (10 ^ P)=q:=by
 obtain⟨k,b⟩:=h
 have d:=q.den_pos
 have c:0<k:=by
  rcases Nat.eq_zero_or_pos k with e | e
  ·subst e
   have:0<10 ^ P:=Nat.pow_pos (by omega)
   omega
  ·exact e
 rw[b]
 have e:q.num*((q.den*k:Nat):Int)/(q.den:Int)=q.num*(k:Int):=by
  rw[Int.natCast_mul,←Int.mul_assoc,Int.mul_comm q.num,Int.mul_assoc,Int.mul_ediv_cancel_left _ (by omega)]
 rw[e,Rat.mkRat_mul_right (by omega)]
 exact Rat.mkRat_self q
theorem zW (q:Rat):(lP q ((q.num/(q.den:Int):Int):Rat)==0)=decide (q.den=1):=by
 have f:=q.den_pos
 by_cases h:q.den=1
 ·have e:((q.num/(q.den:Int):Int):Rat)=q:=by
   rw[h,show q.num/((1:Nat):Int)=q.num by simp]
   have c:=Rat.mkRat_self q
   rw[h,lT] at c;exact c
  rw[e,decide_eq_true h]
  unfold lP
  rw[if_neg (by grind),if_neg (by grind)];rfl
 ·rw[decide_eq_false h,beq_eq_false_iff_ne]
  intro b
  have:q=((q.num/(q.den:Int):Int):Rat):=by
   unfold lP at b
   split at b
   ·simp at b
   ·split at b
    ·simp at b
    ·grind
  have d:=congrArg Rat.den this
  rw[Rat.den_intCast] at d
  exact h d
theorem wc {N:Nat} {n2:Bool} {lb lc:List Nat} (B:Ae lb) (C:Ae lc) {K:Bool→O R} (d:fit (400*(lb.length+lc.length)+200000) N) :
  Hl N n2 (Aa lb) lb.length false false (Aa lc) lc.length false false K=K true:=by
 have V:=d.1;have X:=d.2
 let x:RatD:=⟨n2,.of lb false false,.of lc false false⟩
 have i:x.ok:=⟨B,C⟩
 have Y:x.m≤lb.length+lc.length:=Nat.max_le.2 ⟨by show lb.length≤_;omega,by show lc.length≤_;omega⟩
 have D:=Mr x i
 have f:∀ K:Bool→O R,Cc N K=K true:=fun K=>Vc (d.le (by omega))
 have F:∀ K:LA→O R,B4 N [(.bool n2),(.imm (Aa lb) lb.length 1 false false),(.imm (Aa lc) lc.length 1 false false)] (false||(false||false)) K=K (cq x.q):=fun K=>Cy (x:=x) i (d.le (by omega))
 have G:∀ K:LA→O R,Mo N [(.bool n2),(.imm (Aa lb) lb.length 1 false false),(.imm (Aa lc) lc.length 1 false false)] (false||(false||false)) K=K (Aq (x.q.num/(x.q.den:Int))):=fun K=>er (x:=x) i (d.le (by omega))
 have I:(Ac (x.q.num/(x.q.den:Int)).natAbs).length≤qm x.q:=Nat.le_trans (Al (cA x.q)) (Xy x.q)
 have L:∀ K:LA→O R,H9 N (Aq (x.q.num/(x.q.den:Int))) false K=K (cq ((x.q.num/(x.q.den:Int):Int):Rat)):=fun K=>qg (d.le (by omega))
 have M:=th x.q
 have S:∀ K:Int→O R,Fq N [(.bool n2),(.imm (Aa lb) lb.length 1 false false),(.imm (Aa lc) lc.length 1 false false)] (false||(false||false)) (cq ((x.q.num/(x.q.den:Int):Int):Rat)) false K=K (lP x.q ((x.q.num/(x.q.den:Int):Int):Rat)):=fun K=>by
  have:=JK (R:=R) (N:=N) (x:=x) (y:=ZV ((x.q.num/(x.q.den:Int):Int):Rat)) (o:=(false||(false||false))) (o':=false) (K:=K) i (Kq _) (by rw[Wt];exact d.le (by omega))
  rw[Qm] at this;exact this
 rw[Oh];unfold Kr
 rcases DI (R:=R) (N:=N) (x:=x) (o:=(false||(false||false))) i (d.le (by omega)) with⟨P,l,T,_,n⟩ | ⟨_,n⟩
 ·refine Eq.trans (n _) ?_
  rw[show(!true)=false by rfl,cf]
  have j:=zV l
  have hP0:P=0↔x.q.den=1:=by
   constructor
   ·intro h;rw[h,Nat.pow_zero] at l;exact Nat.dvd_one.1 l
   ·intro h;have:=T 0 (by rw[h];exact Nat.one_dvd _);omega
  generalize x.q.num*((10 ^ P:Nat):Int)/(x.q.den:Int)=z at *
  by_cases b:decide ((((pt z P).length:Nat):Int)>4096)=true
  ·rw[b,ct,f]
  ·have b:decide ((((pt z P).length:Nat):Int)>4096)=false:=by simpa using b
   have U:(pt z P).length≤4096:=by rw[decide_eq_false_iff_not] at b;omega
   have s:=rL (pt z P)
   obtain⟨y,y1,y2⟩:=Abx (R:=R) (N:=N) (z:=z) (c:=P) (d.le (by omega))
   rw[j] at y1
   have v:∀ K:LA→Int→O R,∃ (t:LA) (u:Int),t.length=2∧(u==0)=decide (x.q.den=1)∧Er N (pt z P) K=K t u:=fun K=>by
    by_cases A:P=0
    ·have k:=hP0.1 A
     subst A
     rw[gO] at s U ⊢
     refine⟨_,_,?_,?_,(Yn (Fm z) (d.le (by omega))).trans (if_neg (by omega))⟩
     ·rfl
     ·rw[decide_eq_true k];rfl
    ·refine⟨_,_,?_,?_,rF (Acy (by omega)) (d.le (by omega))⟩
     ·rfl
     ·rw[decide_eq_false (fun e=>A (hP0.2 e))];rfl
   rw[b,cf,y2,if_neg (by omega),Aev,ct]
   obtain⟨t,u,t1,t2,t3⟩:=v _
   refine Eq.trans t3 ?_
   rw[show((Nat.beq 0 0)&&((Nat.beq (t.length) 2)&&(Nat.beq 2 2)))=true by rw[t1];rfl,ct,G,L,S,f,show(true==true)=true by rfl,ct,show((cond true ((0:Int)==0) false)==true)=true by rfl,ct,Is,ct,Dp,F,mD y1 (d.le (by omega)),decide_eq_true rfl,t2,zW]
   simp
 ·refine Eq.trans (n _) ?_
  rw[show(!false)=true by rfl,ct,show((([]:List UInt8)==[])==true)=true by rfl,ct,f];rfl
end
end Gx

namespace Gx
open Go Go.Proofs
section
variable {R:Type}
theorem Afi {N:Nat} {K:LA→O R} (hN:2000≤N):ZD N K=K (Aq 10):=by
 rw[fN];unfold li
 rw[A9 (by omega) hN,fq,ct,Jc,ct,MJ]
theorem Afj (d:Nat):((10 ^ d:Nat):Int)*10=((10 ^ (d+1):Nat):Int):=by rw[Nat.pow_succ,Int.natCast_mul];rfl
theorem uR {N b:Nat} {K:LA→O R} (e:fit (b+20) N):∀ (c d:Nat),d≤b→b - d<c→Kh N K (b:Int) c (d:Int) (Aq ((10 ^ d:Nat):Int))=K (Aq ((10 ^ b:Nat):Int)):=by
 have k:=e.1;have l:=e.2
 intro c
 induction c with
 | zero=>intro d _ h;omega
 | succ c f =>
  intro d m n
  have i:(Ac (10:Int).natAbs).length≤1:=A4 (by decide)
  have j:(Ac ((10 ^ d:Nat):Int).natAbs).length≤d+1:=by rw[Int.natAbs_natCast];exact A4 (KS d)
  rw[Kh];unfold Ye
  by_cases h:d<b
  ·rw[NR h,ct,Jc,ct,Afi (by omega),MJ,zD (e.le (by omega)),mo,ct,tb,wS (by omega),Afj]
   exact f (d+1) (by omega) (by omega)
  ·have:d=b:=by omega
   subst this
   rw[VC (by omega),cf,Jc,ct];rfl
theorem Aby {N b:Nat} {K:LA→O R} (c:fit (b+20) N):Ps N (b:Int) K=K (Aq ((10 ^ b:Nat):Int)):=by
 have d:=c.1
 rw[QL];unfold DD
 rw[A9 (by omega) (by omega),fq,ct]
 exact uR (R:=R) (c.le (by omega)) N 0 (by omega) (by omega)
theorem wd {c:Nat} {b:List UInt8} (h:b.length≤c):Dr c (48::b)=Dr c b:=by
 unfold Dr
 rw[List.length_cons,show c+1 - b.length=(c+1 - (b.length+1))+1 by omega,List.replicate_succ',List.append_assoc];rfl
theorem uS {N c:Nat} {z:Int} {e:Bool} {K:List UInt8→O R} (s:c≤1000000000):∀ (d:Nat) (b:List UInt8),b≠[]→b.length≤20000000000→c+1 - b.length<d→Ki N K (c:Int) d b e (Aq z)=K (Yd z (Adg c b)):=by
 intro d
 induction d with
 | zero=>intro b _ _ h;omega
 | succ d k =>
  intro b m n t
  have i:=List.length_pos_iff.2 m
  rw[Ki];unfold Yf
  by_cases h:b.length≤c
  ·rw[show decide ((((b.length):Nat):Int)≤(c:Int))=true by simp;omega,ct,Sm (by omega),ct,show([48]++b:List UInt8)=48::b from rfl]
   rw[k (48::b) (by simp) (by rw[List.length_cons];omega) (by rw[List.length_cons];omega)]
   unfold Adg
   rw[if_neg (by omega),if_neg (by omega),wd h]
  ·have ep:Dr c b=b:=by unfold Dr;rw[show c+1 - b.length=0 by omega];rfl
   rw[show decide ((((b.length):Nat):Int)≤(c:Int))=false by simp;omega,cf]
   unfold Adg
   rw[ep]
   by_cases j:c=0
   ·subst j
    rw[show decide (((0:Nat):Int)>0)=false by decide,cf,if_pos rfl,zG]
    unfold Yd
    by_cases f:z<0
    ·rw[decide_eq_true f,ct,if_pos f,Sm (by omega),ct];rfl
    ·rw[decide_eq_false f,cf,if_neg f]
   ·have q:IntKind.wrap .i64 ((((b.length):Nat):Int) - (c:Int))=((b.length - c:Nat):Int):=by rw[i64 (by omega)];omega
    rw[show decide (((c:Nat):Int)>0)=true by simp;omega,ct,if_neg j,q]
    rw[show((decide ((0:Int)≤(0:Int)))&&((decide (0≤((b.length - c:Nat):Int)))&&((decide (((b.length - c:Nat):Int)≤(((b.length):Nat):Int)))&&(decide ((((b.length):Nat):Int)≤(((b.length):Nat):Int))))))=true by simp,ct]
    rw[Int.toNat_natCast,Sm (by rw[List.length_take];omega),ct]
    rw[show((decide (0≤((b.length - c:Nat):Int)))&&((decide (((b.length - c:Nat):Int)≤(((b.length):Nat):Int)))&&((decide ((((b.length):Nat):Int)≤(((b.length):Nat):Int)))&&(decide ((((b.length):Nat):Int)≤(((b.length):Nat):Int))))))=true by simp,ct]
    rw[List.take_of_length_le (l:=List.drop (b.length - c) b) (by rw[List.length_drop];omega)]
    rw[Sm (by rw[List.length_append,List.length_take,List.length_drop,List.length_singleton];omega),ct,zG]
    unfold Yd
    by_cases f:z<0
    ·rw[decide_eq_true f,ct,if_pos f,Sm (by rw[List.length_append,List.length_append,List.length_take,List.length_drop,List.length_singleton];omega),ct];rfl
    ·rw[decide_eq_false f,cf,if_neg f]
theorem Abz {N c:Nat} {z:Int} {u:Bool} {K:List UInt8→O R} (b:fit ((Ac z.natAbs).length+c+20) N):Pt N (Aq z) u (c:Int) K=K (pt z c):=by
 have e:=b.1;have f:=b.2
 have i:=Hx z.natAbs
 have d:∀ K:LA→O R,E3 N (Aq z) u K=K (Aq z):=fun K=>by
  rw[YG,Jd (Bp _ _ _) (b.le (by show(Ac z.natAbs).length≤_;omega)),B5];rfl
 rw[QN];unfold DE
 rw[Jc,ct,MJ,d,mo,ct,tb,zH,Kg (b.le (by omega))]
 exact uS (by omega) N (Fa z.natAbs) (Qz _) (by omega) (by omega)
theorem Ab0 {N:Nat} {k4:Int→LA→O R} {r0:List UInt8→Bool→O R} {c:Bool} {b d:LA} {e:Nat} {m L:Nat} (t:2≤m) (u:m≤9) {o:Int} (i:fit (L+20) N):∀ (f x:Nat),0<x→x<2 ^ f→(Ac x).length≤L→∃ r k,x=r*m ^ k∧¬ m∣r∧Bz N k4 r0 c b d e (f+1) (m:Int) o (Aq (x:Int))=k4 (IntKind.wrap .i64 (o+1)) (Aq (r:Int)):=by
 have F:=i.1;have G:=i.2
 have v:(Ac m).length≤1:=A4 (by omega)
 intro f
 induction f with
 | zero=>intro x y j;rw[Nat.pow_zero] at j;omega
 | succ f z =>
  intro x y j hL
  have A:(Ac (x:Int).natAbs).length≤L:=by rw[Int.natAbs_natCast];exact hL
  have front:Bz N k4 r0 c b d e (f+1+1) (m:Int) o (Aq (x:Int))=cond (decide ((x:Int)%(m:Int)=0)) (Bz N k4 r0 c b d e (f+1) (m:Int) o (Aq (x/m:Nat))) (k4 (IntKind.wrap .i64 (o+1)) (Aq (x:Int))):=by
   rw[Bz];unfold Rd
   rw[A9 (by omega) (by omega),Jc,ct,MJ,te (by omega) (i.le (by omega)),A9 (by omega) (by omega),YF (by omega) (i.le (by omega)),mo,tb];rfl
  rw[front]
  have l:=Nat.div_add_mod x m
  by_cases s:x%m=0
  ·have n:0<x/m:=by
    rcases Nat.eq_zero_or_pos (x/m) with h | h
    ·rw[h] at l;omega
    ·exact h
   have q:x/m<2 ^ f:=by
    rw[Nat.pow_succ] at j
    have:2*(x/m)≤m*(x/m):=Nat.mul_le_mul_right _ t
    omega
   obtain⟨r,k,B,C,D⟩:=z (x/m) n q (Nat.le_trans (Al (Nat.div_le_self _ _)) hL)
   refine⟨r,k+1,?_,C,?_⟩
   ·rw[Nat.pow_succ,←Nat.mul_assoc,←B,Nat.mul_comm];omega
   ·rw[show decide ((x:Int)%(m:Int)=0)=true by rw[decide_eq_true_eq,Xa,s];rfl,ct,D]
  ·refine⟨x,0,by simp,fun h=>s (Nat.mod_eq_zero_of_dvd h),?_⟩
   rw[show decide ((x:Int)%(m:Int)=0)=false by rw[decide_eq_false_iff_not,Xa];omega,cf]
theorem Acz (q:Rat) (t:Nat) (i:0<t):((q*(((t:Nat):Int):Rat)).den=1↔q.den∣t)∧(q.den∣t→(q*(((t:Nat):Int):Rat)).num=q.num*(t:Int)/(q.den:Int)):=by
 have j:=q.den_pos
 have b:=qh q
 have key:q.den∣t→q*(((t:Nat):Int):Rat)=((q.num*(t:Int)/(q.den:Int):Int):Rat):=by
  rintro⟨k,rfl⟩
  rw[Int.natCast_mul,←Int.mul_assoc,Int.mul_comm q.num,Int.mul_assoc,Int.mul_ediv_cancel_left _ (by omega),Rat.intCast_mul,Rat.intCast_mul,←Rat.mul_assoc]
  rw[show((q.den:Int):Rat)=(q.den:Rat) from rfl,b]
 refine⟨⟨fun h=>?_,fun h=>?_⟩,fun h=>?_⟩
 ·have c:=qh (q*(((t:Nat):Int):Rat))
  rw[h] at c
  have d:((q.num*(t:Int):Int):Rat)=(((q*(((t:Nat):Int):Rat)).num*(q.den:Int):Int):Rat):=by
   rw[Rat.intCast_mul,Rat.intCast_mul,←b,←c,show((q.den:Int):Rat)=(q.den:Rat) from rfl]
   have:((1:Nat):Rat)=1:=rfl
   rw[this]
   grind
  have e:=Rat.intCast_inj.1 d
  have f:q.den∣q.num.natAbs*t:=by
   have:=congrArg Int.natAbs e
   rw[Int.natAbs_mul,Int.natAbs_mul,Int.natAbs_natCast,Int.natAbs_natCast] at this
   rw[this];exact Nat.dvd_mul_left _ _
  exact(Nat.Coprime.symm q.reduced).dvd_of_dvd_mul_left f
 ·rw[key h,Rat.den_intCast]
 ·rw[key h,Rat.num_intCast]
theorem uT {N:Nat} {x:RatD} {o:Bool} {K:List UInt8→Bool→O R} {P:Nat} (n:x.ok) (s:x.q.den∣10 ^ P) (u:∀ p,x.q.den∣10 ^ p→P≤p) (f:fit (17*(x.m+P)+500) N) :
  ∀ (c p:Nat),p≤P→P - p<c→Dc N K o x.av c (p:Int)=K (pt (x.q.num*((10 ^ P:Nat):Int)/(x.q.den:Int)) P) true:=by
 have G:=f.1;have I:=f.2
 intro c
 induction c with
 | zero=>intro p _ h;omega
 | succ c v =>
  intro p L M
  have z:=Mr x n
  have A:=A4 (KS p)
  have B:qm ((((10 ^ p:Nat):Int):Rat))≤p+1:=by rw[bz,Int.natAbs_natCast];omega
  have C:=qf x.q (((10 ^ p:Nat):Int):Rat)
  have d:=Acz x.q (10 ^ p) (Nat.pow_pos (by omega))
  have k:∀ K:LA→O R,Ny N x.av o (cq (((10 ^ p:Nat):Int):Rat)) false K=K (cq (x.q*(((10 ^ p:Nat):Int):Rat))):=fun K=>by
   have:=SZ (R:=R) (N:=N) (x:=x) (y:=ZV (((10 ^ p:Nat):Int):Rat)) (o:=o) (o':=false) (K:=K) n (Kq _) (by rw[Wt];exact f.le (by omega))
   rw[Qm] at this;exact this
  rw[Dc];unfold Re
  rw[Is,ct,Aby (f.le (by omega)),qg (f.le (by rw[Int.natAbs_natCast];omega)),Dp,k,Aeq (f.le (by omega)),Afd,ct,Ade]
  have D:=fun K=>IN (R:=R) (N:=N) (a:=Ac (x.q*(((10 ^ p:Nat):Int):Rat)).den) (b:=[1]) (t:=false) (o:=false) (t':=false) (o':=true) (K:=K) rfl rfl (f.le (by have:=JO (x.q*(((10 ^ p:Nat):Int):Rat));omega))
  refine Eq.trans (D _) ?_
  by_cases j:x.q.den∣10 ^ p
  ·have hpP:p=P:=by have:=u p j;omega
   have i:=d.1.2 j
   have l:=d.2 j
   have F:=Xy (x.q*(((10 ^ p:Nat):Int):Rat))
   rw[i,decide_eq_true Hg,ct,Z2,ct,Pq,Abz (f.le (by omega)),l,hpP]
  ·have i:Ac (x.q*(((10 ^ p:Nat):Int):Rat)).den≠[1]:=by
    intro e
    have:=congrArg val e
    rw[Ad] at this
    exact j (d.1.1 (by simpa[val] using this))
   have hpP:p≠P:=by intro e;rw[e] at j;exact j s
   rw[decide_eq_false i,cf,wS (by omega)]
   exact v (p+1) (by omega) (by omega)
end
end Gx

namespace Gx
open Go Go.Proofs
section
variable {R:Type}
theorem xW {N r:Nat} {K:Int→O R} (b:fit ((Ac r).length+3) N):Ja N (Aq (r:Int)) false (Aq 1) false K=K ((r:Int) - 1).sign:=by
 have c:(Ac (1:Int).natAbs).length≤1:=A4 (by decide)
 exact Aba (b.le (by rw[Int.natAbs_natCast];omega))
theorem ZU {r:Nat} (h:0<r):((((r:Int) - 1).sign) != 0)=decide (r≠1):=by
 by_cases b:r=1
 ·subst b;rfl
 ·rw[decide_eq_true b,bne_iff_ne]
  intro e
  have:=Int.sign_eq_zero_iff_zero.1 e
  omega
theorem QR {N r:Nat} {o:Bool} {b d:LA} {e:Nat} {K:List UInt8→Bool→O R} (i:0<r) (f:fit ((Ac r).length+30) N) (c:Nat):Bd N K o b d e (c+1) 2 (Aq (r:Int))=cond (decide (r≠1)) (K [] false) (Dc N K o b N 0):=by
 have j:=f.1
 rw[Bd];unfold Lw
 rw[show decide ((2:Int)<2)=false by decide,cf,Jc,ct,MJ,A9 (by omega) (by omega),xW (f.le (by omega)),ZU i]
theorem nG {N x L:Nat} {o:Bool} {b d:LA} {e:Nat} {K:List UInt8→Bool→O R} (q:0<x) (i:x<2 ^ (N - 1)) (hL:(Ac x).length≤L) (j:fit (L+30) N) (f:Nat):∃ r k,x=r*5 ^ k∧¬ 5∣r∧Bd N K o b d e (f+2) 1 (Aq (x:Int))=cond (decide (r≠1)) (K [] false) (Dc N K o b N 0):=by
 have v:=j.1
 obtain⟨r,k,l,s,n⟩:=Ab0 (R:=R) (N:=N) (k4:=Bd N K o b d e (f+1)) (r0:=K) (c:=o) (b:=b) (d:=d) (e:=e) (m:=5) (L:=L) (by omega) (by omega) (o:=1) (j.le (by omega)) (N - 1) x q i hL
 have t:0<r:=by
  rcases Nat.eq_zero_or_pos r with h | h
  ·rw[h,Nat.zero_mul] at l;omega
  ·exact h
 have u:(Ac r).length≤L:=Nat.le_trans (Al (by rw[l];exact Nat.le_mul_of_pos_right r (Nat.pow_pos (by omega)))) hL
 refine⟨r,k,l,s,?_⟩
 rw[Bd];unfold Lw
 rw[show decide ((1:Int)<2)=true by decide,ct,show Ap (1:Int) 2=true by rfl,ct]
 rw[show N - 1+1=N by omega,show IntKind.wrap .i64 ((1:Int)+1)=2 by rw[i64 (by omega)];rfl] at n
 exact n.trans (QR t (j.le (by omega)) f)
theorem nH {N:Nat} {x:RatD} {o:Bool} {K:List UInt8→Bool→O R} (S:x.ok) (u:fit (20*x.m+300) N) :
    ∃ r k C,x.q.den=r*5 ^ C*2 ^ k∧¬ 2∣r∧¬ 5∣r∧Fu N x.av o K=cond (decide (r≠1)) (K [] false) (Dc N K o x.av N 0):=by
  have f1:=u.1;have f2:=u.2
  have Y:=Mr x S
  have hqd:=JO x.q
  have z:=x.q.den_pos
  generalize hL:x.m+1=L at *
  have hdL:(Ac x.q.den).length≤L:=by omega
  have A:∀ v:Nat,v≤x.q.den→v<2 ^ (N - 1):=fun v hv=>Nat.lt_of_le_of_lt hv (Nat.lt_of_lt_of_le (ZT hdL) (Nat.pow_le_pow_right (by omega) (by omega)))
  have open0:Fu N x.av o K=A6 N K o x.av (Aa (Ac x.q.den)) (Ac x.q.den).length N 0:=by
    rw[FZ];unfold Sn
    rw[Is,ct,Dp,Cy S (u.le (by omega)),Ade]
  have T:([(.bool false),(.imm (Aa (Ac x.q.den)) (Ac x.q.den).length 1 false false)]:LA)=Aq (x.q.den:Int):=by rw[Ur];rfl
  have step : ∀ (m n : Nat) (l : Int), 2 ≤ m → m ≤ 9 → 0 ≤ l → l < 2 → Gb .i64 (List.drop (0 + ((l.toNat) * 1)) [(.int .i64 2), (.int .i64 5)]) (fun al => (fun q r => Cd N (A6 N K o x.av (Aa (Ac x.q.den)) (Ac x.q.den).length n) (fun f g => Bd N K o x.av (Aa (Ac x.q.den)) (Ac x.q.den).length n f g) K o x.av (Aa (Ac x.q.den)) (Ac x.q.den).length N q r) al l) = Cd N (A6 N K o x.av (Aa (Ac x.q.den)) (Ac x.q.den).length n) (fun f g => Bd N K o x.av (Aa (Ac x.q.den)) (Ac x.q.den).length n f g) K o x.av (Aa (Ac x.q.den)) (Ac x.q.den).length N (m : Int) l →
      (¬ m∣x.q.den∧A6 N K o x.av (Aa (Ac x.q.den)) (Ac x.q.den).length (n+1) l=A6 N K o x.av (Aa (Ac x.q.den)) (Ac x.q.den).length n (l+1)) ∨
      (∃ r k,x.q.den=r*m ^ k∧¬ m∣r∧A6 N K o x.av (Aa (Ac x.q.den)) (Ac x.q.den).length (n+1) l=Bd N K o x.av (Aa (Ac x.q.den)) (Ac x.q.den).length n (l+1) (Aq (r:Int))):=by
    intro m n l m2 m9 l0 l2 D
    have hml:(Ac m).length≤1:=A4 (by omega)
    have U:IntKind.wrap .i64 (l+1)=l+1:=i64 (by omega)
    have hdl:(Ac (x.q.den:Int).natAbs).length≤L:=by rw[Int.natAbs_natCast];exact hdL
    have front:A6 N K o x.av (Aa (Ac x.q.den)) (Ac x.q.den).length (n+1) l=cond (decide ((x.q.den:Int)%(m:Int)=0)) (Bz N (Bd N K o x.av (Aa (Ac x.q.den)) (Ac x.q.den).length n) K o x.av (Aa (Ac x.q.den)) (Ac x.q.den).length (N - 1) (m:Int) l (Aq ((x.q.den/m:Nat):Int))) (A6 N K o x.av (Aa (Ac x.q.den)) (Ac x.q.den).length n (l+1)):=by
      rw[A6];unfold Lx
      rw[decide_eq_true l2,ct,show Ap l 2=true by unfold Ap;simp;omega,ct]
      refine D.trans ?_
      obtain⟨N',hN'⟩:∃ N',N=N'+1:=⟨N - 1,by omega⟩
      have un:∀ y k4,Cd N y k4 K o x.av (Aa (Ac x.q.den)) (Ac x.q.den).length N (m:Int) l=Hy N y k4 K o x.av (Aa (Ac x.q.den)) (Ac x.q.den).length (Cd N y k4 K o x.av (Aa (Ac x.q.den)) (Ac x.q.den).length (N - 1)) (fun m o' i=>Bz N k4 K o x.av (Aa (Ac x.q.den)) (Ac x.q.den).length (N - 1) m o' i) (m:Int) l:=by
        intro y k4
        have gen:∀ j,Cd N y k4 K o x.av (Aa (Ac x.q.den)) (Ac x.q.den).length (j+1) (m:Int) l=Hy N y k4 K o x.av (Aa (Ac x.q.den)) (Ac x.q.den).length (Cd N y k4 K o x.av (Aa (Ac x.q.den)) (Ac x.q.den).length j) (fun m o' i=>Bz N k4 K o x.av (Aa (Ac x.q.den)) (Ac x.q.den).length j m o' i) (m:Int) l:=fun j=>by rw[Cd]
        have:=gen (N - 1)
        rw[show N - 1+1=N by omega] at this
        exact this
      rw[un];unfold Hy
      rw[A9 (by omega) (by omega),T,te (by omega) (u.le (by omega)),A9 (by omega) (by omega),YF (by omega) (u.le (by omega)),fq,U];rfl
    have F:=Nat.div_add_mod x.q.den m
    by_cases V:x.q.den%m=0
    · right
      have G:0<x.q.den/m:=by
        rcases Nat.eq_zero_or_pos (x.q.den/m) with h | h
        · rw[h] at F;omega
        · exact h
      have B:=Nat.div_le_self x.q.den m
      have I:x.q.den/m<2 ^ (N - 2):=Nat.lt_of_le_of_lt B (Nat.lt_of_lt_of_le (ZT hdL) (Nat.pow_le_pow_right (by omega) (by omega)))
      obtain⟨r,k,e1,e2,X⟩:=Ab0 (R:=R) (N:=N) (k4:=Bd N K o x.av (Aa (Ac x.q.den)) (Ac x.q.den).length n) (r0:=K) (c:=o) (b:=x.av) (d:=Aa (Ac x.q.den)) (e:=(Ac x.q.den).length) (m:=m) (L:=L) m2 m9 (o:=l) (u.le (by omega)) (N - 2) (x.q.den/m) G I (Nat.le_trans (Al B) hdL)
      refine⟨r,k+1,?_,e2,?_⟩
      · rw[Nat.pow_succ,←Nat.mul_assoc,←e1,Nat.mul_comm];omega
      · rw[front,show decide ((x.q.den:Int)%(m:Int)=0)=true by rw[decide_eq_true_eq,Xa,V];rfl,ct]
        rw[show N - 2+1=N - 1 by omega,U] at X
        exact X
    · left
      refine⟨fun h=>V (Nat.mod_eq_zero_of_dvd h),?_⟩
      rw[front,show decide ((x.q.den:Int)%(m:Int)=0)=false by rw[decide_eq_false_iff_not,Xa];omega,cf]
  obtain⟨n,hn⟩:∃ n,N=n+5:=⟨N - 5,by omega⟩
  have hN5 : A6 N K o x.av (Aa (Ac x.q.den)) (Ac x.q.den).length N 0 = A6 N K o x.av (Aa (Ac x.q.den)) (Ac x.q.den).length (n + 4 + 1) 0 :=
     congrArg (fun t=>A6 N K o x.av (Aa (Ac x.q.den)) (Ac x.q.den).length t 0) hn
  rw[open0,hN5]
  rcases step 2 (n+4) 0 (by omega) (by omega) (by omega) (by omega) rfl with⟨s1,s2⟩ | ⟨r,k,s1,s2,s3⟩
  · rw[s2]
    rcases step 5 (n+3) 1 (by omega) (by omega) (by omega) (by omega) rfl with⟨t1,t2⟩ | ⟨r,k,t1,t2,t3⟩
    · refine⟨x.q.den,0,0,by simp,s1,t1,?_⟩
      refine Eq.trans t2 ?_
      rw[show((1:Int)+1)=2 by rfl,A6];unfold Lx
      rw[show decide ((2:Int)<2)=false by decide,cf,A9 (by omega) (by omega),T,xW (u.le (by omega)),ZU z]
    · have M : 0 < r := by
        rcases Nat.eq_zero_or_pos r with h | h
        · rw[h,Nat.zero_mul] at t1;omega
        · exact h
      have s:r≤x.q.den:=by rw[t1];exact Nat.le_mul_of_pos_right r (Nat.pow_pos (by omega))
      refine⟨r,0,k,by rw[Nat.pow_zero,Nat.mul_one];exact t1,fun h=>s1 (by rw[t1];exact Nat.dvd_trans h (Nat.dvd_mul_right _ _)),t2,?_⟩
      refine Eq.trans t3 ?_
      exact QR M (u.le (by have:=Al s;omega)) (n+2)
  · have M : 0 < r := by
      rcases Nat.eq_zero_or_pos r with h | h
      · rw[h,Nat.zero_mul] at s1;omega
      · exact h
    have s:r≤x.q.den:=by rw[s1];exact Nat.le_mul_of_pos_right r (Nat.pow_pos (by omega))
    obtain⟨r2,C,u1,u2,u3⟩:=nG (R:=R) (N:=N) (x:=r) (L:=L) (o:=o) (b:=x.av) (d:=Aa (Ac x.q.den)) (e:=(Ac x.q.den).length) (K:=K) M (A r s) (Nat.le_trans (Al s) hdL) (u.le (by omega)) (n+2)
    refine⟨r2,k,C,by rw[←u1];exact s1,fun h=>s2 (by rw[u1];exact Nat.dvd_trans h (Nat.dvd_mul_right _ _)),u2,?_⟩
    rw[s3]
    exact u3
end
end Gx

namespace Gx
open Go Go.Proofs
section
variable {R:Type}
theorem nI {N:Nat} {x:RatD} {o:Bool} (f:x.ok) (c:fit (600*x.m+10000) N):∃ (t:List UInt8) (b:Bool),(∀ K:List UInt8→Bool→O R,Eb N x.av o K=K t b)∧(∀ K:List UInt8→Bool→O R,Fu N x.av o K=K t b):=by
 have n:=fun K:List UInt8→Bool→O R=>nH (R:=R) (N:=N) (x:=x) (o:=o) (K:=K) f (c.le (by omega))
 rcases DI (R:=R) (N:=N) (x:=x) (o:=o) f (c.le (by omega)) with⟨P,d,v,y,i⟩ | ⟨d,i⟩
 ·refine⟨_,true,i,fun K=>?_⟩
  obtain⟨r,k,q,e,s,u,j⟩:=n K
  have l:r=1:=Classical.byContradiction fun h=>fS s u h (by rw[e,Nat.mul_assoc];exact Nat.dvd_mul_right _ _) d
  rw[j,l,show decide ((1:Nat)≠1)=false by decide,cf]
  exact uT (R:=R) (N:=N) (x:=x) (o:=o) (K:=K) (P:=P) f d v (c.le (by omega)) N 0 (by omega) (by have:=c.1;omega)
 ·refine⟨[],false,i,fun K=>?_⟩
  obtain⟨r,k,q,e,s,u,j⟩:=n K
  have l:r≠1:=by
   intro h
   rw[h,Nat.one_mul] at e
   exact d (max k q) (by rw[e];exact rI.2 ⟨Nat.le_max_left _ _,Nat.le_max_right _ _⟩)
  rw[j,decide_eq_true l,ct]
theorem wg {N:Nat} {x:LA} {o:Bool} {c:Int} (h:c<0∨100<c) {K:List UInt8→Int→O R}:Kj N x o c K=K [] 3:=by
 rw[Yg];unfold DF
 by_cases b:c<0
 ·rw[decide_eq_true b];rfl
 ·rw[decide_eq_false b,show(false==false)=true by rfl,ct,decide_eq_true (show c>100 by omega)];rfl
theorem uU {N:Nat} {x:RatD} {o:Bool} {c:Nat} {K:List UInt8→Int→O R} (e:x.ok) (n:c≤100) (b:fit (100*x.m+20000) N):Kj N x.av o (c:Int) K=K (pt (zY (((10 ^ c:Nat):Rat)*x.q)) c) 0:=by
 have s:=b.1;have t:=b.2
 have f:=A4 (KS c)
 have i:qm ((((10 ^ c:Nat):Int):Rat))≤c+1:=by rw[bz,Int.natAbs_natCast];omega
 have j:=qf x.q (((10 ^ c:Nat):Int):Rat)
 have k:=Mr x e
 have d:∀ K:LA→O R,Ny N x.av o (cq (((10 ^ c:Nat):Int):Rat)) false K=K (cq (x.q*(((10 ^ c:Nat):Int):Rat))):=fun K=>by
  have:=SZ (R:=R) (N:=N) (x:=x) (y:=ZV (((10 ^ c:Nat):Int):Rat)) (o:=o) (o':=false) (K:=K) e (Kq _) (by rw[Wt];exact b.le (by omega))
  rw[Qm] at this;exact this
 have u:(Ac (zY (x.q*(((10 ^ c:Nat):Int):Rat))).natAbs).length≤qm (x.q*(((10 ^ c:Nat):Int):Rat))+1:=by
  refine A4 ?_
  have v:=Xw (x.q*(((10 ^ c:Nat):Int):Rat))
  have z:=JN (x.q*(((10 ^ c:Nat):Int):Rat)).num (x.q*(((10 ^ c:Nat):Int):Rat)).den (x.q*(((10 ^ c:Nat):Int):Rat)).den_pos
  rw[Nat.pow_succ]
  unfold zY mq
  split<;>omega
 have l:x.q*(((10 ^ c:Nat):Int):Rat)=((10 ^ c:Nat):Rat)*x.q:=by rw[Rat.mul_comm];rfl
 rw[Yg];unfold DF
 rw[decide_eq_false (by omega),show(false==false)=true by rfl,ct,decide_eq_false (show ¬ (c:Int)>100 by omega),show cond false true false=false by rfl,cf,Is,ct,Aby (b.le (by omega)),qg (b.le (by rw[Int.natAbs_natCast];omega)),Dp,d,ti (b.le (by omega)),Abz (b.le (by omega)),l]
theorem wh {N:Nat} {x:RatD} {o:Bool} (d:x.ok) (c:Int) (e:fit (600*x.m+30000) N):∃ (t:List UInt8) (b:Int),(∀ K:List UInt8→Int→O R,Hw N x.av o c K=K t b)∧(∀ K:List UInt8→Int→O R,Kj N x.av o c K=K t b):=by
 by_cases h:c<0∨100<c
 ·exact⟨[],3,fun K=>zT h,fun K=>wg h⟩
 ·obtain⟨n,rfl⟩:∃ n:Nat,c=(n:Int):=⟨c.toNat,by omega⟩
  exact⟨_,0,fun K=>mB d (by omega) (e.le (by omega)),fun K=>uU d (by omega) (e.le (by omega))⟩
theorem nK {N:Nat} {n2:Bool} {lb lc:List Nat} {u v:Int} (B:Ae lb) (C:Ae lc) {K:Bool→O R} (e:fit (600*(lb.length+lc.length)+40000) N) :
  Dj N n2 (Aa lb) lb.length false false (Aa lc) lc.length false false u v K=K true:=by
 have G:=e.1
 let x:RatD:=⟨n2,.of lb false false,.of lc false false⟩
 have q:x.ok:=⟨B,C⟩
 have D:x.m≤lb.length+lc.length:=Nat.max_le.2 ⟨by show lb.length≤_;omega,by show lc.length≤_;omega⟩
 have f:∀ K:Bool→O R,Cc N K=K true:=fun K=>Vc (e.le (by omega))
 have d:fit (600*x.m+30000) N:=e.le (Nat.add_le_add (Nat.mul_le_mul_left 600 D) (by decide))
 obtain⟨t,b,t1,t2⟩:=nI (R:=R) (N:=N) (x:=x) (o:=(false||(false||false))) q (d.le (Nat.add_le_add (Nat.le_refl _) (by decide)))
 have i:∀ K:List UInt8→Bool→O R,Eb N [(.bool n2),(.imm (Aa lb) lb.length 1 false false),(.imm (Aa lc) lc.length 1 false false)] (false||(false||false)) K=K t b:=t1
 have j:∀ K:List UInt8→Bool→O R,Fu N [(.bool n2),(.imm (Aa lb) lb.length 1 false false),(.imm (Aa lc) lc.length 1 false false)] (false||(false||false)) K=K t b:=t2
 have fx:∀ (w:Int) (A:O R),Hw N [(.bool n2),(.imm (Aa lb) lb.length 1 false false),(.imm (Aa lc) lc.length 1 false false)] (false||(false||false)) w (fun x y=>(Kj N [(.bool n2),(.imm (Aa lb) lb.length 1 false false),(.imm (Aa lc) lc.length 1 false false)] (false||(false||false)) w (fun z aa=>(cond ((!(x==z))==false) (cond (cond false true (y != aa)) (K false) A) (K false)))))=A:=by
  intro w A
  obtain⟨s,c,s1,s2⟩:=wh (R:=R) (N:=N) (x:=x) (o:=(false||(false||false))) q w d
  have k:∀ K:List UInt8→Int→O R,Hw N [(.bool n2),(.imm (Aa lb) lb.length 1 false false),(.imm (Aa lc) lc.length 1 false false)] (false||(false||false)) w K=K s c:=s1
  have l:∀ K:List UInt8→Int→O R,Kj N [(.bool n2),(.imm (Aa lb) lb.length 1 false false),(.imm (Aa lc) lc.length 1 false false)] (false||(false||false)) w K=K s c:=s2
  rw[k,l,show(!(s==s))=false by simp,show(c != c)=false by simp];rfl
 obtain⟨n,F⟩:∃ n,N=n+3:=⟨N - 3,by omega⟩
 rw[Kl];unfold Ej
 rw[i,j]
 have un:∀ m o w,Bb N K t b t b n2 (Aa lb) lb.length false false (Aa lc) lc.length false false (m+1) o w=Bs N K t b t b n2 (Aa lb) lb.length false false (Aa lc) lc.length false false (Bb N K t b t b n2 (Aa lb) lb.length false false (Aa lc) lc.length false false m) o w:=fun _ _ _=>by rw[Bb]
 have go:∀ m,Bb N K t b t b n2 (Aa lb) lb.length false false (Aa lc) lc.length false false (m+3) 0 [(.int .i64 u),(.int .i64 (IntKind.wrap .i64 v))]=K true:=by
  intro m
  rw[un];unfold Bs
  rw[show decide ((0:Int)<2)=true by decide,ct,show Ap (0:Int) 2=true by rfl,ct]
  refine(fx u _).trans ?_
  rw[show IntKind.wrap .i64 ((0:Int)+1)=1 by rw[i64 (by omega)];rfl,un];unfold Bs
  rw[show decide ((1:Int)<2)=true by decide,ct,show Ap (1:Int) 2=true by rfl,ct]
  refine(fx (IntKind.wrap .i64 v) _).trans ?_
  rw[show IntKind.wrap .i64 ((1:Int)+1)=2 by rw[i64 (by omega)];rfl,un];unfold Bs
  rw[show decide ((2:Int)<2)=false by decide,cf,f,show(true==true)=true by rfl,ct,show((cond true (t==t) false)==true)=true by simp,ct,show cond true (b==b) false=true by simp]
 have:=go n
 rw[←F] at this
 exact this
end
end Gx
