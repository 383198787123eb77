/- A part of the proof: what it holds is said by each theorem. -/
import Derived.Laws.BitsLemmas
import Derived.Laws.RangeAny
import Derived.Laws.RangeString
import Derived.Lib.AtoiAllCases
import Derived.Lib.IndexMore
import Derived.Test.YtjmfofdghmlldaaGreatDoorP3
set_option linter.unusedVariables false
set_option linter.defProp false
set_option linter.unusedSimpArgs false
namespace Gx
open Go Go.Proofs
section
variable {R:Type}
inductive LS where
 | nil
 | of (l:List Nat) (t o:Bool)
def LS.l:LS→List Nat
 | .nil=>[]
 | .of l _ _=>l
def LS.av:LS→AV
 | .nil=>.nsl
 | .of l t o=>.imm (Ar l) l.length 1 t o
theorem A7m {s:LS} {r:LA} {f:LA→Nat→O R}:B4 1 (s.av::r) f=f (Ar s.l) s.l.length:=by
 cases s<;>simp[B4,LS.av,LS.l,A29,Ar]
theorem A8l {b:Bool} {r:LA} {f:Bool→O R}:aT (.bool b::r) f=f b:=by simp[aT,asBool]
def Ur (neg:Bool) (s:LS):LA:=[.bool neg,s.av]
def Cw (neg:Bool) (s:LS):Int:=if neg then -(val s.l:Int) else (val s.l:Int)
theorem Uj (neg:Bool) (s:LS):(Cw neg s).natAbs=val s.l:=by unfold Cw;cases neg<;>simp
theorem ER {neg:Bool} {s:LS} {f:Bool→O R}:aT (Ur neg s) f=f neg:=A8l
theorem QW {neg:Bool} {s:LS} {f:LA→Nat→O R}:B4 1 (List.drop 1 (Ur neg s)) f=f (Ar s.l) s.l.length:=by rw[Ur,List.drop_succ_cons,List.drop_zero,A7m]
theorem Qf {N:Nat} {c:Bool} {a:Nat} {b:LA} {K:Bool→O R}:Lg N c a b K=K (c&&decide (0<a)):=by
 rw[iR];unfold lS
 cases c<;>simp
theorem FO {z:Int} {c:Bool} {m:Nat} (h:z=if c then -(m:Int) else (m:Int)):(c&&decide (0<(A9 m).length))=decide (z<0)∧z.natAbs=m:=by
 have d:z.natAbs=m:=by rw[h];cases c<;>simp
 refine⟨?_,d⟩
 by_cases h0:m=0
 ·subst h0;rw[h,Hf];cases c<;>simp
 ·have:0<(A9 m).length:=by
   rcases Nat.eq_zero_or_pos (A9 m).length with b | b
   ·exact absurd (Ei.1 b) h0
   ·exact b
  rw[h];cases c<;>simp[this]<;>omega
theorem Y7 {N:Nat} {v:Int} (f:-9223372036854775808≤v∧v≤9223372036854775807) (hN:4≤N):∃ S,Au S∧val S=v.natAbs∧∀ K:Bool→Nat→LA→O R,Mk N v K=K (decide (v<0)) (A9 v.natAbs).length (Ar S):=by
 have d:v.natAbs<18446744073709551616:=by omega
 obtain⟨S,s1,s2,c⟩:=Ayn (R:=R) (N:=N) d hN
 refine⟨S,s1,s2,fun K=>?_⟩
 rw[aW];unfold aV
 by_cases h:v<0
 ·have e:IntKind.wrap .u64 ((0:Int) - IntKind.wrap .u64 v)=(v.natAbs:Int):=by rw[x8,x8];omega
  rw[decide_eq_true h,ct,e,c,Qf]
  have h0:v.natAbs≠0:=by omega
  have:0<(A9 v.natAbs).length:=by
   rcases Nat.eq_zero_or_pos (A9 v.natAbs).length with b | b
   ·exact absurd (Ei.1 b) h0
   ·exact b
  simp[this]
 ·have e:IntKind.wrap .u64 v=(v.natAbs:Int):=by rw[x8];omega
  rw[decide_eq_false h,cf,e,c,Qf];rfl
theorem A2n {N:Nat} {n1 n2:Bool} {s1 s2:LS} {o1 o2:Bool} (d:Au s1.l) (e:Au s2.l) (f:fit (s1.l.length+s2.l.length) N):∃ S,Au S∧val S=(Cw n1 s1*Cw n2 s2).natAbs∧∀ K:Bool→Nat→LA→O R,SM N (Ur n1 s1) o1 (Ur n2 s2) o2 K=K (decide (Cw n1 s1*Cw n2 s2<0)) (A9 (Cw n1 s1*Cw n2 s2).natAbs).length (Ar S):=by
 obtain⟨S,a1,a2,a3⟩:=A4t (R:=R) (N:=N) (a:=s1.l) (b:=s2.l) (t:=false) (o:=o1) (t':=false) (o':=o2) rfl rfl d e f
 have i:Cw n1 s1*Cw n2 s2=if (!(n1==n2)) then -((val s1.l*val s2.l:Nat):Int) else ((val s1.l*val s2.l:Nat):Int):=by
  unfold Cw;cases n1<;>cases n2<;>simp[Int.mul_neg,Int.neg_mul]
 obtain⟨c1,c⟩:=FO i
 refine⟨S,a1,by rw[a2,c],fun K=>?_⟩
 rw[z6];unfold Al5
 rw[ER,ER,QW,QW,a3,Qf,c1,c]
theorem A2o {N:Nat} {n1 n2:Bool} {s1 s2:LS} {o1 o2:Bool} (f:Au s1.l) (i:Au s2.l) (j:fit (s1.l.length+s2.l.length+1) N):∃ S,Au S∧val S=(Cw n1 s1+Cw n2 s2).natAbs∧∀ K:Bool→Nat→LA→O R,zh N (Ur n1 s1) o1 (Ur n2 s2) o2 K=K (decide (Cw n1 s1+Cw n2 s2<0)) (A9 (Cw n1 s1+Cw n2 s2).natAbs).length (Ar S):=by
 by_cases hn:n1=n2
 ·subst hn
  obtain⟨S,a1,a2,a3⟩:=A4o (R:=R) (N:=N) (a:=s1.l) (b:=s2.l) (t:=false) (o:=o1) (t':=false) (o':=o2) rfl rfl f i j
  have d:Cw n1 s1+Cw n1 s2=if n1 then -((val s1.l+val s2.l:Nat):Int) else ((val s1.l+val s2.l:Nat):Int):=by
   unfold Cw;cases n1<;>simp;omega
  obtain⟨c1,c⟩:=FO d
  refine⟨S,a1,by rw[a2,c],fun K=>?_⟩
  rw[SN];unfold mz
  rw[ER,ER,show(n1==n1)=true by simp,ct,ER,QW,QW,a3,Qf,c1,c]
 ·have e:(n1==n2)=false:=by simp[hn]
  by_cases k:val s2.l≤val s1.l
  ·obtain⟨S,a1,a2,a3⟩:=Aud (R:=R) (N:=N) (a:=s1.l) (b:=s2.l) (t:=false) (o:=o1) (t':=false) (o':=o2) rfl rfl f i (j.le (by omega)) k
   have d:Cw n1 s1+Cw n2 s2=if n1 then -((val s1.l - val s2.l:Nat):Int) else ((val s1.l - val s2.l:Nat):Int):=by
    unfold Cw;cases n1<;>cases n2<;>simp at hn ⊢<;>omega
   obtain⟨c1,c⟩:=FO d
   refine⟨S,a1,by rw[a2,c],fun K=>?_⟩
   rw[SN];unfold mz
   rw[ER,ER,e,cf,QW,QW,a3,ct,ER,Qf,c1,c]
  ·obtain⟨S,a1,a2,a3⟩:=Aud (R:=R) (N:=N) (a:=s2.l) (b:=s1.l) (t:=false) (o:=o2) (t':=false) (o':=o1) rfl rfl i f (j.le (by omega)) (by omega)
   have d:Cw n1 s1+Cw n2 s2=if n2 then -((val s2.l - val s1.l:Nat):Int) else ((val s2.l - val s1.l:Nat):Int):=by
    unfold Cw;cases n1<;>cases n2<;>simp at hn ⊢<;>omega
   obtain⟨c1,c⟩:=FO d
   refine⟨S,a1,by rw[a2,c],fun K=>?_⟩
   rw[SN];unfold mz
   rw[ER,ER,e,cf,QW,QW,A4p rfl rfl f i (j.le (by omega)) (by omega),cf,QW,QW,a3,ER,Qf,c1,c]
end
end Gx

namespace Gx
open Go Go.Proofs
section
variable {R:Type}
structure RatD where
 neg:Bool
 ns:LS
 ds:LS
def RatD.av (x:RatD):LA:=[.bool x.neg,x.ns.av,x.ds.av]
theorem Aug (n:Bool) (s:LS):Nat.ble 2 (List.length (Ur n s))=true:=rfl
theorem A6z (n:Bool) (s:LS):List.take 2 (Ur n s)=Ur n s:=rfl
theorem A41:([.int .u32 1]:LA)=Ar [1]:=rfl
theorem gS:A9 1=[1]:=by rw[IT (by omega)];simp[Hf]
theorem Ny {v:Nat} {S:List Nat} (b:Au S) (c:val S=v):List.take ((A9 v).length*1) (Ar S)=Ar (A9 v):=by rw[←c,A2f b]
theorem A6c (neg:Bool) (l:List Nat) (t o:Bool):([.bool neg,.imm (Ar l) l.length 1 t o]:LA)=Ur neg (.of l t o):=rfl
theorem qA {z:Int} {t o:Bool}:Cw (decide (z<0)) (.of (A9 z.natAbs) t o)=z:=by
 unfold Cw LS.l;rw[Av]
 by_cases h:z<0
 ·rw[if_pos (by simpa using h)];omega
 ·rw[if_neg (by simpa using h)];omega
end
end Gx

namespace Gx
open Go Go.Proofs
section
variable {R:Type}
def Jo (z:Int):LA:=Ur (decide (z<0)) (.of (A9 z.natAbs) false false)
theorem A0l (z:Int) (K:LA→O R):(cond ((Nat.beq 0 0)&&((Nat.beq (List.length (Jo z)) 2)&&(Nat.beq 2 2))) (cond (Nat.ble 2 (List.length (Jo z))) (K (List.take 2 (Jo z))) none) none)=K (Jo z):=rfl
theorem A89 (z:Int):List.take 2 (Jo z)=Jo z:=rfl
theorem A8m (z:Int):Nat.ble 2 (List.length (Jo z))=true:=rfl
theorem A9a (z:Int):Nat.beq (List.length (Jo z)) 2=true:=rfl
theorem A7n (v:Nat):List.take ((A9 v).length*1) (Ar (A9 v))=Ar (A9 v):=Ny (At _) (Av v)
theorem Xy {N:Nat} {neg:Bool} {l:List Nat} {n:Nat} {t o:Bool} {K:LA→O R} (hn:n=l.length) (b:Au l) (d:fit l.length N):Iq N neg (Ar l) n t o K=K (Jo (if neg then -(val l:Int) else (val l:Int))):=by
 obtain⟨c1,e⟩:=FO (z:=if neg then -(val l:Int) else (val l:Int)) (c:=neg) (m:=val l) rfl
 rw[nF];unfold rq
 rw[Ep hn b d,A7n]
 unfold Jo
 rw[←c1,e]
 cases neg
 ·rfl
 ·rw[show((true:Bool)==true)=true by rfl,ct,A7i];simp[Ur,LS.av]
theorem kQ {N:Nat} {v:Int} {K:LA→O R} (c:-9223372036854775808≤v∧v≤9223372036854775807) (hN:2000≤N):L7 N v K=K (Jo v):=by
 have b:v.natAbs<18446744073709551616:=by omega
 have d:=y5 b
 rw[VE];unfold SP
 by_cases h:v<0
 ·have e:IntKind.wrap .u64 (IntKind.wrap .u64 (IntKind.wrap .i64 ((0:Int) - IntKind.wrap .i64 (v+1)))+1)=(v.natAbs:Int):=by
   rw[i64 (a:=v+1) (by omega),i64 (by omega),x8,x8];omega
  rw[decide_eq_true h,ct,e,LV b (by omega),A7n,Xy rfl (At _) ⟨by omega,by omega⟩,Av]
  have:(if true=true then -(v.natAbs:Int) else (v.natAbs:Int))=v:=by rw[if_pos rfl];omega
  rw[this];exact A0l _ _
 ·have e:IntKind.wrap .u64 v=(v.natAbs:Int):=by rw[x8];omega
  rw[decide_eq_false h,cf,e,LV b (by omega),A7n,Xy rfl (At _) ⟨by omega,by omega⟩,Av]
  have:(if false=true then -(v.natAbs:Int) else (v.natAbs:Int))=v:=by rw[if_neg (by decide)];omega
  rw[this];exact A0l _ _
theorem lz {N:Nat} {n:Bool} {s:LS} {o:Bool} {K:LA→O R} (hs:Au s.l) (b:fit s.l.length N):GL N (Ur n s) o K=K (Jo (Cw n s)):=by
 rw[nH];unfold rs
 rw[ER,QW,Xy rfl hs b];exact A0l _ _
theorem Ayq {N:Nat} {n:Bool} {s:LS} {o:Bool} {K:Int→O R} (hs:Au s.l) (b:fit s.l.length N):bB N (Ur n s) o K=K (Cw n s).sign:=by
 rw[nK];unfold rt
 rw[Aug,ct,A6z,lz hs b,A9a,show((true&&(true&&(!false))))=true by rfl,ct]
 have e:setCells (Ur n s) 0 (Jo (Cw n s))=Jo (Cw n s):=rfl
 rw[e]
 generalize Cw n s=z
 unfold Jo
 rw[ER]
 rcases Int.lt_trichotomy z 0 with h | h | h
 ·rw[decide_eq_true h,ct,Int.sign_eq_neg_one_of_neg h]
 ·subst h;rfl
 ·rw[decide_eq_false (by omega),cf,QW]
  have:(A9 z.natAbs).length≠0:=fun c=>by have:=Ei.1 c;omega
  simp only[LS.l]
  rw[A6y this,cf,Int.sign_eq_one_of_pos h]
theorem A2p {N:Nat} {n1 n2:Bool} {s1 s2:LS} {o1 o2:Bool} {K:LA→O R} (b:Au s1.l) (c:Au s2.l) (d:fit (3*(s1.l.length+s2.l.length)+4) N):nY N (Ur n1 s1) o1 (Ur n2 s2) o2 K=K (Jo ((Nat.gcd (Cw n1 s1).natAbs (Cw n2 s2).natAbs:Nat):Int)):=by
 have e:(A9 (Nat.gcd (val s1.l) (val s2.l))).length≤s1.l.length+s2.l.length:=by
  rcases Nat.eq_zero_or_pos (val s1.l) with h | h
  ·rw[h,Nat.gcd_zero_left];have:=(Dz c).2;omega
  ·have:=Gg (Nat.gcd_le_left (val s2.l) h);have:=(Dz b).2;omega
 rw[uV];unfold Aas
 rw[QW,QW,A2m rfl rfl b c d,A7n,Xy rfl (At _) (d.le (by omega)),Av,Uj,Uj];exact A0l _ _
theorem ef {N:Nat} {n1:Bool} {s1:LS} {g:Nat} {o1 o2:Bool} {K:LA→LA→Bool→O R} (e:Au s1.l) (j:0<g) (i:g∣val s1.l) (d:fit (s1.l.length+2*(A9 g).length+4) N):Xb N (Ur n1 s1) o1 (Jo (g:Int)) o2 K=K (Jo (Cw n1 s1/(g:Int))) (Jo 0) true:=by
 have b:Jo (g:Int)=Ur false (.of (A9 g) false false):=by
  unfold Jo;rw[decide_eq_false (by omega),Int.natAbs_natCast]
 have hq:(A9 (val s1.l/g)).length≤s1.l.length:=Nat.le_trans (Gg (Nat.div_le_self _ _)) (Dz e).2
 rw[b,bM];unfold bL
 rw[QW,QW,show(LS.of (A9 g) false false).l=A9 g by rfl]
 rw[UM rfl rfl e (At _) (by rw[Av];omega) d,Av,Nat.mod_eq_zero_of_dvd i,show(!true)=false by rfl,cf,ER,ER,A7n,Xy rfl (At _) (d.le (by omega)),ER,A7n,Xy rfl (At _) (d.le (by simp[Hf])),Av,Av]
 have k:(if n1=true then -((0:Nat):Int) else ((0:Nat):Int))=0:=by cases n1<;>rfl
 have e1:(if (!(n1==false))=true then -((val s1.l/g:Nat):Int) else ((val s1.l/g:Nat):Int))=Cw n1 s1/(g:Int):=by
  obtain⟨c,b⟩:=i
  have m:val s1.l/g=c:=by rw[b,Nat.mul_div_cancel_left _ j]
  rw[m];unfold Cw;rw[b]
  cases n1
  ·simp;rw[Int.mul_ediv_cancel_left _ (by omega)]
  ·simp only[Bool.true_beq,Bool.not_false,if_true]
   rw[show -((g*c:Nat):Int)=(g:Int)*(-(c:Int)) by rw[Int.mul_neg];simp,Int.mul_ediv_cancel_left _ (by omega)]
 rw[k,e1]
 generalize Cw n1 s1/(g:Int)=q
 have n:∀ (f:Bool→O R),aT (Jo 0) f=f false:=fun f=>ER
 rw[show((Nat.beq 0 0)&&((Nat.beq (List.length (Jo q)) 2)&&(Nat.beq 2 2)))=true by rfl,ct,show((Nat.beq 0 0)&&((Nat.beq (List.length (Jo 0)) 2)&&(Nat.beq 2 2)))=true by rfl,ct,n,cf]
 rfl
end
end Gx

namespace Gx
open Go Go.Proofs
section
variable {R:Type}
def A9l (q:Rat):RatD:=⟨decide (q.num<0),.of (A9 q.num.natAbs) false false,.of (A9 q.den) false false⟩
def cq (q:Rat):LA:=(A9l q).av
theorem A60 (q:Rat) (K:LA→O R):(cond ((Nat.beq 0 0)&&((Nat.beq (List.length (cq q)) 3)&&(Nat.beq 3 3))) (cond (Nat.ble 3 (List.length (cq q))) (K (List.take 3 (cq q))) none) none)=K (cq q):=rfl
theorem A6d:cq 0=[(.bool false),(.imm [] 0 1 false false),(.imm [(.int .u32 1)] 1 1 false false)]:=by
 have e:cq 0=[.bool false,.imm (Ar (A9 0)) (A9 0).length 1 false false,.imm (Ar (A9 1)) (A9 1).length 1 false false]:=rfl
 rw[e,gS];rfl
theorem mA {N:Nat} {K:LA→O R}:Zh N K=K (cq 0):=by
 rw[nM];unfold rx
 rw[A6d]
theorem A42 (z:Int):mkRat z 1=(z:Rat):=by
 apply Rat.ext
 ·rw[Rat.num_mkRat,if_neg (by decide),Nat.gcd_one_left];simp
 ·rw[Rat.den_mkRat,if_neg (by decide),Nat.gcd_one_left];simp
theorem A6e (z:Int) (w:Nat) (b:w≠0):(mkRat z w).num=z/((Nat.gcd z.natAbs w:Nat):Int)∧(mkRat z w).den=w/Nat.gcd z.natAbs w:=by
 refine⟨?_,?_⟩
 ·rw[Rat.num_mkRat,if_neg b,Nat.gcd_comm w]
 ·rw[Rat.den_mkRat,if_neg b,Nat.gcd_comm w]
theorem Auh {N:Nat} {n1 n2:Bool} {s1 s2:LS} {o1 o2:Bool} {K:LA→O R} (n:Au s1.l) (i:Au s2.l) (x:0≤Cw n2 s2) (d:fit (4*(s1.l.length+s2.l.length)+10) N):GQ N (Ur n1 s1) o1 (Ur n2 s2) o2 K=K (cq (mkRat (Cw n1 s1) (Cw n2 s2).natAbs)):=by
 have e:=Uj n2 s2
 have j:=Uj n1 s1
 rw[nZ];unfold fu
 rw[Aug,ct,A6z,Ayq i (d.le (by omega))]
 by_cases h0:Cw n2 s2=0
 ·rw[h0,show((0:Int).sign==0)=true by rfl,ct,mA]
  rw[show(0:Int).natAbs=0 by rfl,Rat.mkRat_zero];exact A60 _ _
 ·have y:(Cw n2 s2).natAbs≠0:=by omega
  have q:((Cw n2 s2).sign==0)=false:=by rw[Int.sign_eq_one_of_pos (by omega)];rfl
  rw[q,cf,ct,lz i (d.le (by omega)),show((Nat.beq 0 0)&&((Nat.beq (List.length (Jo (Cw n2 s2))) 2)&&(Nat.beq 2 2)))=true by rfl,ct]
  have rb:∀ (z:Int) (f:Bool→O R),aT (Jo z) f=f (decide (z<0)):=fun z f=>ER
  have rl:∀ (z:Int) (f:LA→Nat→O R),B4 1 (List.drop 1 (Jo z)) f=f (Ar (A9 z.natAbs)) (A9 z.natAbs).length:=fun z f=>QW
  have l2:=(Dz i).2
  have l1:=(Dz n).2
  rw[rb,decide_eq_false (by omega),show((!false)==true)=true by rfl,ct,rl,A41,A4z (a:=A9 (Cw n2 s2).natAbs) (b:=[1]) (m:=1) rfl rfl (d.le (by rw[e];omega)),A7i]
  by_cases c:(Cw n2 s2).natAbs=1
  ·rw[c,gS,show decide (([1]:List Nat)=[1])=true by decide,ct,Aug,ct,A6z,lz n (d.le (by omega)),rl,c,gS]
   rw[A42]
   have A:cq ((Cw n1 s1:Int):Rat)=[.bool (decide (Cw n1 s1<0)),.imm (Ar (A9 (Cw n1 s1).natAbs)) (A9 (Cw n1 s1).natAbs).length 1 false false,.imm (Ar [1]) 1 1 false false]:=by
    unfold cq A9l RatD.av LS.av
    rw[Rat.num_intCast,Rat.den_intCast,gS];rfl
   rw[A];rfl
  ·have s:decide (A9 (Cw n2 s2).natAbs=[1])=false:=by
    rw[decide_eq_false_iff_not];intro C
    have:=congrArg val C
    rw[Av] at this;simp[val] at this;omega
   rw[s,cf]
   unfold JK
   have k:0<Nat.gcd (Cw n1 s1).natAbs (Cw n2 s2).natAbs:=Nat.gcd_pos_of_pos_right _ (by omega)
   have D:(A9 (Nat.gcd (Cw n1 s1).natAbs (Cw n2 s2).natAbs)).length≤s2.l.length:=Nat.le_trans (Gg (Nat.gcd_le_right _ (by omega))) (by rw[e];exact l2)
   have t:Nat.gcd (Cw n1 s1).natAbs (Cw n2 s2).natAbs∣val s1.l:=by rw[←j];exact Nat.gcd_dvd_left _ _
   have u:Nat.gcd (Cw n1 s1).natAbs (Cw n2 s2).natAbs∣val s2.l:=by rw[←e];exact Nat.gcd_dvd_right _ _
   obtain⟨F,G⟩:=A6e (Cw n1 s1) (Cw n2 s2).natAbs y
   rw[Aug,ct,Aug,ct,A6z,A6z,A2p n i (d.le (by omega))]
   generalize I:Nat.gcd (Cw n1 s1).natAbs (Cw n2 s2).natAbs=g at *
   rw[show((Nat.beq 0 0)&&((Nat.beq (List.length (Jo (g:Int))) 2)&&(Nat.beq 2 2)))=true by rfl,ct,ct,show Nat.ble 2 (List.length (Jo (g:Int)))=true by rfl,ct,A89,ef n k t (d.le (by omega))]
   rw[show ∀ z:Int,((Nat.beq 0 0)&&((Nat.beq (List.length (Jo z)) 2)&&(Nat.beq 2 2)))=true from fun z=>rfl,ct,show((Nat.beq 0 0)&&((Nat.beq (List.length (Jo 0)) 2)&&(Nat.beq 2 2)))=true by rfl,ct,ct,ef i k u (d.le (by omega))]
   have v:Cw n2 s2/(g:Int)=(((Cw n2 s2).natAbs/g:Nat):Int):=by
    rw[show Cw n2 s2=(((Cw n2 s2).natAbs:Nat):Int) by omega];rfl
   rw[show ∀ z:Int,((Nat.beq 0 0)&&((Nat.beq (List.length (Jo z)) 2)&&(Nat.beq 2 2)))=true from fun z=>rfl,ct,ct,rb,v,decide_eq_false (by omega),cf,show ∀ z:Int,Nat.ble 2 (List.length (Jo z))=true from fun z=>rfl,ct,rl,Int.natAbs_natCast,←G]
   rw[←F];rfl
theorem A8n {N:Nat} {z w:Int} {o o':Bool} {K:LA→O R} (b:0≤w) (c:fit (4*((A9 z.natAbs).length+(A9 w.natAbs).length)+10) N):GQ N (Jo z) o (Jo w) o' K=K (cq (mkRat z w.natAbs)):=by
 have:=Auh (R:=R) (N:=N) (n1:=decide (z<0)) (s1:=.of (A9 z.natAbs) false false) (n2:=decide (w<0)) (s2:=.of (A9 w.natAbs) false false) (o1:=o) (o2:=o') (K:=K) (At _) (At _) (by rw[qA];exact b) c
 rw[qA,qA] at this;exact this
theorem Aet {N:Nat} {v:Int} {K:LA→O R} (b:-9223372036854775808≤v∧v≤9223372036854775807) (hN:4000≤N):Zk N v K=K (cq (v:Rat)):=by
 have c:=y5 (show v.natAbs<18446744073709551616 by omega)
 rw[VJ];unfold SU
 rw[kQ b (by omega),kQ (by omega) (by omega),A8n (by omega) ⟨show 100*(4*((A9 v.natAbs).length+(A9 (1:Int).natAbs).length)+10)+1000≤N by (rw[show(1:Int).natAbs=1 by rfl,gS];simp;omega),show 4*((A9 v.natAbs).length+(A9 (1:Int).natAbs).length)+10≤1000000000 by (rw[show(1:Int).natAbs=1 by rfl,gS];simp;omega)⟩]
 have:mkRat v (1:Int).natAbs=(v:Rat):=A42 v
 rw[this];exact A60 _ _
end
end Gx

namespace Gx
open Go Go.Proofs
section
variable {R:Type}
theorem A2q {N:Nat} {n1:Bool} {s1:LS} {o1:Bool} {K:Bool→Nat→LA→O R} (b:Au s1.l) (d:fit s1.l.length N):zc N (Ur n1 s1) o1 K=K (decide (-Cw n1 s1<0)) (A9 (Cw n1 s1).natAbs).length (Ar (A9 (Cw n1 s1).natAbs)):=by
 obtain⟨c1,e⟩:=FO (z:=-Cw n1 s1) (c:=!n1) (m:=val s1.l) (by unfold Cw;cases n1<;>simp)
 rw[zd];unfold Al6
 rw[ER,QW,A2h rfl b d,Qf,c1,Uj]
theorem A8o {A:Nat} (h:A≤9223372036854775808):cond true (decide ((A:Int)≤9223372036854775808)) false=true:=by
 rw[cond_true];exact decide_eq_true (by omega)
theorem A8p {A:Nat} (h:A<9223372036854775808):cond true (decide ((A:Int)<9223372036854775808)) false=true:=by
 rw[cond_true];exact decide_eq_true (by omega)
theorem A7o {A:Nat} (h:A≤9223372036854775808):IntKind.wrap .i64 (IntKind.wrap .u64 ((0:Int) - (A:Int)))=-(A:Int):=by
 rw[x8,IntKind.wrap_i64];omega
theorem Aui {N:Nat} {n1:Bool} {s1:LS} {o1:Bool} {K:Int→Bool→O R} (c:Au s1.l) (d:fit s1.l.length N) (b:-9223372036854775808≤Cw n1 s1∧Cw n1 s1≤9223372036854775807):Zj N (Ur n1 s1) o1 K=K (Cw n1 s1) true:=by
 have hn:=Uj n1 s1
 rw[ST];unfold OL
 rw[QW,wZ rfl c d,if_pos (by omega),show(!true)=false by rfl,cf,ER]
 cases n1
 ·have e:Cw false s1=(val s1.l:Int):=rfl
  rw[e] at b ⊢
  rw[show(false==true)=false by rfl,cf]
  dsimp only
  unfold Ph
  rw[cf,ER,show((!false)==true)=true by rfl,ct,A8p (by omega),ct,i64 (by omega)]
 ·have e:Cw true s1=-(val s1.l:Int):=rfl
  rw[e] at b ⊢
  rw[show(true==true)=true by rfl,ct,A8o (by omega)]
  dsimp only
  unfold Ph
  rw[ct,A7o (by omega)]
end
end Gx

namespace Gx
open Go Go.Proofs
section
variable {R:Type}
theorem A9m (z:Int):((Nat.beq 0 0)&&((Nat.beq (List.length (Jo z)) 2)&&(Nat.beq 2 2)))=true:=rfl
end
end Gx

namespace Gx
open Go Go.Proofs
section
variable {R:Type}
theorem kR {N:Nat} {b:List UInt8} {c:UInt8} {K:List UInt8→Bool→O R}:E7 N (c::b) [c] K=K b true:=by
 rw[Od];unfold Mn
 rw[Eo];unfold Dr
 rw[En];unfold Dq
 have d:((decide ((((c::b).length:Nat):Int)≥((([c]:List UInt8).length:Nat):Int)))==true)=true:=by simp;omega
 have e:((decide ((0:Int)≤(0:Int)))&&((decide ((0:Int)≤((([c]:List UInt8).length:Nat):Int)))&&((decide (((([c]:List UInt8).length:Nat):Int)≤(((c::b).length:Nat):Int)))&&(decide ((((c::b).length:Nat):Int)≤(((c::b).length:Nat):Int))))))=true:=by simp;omega
 have f:((decide ((0:Int)≤((([c]:List UInt8).length:Nat):Int)))&&((decide (((([c]:List UInt8).length:Nat):Int)≤(((c::b).length:Nat):Int)))&&((decide ((((c::b).length:Nat):Int)≤(((c::b).length:Nat):Int)))&&(decide ((((c::b).length:Nat):Int)≤(((c::b).length:Nat):Int))))))=true:=by simp;omega
 rw[d,ct,e,ct,show cond true ((List.take ([c]:List UInt8).length (c::b))==[c]) false=true by simp]
 dsimp only
 rw[show(!true)=false by rfl,cf,f,ct]
 simp
theorem eg {N:Nat} {b:List UInt8} {c:UInt8} {K:List UInt8→Bool→O R} (h:b.head?≠some c):E7 N b [c] K=K b false:=by
 rw[Od];unfold Mn
 rw[Eo];unfold Dr
 rw[En];unfold Dq
 cases b with
 | nil=>rfl
 | cons d r =>
  have e:d≠c:=by simpa using h
  have f:((decide ((((d::r).length:Nat):Int)≥((([c]:List UInt8).length:Nat):Int)))==true)=true:=by simp;omega
  have i:((decide ((0:Int)≤(0:Int)))&&((decide ((0:Int)≤((([c]:List UInt8).length:Nat):Int)))&&((decide (((([c]:List UInt8).length:Nat):Int)≤(((d::r).length:Nat):Int)))&&(decide ((((d::r).length:Nat):Int)≤(((d::r).length:Nat):Int))))))=true:=by simp;omega
  rw[f,ct,i,ct,show cond true ((List.take ([c]:List UInt8).length (d::r))==[c]) false=false by simp[e]]
  rfl
theorem Aeu {s:List UInt8} {p:Nat} (h:p<s.length) (b:s[p].toNat<128):NL s (p:Int)=(s[p].toNat,1):=by
 unfold NL
 rw[Int.toNat_natCast]
 exact decode_ascii ⟨⟨s⟩⟩ p h b
theorem A2r {s:List UInt8} {p:Nat} (h:p<s.length) (b:128≤s[p].toNat):128≤(NL s (p:Int)).1:=by
 unfold NL
 rw[Int.toNat_natCast]
 exact(decode_high ⟨⟨s⟩⟩ p h b).1
theorem Ahx {N:Nat} {s:List UInt8} {K:Bool→O R} (hs:s≠[]):∀ (m p fuel:Nat),p≤s.length→s.length - p=m→m<fuel→Iu N K s fuel (p:Int)=K ((s.drop p).all Eh):=by
 intro m
 induction m with
 | zero =>
  intro p fuel c d e
  cases fuel with
  | zero=>omega
  | succ fuel =>
   rw[Iu];unfold S5
   rw[Iz (by omega),cf,List.drop_eq_nil_of_le (by omega),show(!(s==([]:List UInt8)))=true by simp[hs]]
   rfl
 | succ m f =>
  intro p fuel c d e
  cases fuel with
  | zero=>omega
  | succ fuel =>
   have b:p<s.length:=by omega
   rw[Iu];unfold S5
   rw[Hh b,ct,List.drop_eq_getElem_cons b,List.all_cons]
   by_cases i:s[p].toNat<128
   ·rw[Aeu b i]
    simp only
    by_cases j:s[p].toNat<48
    ·rw[show(decide (((s[p].toNat:Nat):Int)<48)==false)=false by simp;omega,cf]
     have:Eh s[p]=false:=by simp[Eh];omega
     rw[this];rfl
    ·rw[show(decide (((s[p].toNat:Nat):Int)<48)==false)=true by simp;omega,ct]
     by_cases k:s[p].toNat>57
     ·rw[show cond false true (decide (((s[p].toNat:Nat):Int)>57))=true by simp;omega,ct]
      have:Eh s[p]=false:=by simp[Eh];omega
      rw[this];rfl
     ·rw[show cond false true (decide (((s[p].toNat:Nat):Int)>57))=false by simp;omega,cf]
      have:Eh s[p]=true:=by simp[Eh];omega
      rw[this,Bool.true_and,show((p:Int)+((1:Nat):Int))=((p+1:Nat):Int) by omega]
      exact f (p+1) fuel (by omega) (by omega) (by omega)
   ·have l:=A2r b (by omega)
    have:Eh s[p]=false:=by simp[Eh];omega
    rw[this,show(decide ((((NL s (p:Int)).1:Nat):Int)<48)==false)=true by simp;omega,ct,show cond false true (decide ((((NL s (p:Int)).1:Nat):Int)>57))=true by simp;omega,ct]
    rfl
theorem Ahy {N:Nat} {s:List UInt8} {K:Bool→O R} (b:s.length<N):T6 N s K=K (Aub s):=by
 rw[VN];unfold DS
 cases s with
 | nil =>
  obtain⟨n,rfl⟩:∃ n,N=n+1:=⟨N - 1,by simp at b;omega⟩
  rfl
 | cons c r =>
  have:=Ahx (R:=R) (N:=N) (s:=c::r) (K:=K) (by simp) (c::r).length 0 N (by omega) (by omega) b
  refine Eq.trans this ?_
  congr 1
  simp[Aub]
theorem qB {N:Nat} {s:List UInt8} {K:Bool→O R} (f:s.length<N):GS N s K=K (Rn s):=by
 rw[bZ];unfold bY
 rw[Ahy f]
 by_cases b:Aub s=true
 ·rw[b,show(true==true)=true by rfl,ct]
  unfold Rn
  rw[b,Bool.true_and]
  by_cases h0:s=[48]
  ·subst h0;rfl
  ·have i:(s==[48])=false:=by simpa using h0
   rw[i,show(false==false)=true by rfl,ct,Bool.false_or]
   cases s with
   | nil=>simp[Aub] at b
   | cons c r =>
    rw[show Ae 0 (c::r).length=true by unfold Ae;simp,ct]
    congr 1
    simp only[cond_true,cond_false,List.getD_cons_zero,List.head?_cons]
    by_cases d:c=48
    ·subst d;rfl
    ·have:(((c.toNat:Nat):Int) != 48)=true:=by
      rw[bne_iff_ne];intro e
      apply d;apply UInt8.toNat_inj.1
      have:c.toNat=48:=by omega
      rw[this];rfl
     rw[this]
     have j:((some c:Option UInt8) != some 48)=true:=by rw[bne_iff_ne];simpa using d
     rw[j]
 ·have b:Aub s=false:=by simpa using b
  rw[b,show(false==true)=false by rfl,cf]
  unfold Rn
  rw[b];rfl
def hY (s:List UInt8):Bool:=match s with
 | 45::r=>Rn r&&!(r==[48])
 | s=>Rn s
theorem kS {N:Nat} {s:List UInt8} {K:Bool→O R} (b:s.length<N):Zq N s K=K (hY s):=by
 rw[VP];unfold SV
 by_cases h:s.head?=some 45
 ·obtain⟨r,rfl⟩:∃ r,s=45::r:=by
   cases s with
   | nil=>simp at h
   | cons c r=>simp at h;exact⟨r,by rw[h]⟩
  rw[kR,qB (by simp at b;omega)]
  show _=K (Rn r&&!(r==[48]))
  cases Rn r
  ·rfl
  ·rw[Bool.true_and];cases r==[48]<;>rfl
 ·rw[eg h,qB b]
  have:hY s=Rn s:=by
   unfold hY
   split
   ·simp at h
   ·rfl
  rw[this]
  cases Rn s<;>rfl
def qC (s:List UInt8):Nat:=s.countP Eh
theorem Aod {N:Nat} {s:List UInt8} {K:Bool→O R} (hs:∀ c ∈ s,c.toNat<128) (n:s.length≤1000000000000):∀ (m p d fuel:Nat),p≤s.length→s.length - p=m→m<fuel→d≤p→Kt N K s fuel (d:Int) (p:Int)=K (decide (4096<d+qC (s.drop p))):=by
 intro m
 induction m with
 | zero =>
  intro p d fuel f i j k
  cases fuel with
  | zero=>omega
  | succ fuel =>
   rw[Kt];unfold U4
   rw[Iz (by omega),cf,List.drop_eq_nil_of_le (by omega)]
   congr 1
   rw[decide_eq_decide];simp[qC];omega
 | succ m e =>
  intro p d fuel f i j k
  cases fuel with
  | zero=>omega
  | succ fuel =>
   have b:p<s.length:=by omega
   have l:s[p].toNat<128:=hs _ (List.getElem_mem b)
   rw[Kt];unfold U4
   rw[Hh b,ct,List.drop_eq_getElem_cons b,Aeu b l]
   simp only
   rw[show((p:Int)+((1:Nat):Int))=((p+1:Nat):Int) by omega]
   have hn:qC (s[p]::s.drop (p+1))=qC (s.drop (p+1))+(if Eh s[p] then 1 else 0):=by unfold qC;rw[List.countP_cons]
   rw[hn]
   by_cases q:48≤s[p].toNat
   ·rw[show(decide (((s[p].toNat:Nat):Int)≥48)==true)=true by simp;omega,ct]
    by_cases t:s[p].toNat≤57
    ·rw[show cond true (decide (((s[p].toNat:Nat):Int)≤57)) false=true by simp;omega,ct,wS (by omega),e (p+1) (d+1) fuel (by omega) (by omega) (by omega) (by omega)]
     have:Eh s[p]=true:=by simp[Eh];omega
     rw[this,if_pos rfl]
     congr 1;rw[decide_eq_decide];omega
    ·rw[show cond true (decide (((s[p].toNat:Nat):Int)≤57)) false=false by simp;omega,cf,e (p+1) d fuel (by omega) (by omega) (by omega) (by omega)]
     have:Eh s[p]=false:=by simp[Eh];omega
     rw[this];rfl
   ·rw[show(decide (((s[p].toNat:Nat):Int)≥48)==true)=false by simp;omega,cf,e (p+1) d fuel (by omega) (by omega) (by omega) (by omega)]
    have:Eh s[p]=false:=by simp[Eh];omega
    rw[this];rfl
theorem Aoe {N:Nat} {s:List UInt8} {K:Bool→O R} (hs:∀ c ∈ s,c.toNat<128) (b:s.length≤1000000000000) (d:s.length<N):Xc N s K=K (decide (4096<qC s)):=by
 rw[cD];unfold JO
 have:=Aod (R:=R) (N:=N) (K:=K) hs b s.length 0 0 N (by omega) (by omega) d (by omega)
 simpa using this
end
end Gx

namespace Gx
open Go Go.Proofs
section
variable {R:Type}
theorem A43 (m:Nat):(Int.tmod (m:Int) 2==1)=decide (m%2=1):=by
 rw[show Int.tmod (m:Int) 2=((m%2:Nat):Int) by rfl]
 rw[Bool.eq_iff_iff];simp;omega
theorem A44 {m:Nat} (h:m≤1000000000000):IntKind.wrap .i64 (Int.tdiv (m:Int) 2)=((m/2:Nat):Int):=by
 rw[show Int.tdiv (m:Int) 2=((m/2:Nat):Int) by rfl,i64 (by omega)]
theorem A0m (n:Bool) (s:LS) (x y:AV):Cx (Ur n s) 0 [x,y]=[x,y]:=rfl
theorem A8q (s:LS):Cw false s=(val s.l:Int):=rfl
theorem A45 {N:Nat} {s1 s2:LS} {o1 o2:Bool} (b:Au s1.l) (c:Au s2.l) (d:fit (s1.l.length+s2.l.length) N):∃ S,Au S∧val S=val s1.l*val s2.l∧∀ K:Bool→Nat→LA→O R,SM N (Ur false s1) o1 (Ur false s2) o2 K=K false (A9 (val s1.l*val s2.l)).length (Ar S):=by
 obtain⟨S,a1,a2,a3⟩:=A2n (R:=R) (N:=N) (n1:=false) (n2:=false) (o1:=o1) (o2:=o2) b c d
 rw[A8q,A8q,←Int.natCast_mul] at a2 a3
 rw[Int.natAbs_natCast] at a2 a3
 refine⟨S,a1,a2,fun K=>?_⟩
 rw[a3,decide_eq_false (by omega)]
theorem mB {P Q m j:Nat} (hP:1≤P) (hQ:1≤Q) (b:j≤m):P ^ j≤Q*P ^ m:=by
 have c:P ^ j≤P ^ m:=Nat.pow_le_pow_right hP b
 have d:1*P ^ m≤Q*P ^ m:=Nat.mul_le_mul_right _ hQ
 omega
theorem Ayr {N k:Nat} (C:fit (2*k+4) N):∀ (fuel m P Q:Nat) (c:Bool) (s:LS) (S:List Nat),m<fuel→m≤1000000000→1≤P→1≤Q→Q*P ^ m<4294967296 ^ k→Au s.l→val s.l=P→s.l.length≤k+1→Au S→val S=Q →
  ∃ S',Au S'∧val S'=Q*P ^ m∧∀ K:Bool→Nat→LA→O R,Jw N K fuel (m:Int) c (Ur false s) false (A9 Q).length (Ar S)=K false (A9 (Q*P ^ m)).length (Ar S'):=by
 intro fuel
 induction fuel with
 | zero=>intro m P Q c s S h;omega
 | succ fuel q =>
  intro m P Q c s S I F hP hQ d hs v x hS hSv
  rcases Nat.eq_zero_or_pos m with h0 | h0
  ·subst h0
   refine⟨S,hS,by simp[hSv],fun K=>?_⟩
   rw[Jw];unfold Q3
   rw[show decide (((0:Nat):Int)>0)=false by decide,cf,Nat.pow_zero,Nat.mul_one]
  ·have lQ:(A9 Q).length≤k:=MG (Nat.lt_of_le_of_lt (Nat.le_mul_of_pos_right Q (Nat.pow_pos hP)) d)
   have hPm:P ^ 1≤Q*P ^ m:=mB hP hQ h0
   obtain⟨S1,a1,a2,a3⟩:=A45 (R:=R) (N:=N) (s1:=.of (A9 Q) false true) (s2:=s) (o1:=true) (o2:=c) (At _) hs (C.le (show(A9 Q).length+s.l.length≤_ by omega))
   have vQ:val (LS.of (A9 Q) false true).l=Q:=Av Q
   rw[vQ,v] at a2 a3
   obtain⟨S2,D,y,z⟩:=A45 (R:=R) (N:=N) (s1:=s) (s2:=s) (o1:=c) (o2:=c) hs hs (C.le (show s.l.length+s.l.length≤_ by omega))
   rw[v] at y z
   have sq:∀ n t:Nat,(P*P) ^ n=P ^ (2*n):=fun n t=>by rw[←Nat.pow_two,←Nat.pow_mul]
   have gt0:decide (((m:Nat):Int)>0)=true:=by simp;omega
   have cell:∀ (t:Nat) (u:List Nat),([.bool false,.imm (List.take ((A9 t).length*1) (Ar u)) (A9 t).length 1 false false]:LA)=[.bool false,.imm (List.take ((A9 t).length*1) (Ar u)) (A9 t).length 1 false false]:=fun _ _=>rfl
   by_cases b:m%2=1
   ·by_cases G:1<m
    ·have e:Q*P ^ m=(Q*P)*(P*P) ^ (m/2):=by
      rw[sq _ 0,Nat.mul_assoc,←Nat.pow_succ']
      congr 2;omega
     have l2:(A9 (P*P)).length≤k:=MG (Nat.lt_of_le_of_lt (by have:=mB (j:=2) hP hQ (show 2≤m by omega);rwa [Nat.pow_two] at this) d)
     obtain⟨S',c1,f,i⟩:=q (m/2) (P*P) (Q*P) (c||false) (.of (A9 (P*P)) false false) S1 (by omega) (by omega) (Nat.mul_pos hP hP) (Nat.mul_pos hQ hP) (by rw[←e];exact d) (At _) (Av _) (by show(A9 (P*P)).length≤_;omega) a1 a2
     refine⟨S',c1,by rw[f,e],fun K=>?_⟩
     rw[Jw];unfold Q3
     rw[gt0,ct,A43,decide_eq_true b,ct,Aug,ct,A6z,Ny hS hSv,A6c,a3,show decide (((m:Nat):Int)>1)=true by simp;omega,ct,ct,ct,z,show((Nat.beq 2 2)&&(true&&(!false)))=true by rfl,ct,A44 (by omega),A0m,Ny D y,A6c,i,e]
    ·have A:m=1:=by omega
     subst A
     obtain⟨S',c1,f,i⟩:=q 0 P (Q*P) c s S1 (by omega) (by omega) hP (Nat.mul_pos hQ hP) (by simpa using d) hs v x a1 a2
     rw[Nat.pow_zero,Nat.mul_one] at f i
     refine⟨S',c1,by rw[f,Nat.pow_one],fun K=>?_⟩
     rw[Jw];unfold Q3
     rw[gt0,ct,A43,decide_eq_true b,ct,Aug,ct,A6z,Ny hS hSv,A6c,a3,show decide (((1:Nat):Int)>1)=false by decide,cf,A44 (by omega),i,Nat.pow_one]
   ·have G:1<m:=by omega
    have e:Q*P ^ m=Q*(P*P) ^ (m/2):=by
     rw[sq _ 0];congr 2;omega
    have l2:(A9 (P*P)).length≤k:=MG (Nat.lt_of_le_of_lt (by have:=mB (j:=2) hP hQ (show 2≤m by omega);rwa [Nat.pow_two] at this) d)
    obtain⟨S',c1,f,i⟩:=q (m/2) (P*P) Q (c||false) (.of (A9 (P*P)) false false) S (by omega) (by omega) (Nat.mul_pos hP hP) hQ (by rw[←e];exact d) (At _) (Av _) (by show(A9 (P*P)).length≤_;omega) hS hSv
    refine⟨S',c1,by rw[f,e],fun K=>?_⟩
    rw[Jw];unfold Q3
    rw[gt0,ct,A43,decide_eq_false b,cf,show decide (((m:Nat):Int)>1)=true by simp;omega,ct,Aug,ct,ct,A6z,z,show((Nat.beq 2 2)&&(true&&(!false)))=true by rfl,ct,A44 (by omega),A0m,Ny D y,A6c,i,e]
theorem A6f:A9 10=[10]:=by rw[IT (by omega)];simp[Hf]
theorem A46 (n:Nat):10 ^ n<4294967296 ^ (n+1):=by
 have b:10 ^ n≤4294967296 ^ n:=Nat.pow_le_pow_left (by omega) n
 have c:4294967296 ^ n<4294967296 ^ (n+1):=Nat.pow_lt_pow_right (by omega) (by omega)
 omega
theorem A2s {N n:Nat} (b:fit (2*n+6) N):∃ S,Au S∧val S=10 ^ n∧∀ (K:Bool→Nat→LA→O R),(Mk N 10 fun g e i=>ON N [(.bool g),(.imm (i.take (e*1)) e 1 false true)] true (n:Int) K)=K false (A9 (10 ^ n)).length (Ar S):=by
 have q:=b.1;have s:=b.2
 obtain⟨S0,a1,a2,a3⟩:=Y7 (R:=R) (N:=N) (v:=1) (by omega) (by omega)
 obtain⟨S1,f,j,m⟩:=Y7 (R:=R) (N:=N) (v:=10) (by omega) (by omega)
 obtain⟨S',c1,c,d⟩:=Ayr (R:=R) (N:=N) (k:=n+1) (b.le (by omega)) N n 10 1 true (.of (A9 10) false true) S0 (by omega) (by omega) (by omega) (by omega) (by rw[Nat.one_mul];exact A46 n) (At _) (Av _) (by rw[A6f];simp[LS.l]) a1 a2
 rw[Nat.one_mul] at c d
 refine⟨S',c1,c,fun K=>?_⟩
 rw[m,n8];unfold fv
 rw[a3]
 refine Eq.trans ?_ (d K)
 rw[show(10:Int).natAbs=10 by rfl,show(1:Int).natAbs=1 by rfl] at *
 rw[Ny f j]
 rfl
theorem Xz (s:List UInt8) (n:Nat) (h:n=s.length):List.take (n*1) (Ba s)=Ba s:=by
 rw[Nat.mul_one];exact List.take_of_length_le (by simp[Ba,h])
theorem Auj (s:List UInt8):List.take s.length (Ba s)=Ba s:=List.take_of_length_le (by simp[Ba])
theorem gT (a b:List UInt8):Ba a++Ba b=Ba (a++b):=by simp[Ba]
theorem w8:∀ (s:List UInt8),Ze (Ba s)=some s
 | []=>rfl
 | c::r=>by
  have b:=w8 r
  have e:Ba (c::r)=.int .u8 (c.toNat:Int)::Ba r:=rfl
  rw[e,Ze,b]
  simp[yO]
theorem A6g {N:Nat} {s:List UInt8} {K:List UInt8→O R} (h0:s≠[]) (d:s.length≤9223372036854775807):U6 N s.length (Ba s) K=K s:=by
 rw[OQ];unfold ML
 have b:0<s.length:=List.length_pos_iff.2 h0
 have c:((Nat.beq 5 5)&&((Nat.beq 1 1)&&(true&&((!false)&&((Nat.beq 0 0)&&((decide (0<((s.length:Nat):Int)))&&((decide (((s.length:Nat):Int)≤(((Ba s).length:Nat):Int)))&&(decide (((s.length:Nat):Int)≤9223372036854775807)))))))))=true:=by
  simp[Ba];omega
 rw[show Nat.blt 0 s.length=true by simpa using b,ct,c,ct,Auj,w8];rfl
theorem A6h {N:Nat} {b:List UInt8} {K:Int→Nat→LA→O R} (c:b.length≤140737488355328):Pj N b K=K (b.length:Int) b.length (Ba b):=by
 rw[GT];unfold BI
 rw[OO];unfold MK
 have:(Nat.ble (0+b.length) 140737488355328&&Nat.ble ((0+b.length)*1) 140737488355328)=true:=by simp;omega
 rw[this,ct,Nat.zero_add]
theorem y7 {N:Nat} {s b:List UInt8} {K:Int→Nat→LA→O R} (c:s.length+b.length≤140737488355328):Bl N b s.length (Ba s) K=K (b.length:Int) (s++b).length (Ba (s++b)):=by
 rw[Wf];unfold Tm
 rw[BW];unfold Xd
 have:(Nat.ble (s.length+b.length) 140737488355328&&Nat.ble ((s.length+b.length)*1) 140737488355328)=true:=by simp;omega
 rw[this,ct,Xz s _ rfl,gT,List.length_append]
end
end Gx

namespace Gx
open Go Go.Proofs
section
variable {R:Type}
theorem A9b:(A9 (10 ^ 9)).length≤1:=MG (by decide)
theorem QX (v:Nat) (a b:Bool):Au (LS.of (A9 v) a b).l:=At v
end
end Gx

namespace Gx
open Go Go.Proofs
section
variable {R:Type}
def Ays (z:Int) (s:List UInt8):List UInt8:=if z<0 then 45::s else s
theorem A8r {a b:Nat} (h:a≤b):Nat.ble a b=true:=by simpa using h
def hZ (z:Int):List UInt8:=Ays z (sa z.natAbs)
end
end Gx

namespace Gx
open Go Go.Proofs Go.RowKit
noncomputable section
variable {R:Type} (N:Nat)
def NA (s t:List UInt8):List (List UInt8):=(Lib.splitB ⟨⟨t⟩⟩ 0 (Lib.countB ⟨⟨s⟩⟩ ⟨⟨t⟩⟩) ⟨⟨s⟩⟩).map fun b=>b.data.toList
def Aof (l:List (List UInt8)):LA:=l.map .str
def Qg (_N:Nat) (s t:List UInt8) (r0:Nat→LA→O R):O R:=cond (Nat.ble s.length 4294967280&&Nat.ble 1 t.length) (r0 (NA s t).length (Aof (NA s t))) none
def strings_Split:=(Ah (@Qg R)).1
theorem O5:@strings_Split R=@Qg R:=(Ah _).2
def O6 (a:LA) (h:Ai) (k:KF R):O R :=
 match a,h with
 | [.str s,.str t],[]=>strings_Split N s t fun n c=>k (.own 300000 0 n) [(300000,bQ 1 c)]
 | _,_=>none
def QY:Tw:=⟨fun {R} a h k=>@O6 R N a h k,fun {R} a h k=>by
 unfold O6
 split
 ·rw[O5,O5];unfold Qg;cases (Nat.ble _ 4294967280&&Nat.ble 1 _)<;>rfl
 ·rfl⟩
end
theorem si (N:Nat):Aqu Tryz.prog 180 (QY N):=by
 intro d h k h' l
 have f:O6 N d h (fun v h'=>some (v,h'))=some (k,h'):=l
 unfold O6 at f
 split at f
 ·rename_i s t
  rw[O5,Qg] at f
  obtain⟨q,y⟩:=uc f
  simp only[Bool.and_eq_true,Nat.ble_eq] at q
  simp only[Option.some.injEq,Prod.mk.injEq] at y
  obtain⟨rfl,rfl⟩:=y
  have i:=Lib.splitB_all ⟨⟨t⟩⟩ (show 1≤t.length from q.2) 0 _ ⟨⟨s⟩⟩ rfl
  refine A5z (n:=(NA s t).length) (sz:=1) (c:=Aof (NA s t)) (by simp[Aof]) fun J β w vs G hr=>?_
  obtain⟨u,v,rfl,e1,z⟩:=Aq4 hr
  simp only[Rep] at e1 z;subst e1 z
  obtain⟨m,C⟩:=G.int (g:=0) (by decide)
  refine(Any.strings_Split Tryz.lays146 (by kernel_rfl) ⟨⟨s⟩⟩ ⟨⟨t⟩⟩ m w (show s.length<4294967281 by omega) C (show 1≤t.length from q.2)).mono ?_
  rintro e w' ⟨rfl,rfl⟩
  refine⟨_,_,?_,rfl,?_,?_⟩
  ·rw[show(NA s t).length=Lib.countB ⟨⟨s⟩⟩ ⟨⟨t⟩⟩+1 by unfold NA;rw[List.length_map,i]]
  ·simp[NA]
  ·rw[Cm]
   intro j x A
   simp only[Aof,NA,List.map_map,List.getElem?_map,Option.map_eq_some_iff] at A
   obtain⟨b,D,rfl⟩:=A
   exact⟨.string b,by simp[D],by rw[Function.comp,RepC]⟩
 ·cases f
end Gx

namespace Gx
open Go Go.Proofs
open IntKind (wrap)
set_option maxRecDepth 100000
noncomputable section
variable {R:Type} (N:Nat)
def Ct (r0:Int→O R) (c:LA) (b:Nat) (d e:Bool) (k0:Int→Int→O R) (g f:Int):O R :=
 (cond (decide (f<g)) (cond (Ae f b) (Wb (c.drop ((f.toNat)*1)) fun i=>(Rc N i (fun l=>(cond l (r0 f) (k0 g (wrap .i64 (f+1))))))) none) (r0 (-1)))
def Aw (r0:Int→O R) (c:LA) (b:Nat) (d e:Bool):Nat→Int→Int→O R
 | 0,_,_=>none
 | n+1,g,f=>(Ct N r0 c b d e (Aw r0 c b d e n) g f)
def Dl (N:Nat) (r0:Int→O R) (q0:Int→Int→O R) (c:LA) (b:Nat) (d e:Bool):O R :=
 (q0 ((b:Nat):Int) 0)
def Cj:=(Ah (fun (N:Nat) (c:LA) (b:Nat) (d e:Bool) (r0:Int→O R)=>(Dl N r0 (fun g f=>(Aw N r0 c b d e N g f)) c b d e))).1
theorem H6 (c b d e r0):(@Cj R N c b d e r0)=(Dl N r0 (fun g f=>(Aw N r0 c b d e N g f)) c b d e):=by rw[Cj,(Ah _).2]
def Jk:Gm:=[(182,YT N)]
def Tv (F:KF R):=Ko Tryz.f254 iQ (Jk N) [] N F
def B0 (F:KF R):Int→O R:=(fun m=>F (iv m) [])
def Tx (c:LA) (b:Nat) (d e:Bool) (g f:Int):St:=⟨[(0,(.imm c b 1 d e)),(1,(.fn 182 [])),(7,(iv g)),(8,(iv f))],[]⟩
def Ty (F:KF R):=Tv N F [1,0,1,0] []
theorem G0 (F:KF R) (c:LA) (b:Nat) (d e:Bool):∀ (n:Nat) (g f:Int),Aj (Ty N F) n (Tx c b d e g f)=(Aw N (B0 F) c b d e n g f)
 | 0,_,_=>by kernel_rfl
 | n+1,g,f=>Eq.trans (by kernel_rfl) (Bu (Ct N (B0 F) c b d e · g f) (funext fun g=>funext fun f=>(G0 F c b d e n g f)):_)
theorem I7 (c:LA) (b:Nat) (d e:Bool) (F:KF R):C2 (Jk N) iQ N 254 [(.imm c b 1 d e),(.fn 182 [])] [] F=(Cj N c b d e (B0 F)):=by
 rw[H6]
 exact Eq.trans (by kernel_rfl) (Bu (Dl N (B0 F) · c b d e) (funext fun g=>funext fun f=>(Ad ..).trans (G0 N F c b d e N g f)):_)
def H7 (a:LA) (h:Ai) (k:KF R):O R :=
 match a,h with
 | [(.imm c b 1 d e),(.fn 182 [])],[]=>(Cj N c b d e (B0 k))
 | _,_=>none
theorem I8:Am N 254 @H7:=by
 intro R Q a h k j;unfold H7;split;exact Az (I7 ..) (I7 ..) ⟨YU N,trivial⟩;exact A2
def Tz:=A1 (I8 N)
def T0:=C5 (I8 N)
def Cl (r0:Nat→LA→O R) (b:Nat) (d:LA) (k0:Int→Int→LA→O R) (c e:Int) (f:LA):O R :=
 (cond (decide (e<((b:Nat):Int))) (cond (Ae e b) (Wb (f.drop (0+((e.toNat)*1))) fun i=>(Rc N i (fun l=>(cond (!l) (cond (Ae c b) (cond ((Nat.beq 1 1)&&((Nat.ble ((0+((c.toNat)*1))+1) (f.length))&&(!false))) (k0 (wrap .i64 (c+1)) (wrap .i64 (e+1)) (f.set (0+((c.toNat)*1)) (.str i))) none) none) (k0 c (wrap .i64 (e+1)) f))))) none) (cond ((decide (0≤c))&&((decide (c≤((b:Nat):Int)))&&((decide (((b:Nat):Int)≤((b:Nat):Int)))&&(decide (((b:Nat):Int)≤((b:Nat):Int)))))) (cond ((decide ((0:Int)≤(0:Int)))&&((decide (0≤c))&&((decide (c≤((b:Nat):Int)))&&(decide (((b:Nat):Int)≤((b:Nat):Int)))))) (r0 (c.toNat) (Cx f (0+((c.toNat)*1)) (List.replicate (b - (c.toNat)) (.str ([]:List UInt8))))) none) none))
def Bd (r0:Nat→LA→O R) (b:Nat) (d:LA):Nat→Int→Int→LA→O R
 | 0,_,_,_=>none
 | n+1,c,e,f=>(Cl N r0 b d (Bd r0 b d n) c e f)
def Da (r0:Nat→LA→O R) (q0:Int→Int→LA→O R) (b:Nat) (d:LA):O R :=
 (Cj N (d.take (b*1)) b false true (fun g=>(cond (g==(-1)) (r0 b d) (q0 g (wrap .i64 (g+1)) d))))
def Bs:=(Ah (fun (N b:Nat) (d:LA) (r0:Nat→LA→O R)=>(Da N r0 (fun c e f=>(Bd N r0 b d N c e f)) b d))).1
theorem Hk (b d r0):(@Bs R N b d r0)=(Da N r0 (fun c e f=>(Bd N r0 b d N c e f)) b d):=by rw[Bs,(Ah _).2]
def H8:Hints:={ H:=(hS hL (hS hL (hS hL (hS (hS hL (hS (hP [0,1,5,6] hL) hL)) hL)))),nils:=[(4,1)],modes:=[(2,1)] }
def I9:Gm:=[(254,Tz N),(182,YT N)]
def Sn (F:KF R):=Ko Tryz.f181 H8 (I9 N) [100000] N F
def By (F:KF R):Nat→LA→O R:=(fun m o=>F (.own 100000 0 m) [(100000,(bQ 1 o))])
def So (b:Nat) (d:LA) (c e:Int) (f:LA):St:=⟨[(0,(.own 100000 0 b)),(1,(.fn 182 [])),(5,(iv c)),(6,(iv e))],[(100000,(bQ 1 f))]⟩
def Sp (F:KF R):=Sn N F [1,1,1,0,1,0] []
theorem Gv (F:KF R) (b:Nat) (d:LA):∀ (n:Nat) (c e:Int) (f:LA),Aj (Sp N F) n (So b d c e f)=(Bd N (By F) b d n c e f)
 | 0,_,_,_=>by kernel_rfl
 | n+1,c,e,f=>Eq.trans (by kernel_rfl) (Bu (Cl N (By F) b d · c e f) (funext fun c=>funext fun e=>funext fun f=>(Gv F b d n c e f)):_)
theorem H9 (b:Nat) (d:LA) (F:KF R):C2 (I9 N) H8 N 181 [(.own 100000 0 b),(.fn 182 [])] [(100000,(bQ 1 d))] F=(Bs N b d (By F)):=by
 rw[Hk]
 exact Eq.trans (by kernel_rfl) (Bu (Da N (By F) · b d) (funext fun c=>funext fun e=>funext fun f=>(Ad ..).trans (Gv N F b d N c e f)):_)
def Hl (a:LA) (h:Ai) (k:KF R):O R :=
 match a,h with
 | [(.own 100000 0 b),(.fn 182 [])],[(100000,⟨false,false,true,false,1,d,false,none⟩)]=>(Bs N b d (By k))
 | _,_=>none
theorem Ia:Am N 181 @Hl:=by
 intro R Q a h k j;unfold Hl;split;exact Az (H9 ..) (H9 ..) ⟨T0 N,YU N,trivial⟩;exact A2
def Sq:=A1 (Ia N)
def Sr:=C5 (Ia N)
def sj (b:List UInt8) (r0:Nat→LA→O R):O R :=
 (strings_Cut N b ([35]:List UInt8) (fun c m n=>(strings_Split N c ([32]:List UInt8) (fun d e=>(Bs N d e (fun f g=>(r0 f g)))))))
def eh:=(Ah (@sj R)).1
theorem qD:@eh R=@sj R:=(Ah _).2
def Ayt:Gm:=[(105,GR N),(180,QY N),(181,Sq N)]
def w9 (F:KF R):Nat→LA→O R:=(fun i l=>F (.own 300000 0 i) (hq [(bQ 1 l)]))
theorem w_ (b:List UInt8) (F:KF R):C2 (Ayt N) Az3 N 106 [(.str b)] [] F=(eh N b (w9 F)):=by
 rw[qD]
 kernel_rfl
def qE (a:LA) (h:Ai) (k:KF R):O R :=
 match a,h with
 | [(.str b)],[]=>(eh N b (w9 k))
 | _,_=>none
theorem wa:Am N 106 @qE:=by
 intro R Q a h k j;unfold qE;split;exact Az (w_ ..) (w_ ..) ⟨bU N,si N,Sr N,trivial⟩;exact A2
def Auk:=A1 (wa N)
def Aul:=C5 (wa N)
def Akk (N:Nat) (r0:LA→O R):O R :=
 (r0 [(.int .i64 1),(.str ([100,101,109,97,110,100]:List UInt8)),(.int .i64 1),(.int .i64 4),(.int .i64 7),(.int .i64 2),(.str ([116,114,105,112]:List UInt8)),(.int .i64 2),(.int .i64 5),(.int .i64 0),(.int .i64 3),(.str ([108,105,110,101]:List UInt8)),(.int .i64 3),(.int .i64 5),(.int .i64 0),(.int .i64 4),(.str ([111,102,102,101,114]:List UInt8)),(.int .i64 2),(.int .i64 6),(.int .i64 8),(.int .i64 5),(.str ([115,116,101,112]:List UInt8)),(.int .i64 0),(.int .i64 0),(.int .i64 0),(.int .i64 6),(.str ([99,114,97,115,104]:List UInt8)),(.int .i64 0),(.int .i64 0),(.int .i64 9),(.int .i64 7),(.str ([98,111,111,116]:List UInt8)),(.int .i64 0),(.int .i64 0),(.int .i64 0),(.int .i64 8),(.str ([114,101,116,114,121]:List UInt8)),(.int .i64 0),(.int .i64 4),(.int .i64 0)])
def QZ:=(Ah (@Akk R)).1
theorem qF:@QZ R=@Akk R:=(Ah _).2
def Aum:Hints:={ H:=hL,nils:=[(0,5)],modes:=[(2,5)] }
def wb (F:KF R):LA→O R:=(fun b=>F (.own 300000 0 8) (hq [(bQ 5 b)]))
theorem wc (F:KF R):C2 [] Aum N 183 [] [] F=(QZ N (wb F)):=by
 rw[qF]
 kernel_rfl
def qG (a:LA) (h:Ai) (k:KF R):O R :=
 match a,h with
 | [],[]=>(QZ N (wb k))
 | _,_=>none
theorem wd:Am N 183 @qG:=by
 intro R Q a h k j;unfold qG;split;exact Az (wc ..) (wc ..) trivial;exact A2
def wg:=A1 (wd N)
def wh:=C5 (wd N)
def NB (N:Nat) (f:LA) (g:Bool) (b:LA) (c:Nat) (d e:Bool) (r0:Bool→O R):O R :=
 (Wb (f.drop 1) fun i=>(cond (Ae 0 c) (Wb b fun l=>(r0 (i==l))) none))
def V0:=(Ah (@NB R)).1
theorem Q_:@V0 R=@NB R:=(Ah _).2
def YV (b:LA) (c:Nat) (d e:Bool) (F:KF R):Bool→O R:=(fun m=>F (.bool m) [(100000,(bN 0 [(.imm b c 1 d e)]))])
theorem YW (f:LA) (g:Bool) (b:LA) (c:Nat) (d e:Bool) (F:KF R):C2 [] Dc N 185 [(.pagg f g),(.optr 100000 0)] [(100000,(bN 0 [(.imm b c 1 d e)]))] F=(V0 N f g b c d e (YV b c d e F)):=by
 rw[Q_]
 kernel_rfl
def Q' (a:LA) (h:Ai) (k:KF R):O R :=
 match a,h with
 | [(.pagg f g),(.optr 100000 0)],[(100000,⟨false,false,false,false,0,[(.imm b c 1 d e)],false,none⟩)]=>(V0 N f g b c d e (YV b c d e k))
 | _,_=>none
theorem YX:Am N 185 @Q':=by
 intro R Q a h k j;unfold Q';split;exact Az (YW ..) (YW ..) trivial;exact A2
def yH:=A1 (YX N)
def yI:=C5 (YX N)
def Ch (r0:Int→O R) (g:Nat) (b c:LA) (d:Nat) (e f:Bool) (k0:Int→Int→O R) (l i:Int):O R :=
 (cond (decide (i<l)) (cond (Ae i g) (cond (Nat.ble 5 ((b.drop (0+((i.toNat)*5))).length)) (V0 N ((b.drop (0+((i.toNat)*5))).take 5) false c d e f (fun m=>(cond m (r0 i) (k0 l (wrap .i64 (i+1)))))) none) none) (r0 (-1)))
def Ay (r0:Int→O R) (g:Nat) (b c:LA) (d:Nat) (e f:Bool):Nat→Int→Int→O R
 | 0,_,_=>none
 | n+1,l,i=>(Ch N r0 g b c d e f (Ay r0 g b c d e f n) l i)
def C0 (N:Nat) (r0:Int→O R) (q0:Int→Int→O R) (g:Nat) (b c:LA) (d:Nat) (e f:Bool):O R :=
 (q0 ((g:Nat):Int) 0)
def Bn:=(Ah (fun (N g:Nat) (b c:LA) (d:Nat) (e f:Bool) (r0:Int→O R)=>(C0 N r0 (fun l i=>(Ay N r0 g b c d e f N l i)) g b c d e f))).1
theorem G1 (g b c d e f r0):(@Bn R N g b c d e f r0)=(C0 N r0 (fun l i=>(Ay N r0 g b c d e f N l i)) g b c d e f):=by rw[Bn,(Ah _).2]
def Ib:Gm:=[(185,yH N)]
def Ro (F:KF R):=Ko Tryz.f184 iQ (Ib N) [100000,100001] N F
def Bx (b c:LA) (d:Nat) (e f:Bool) (F:KF R):Int→O R:=(fun o=>F (iv o) [(100000,(bQ 5 b)),(100001,(bN 0 [(.imm c d 1 e f)]))])
def Rp (g:Nat) (b c:LA) (d:Nat) (e f:Bool) (l i:Int):St:=⟨[(0,(.own 100000 0 g)),(1,(.fn 185 [(.optr 100001 0)])),(7,(iv l)),(8,(iv i))],[(100000,(bQ 5 b)),(100001,(bN 0 [(.imm c d 1 e f)]))]⟩
def Rq (F:KF R):=Ro N F [1,0,1,0] []
theorem Ge (F:KF R) (g:Nat) (b c:LA) (d:Nat) (e f:Bool):∀ (n:Nat) (l i:Int),Aj (Rq N F) n (Rp g b c d e f l i)=(Ay N (Bx b c d e f F) g b c d e f n l i)
 | 0,_,_=>by kernel_rfl
 | n+1,l,i=>Eq.trans (by kernel_rfl) (Bu (Ch N (Bx b c d e f F) g b c d e f · l i) (funext fun l=>funext fun i=>(Ge F g b c d e f n l i)):_)
theorem Hm (g:Nat) (b c:LA) (d:Nat) (e f:Bool) (F:KF R):C2 (Ib N) iQ N 184 [(.own 100000 0 g),(.fn 185 [(.optr 100001 0)])] [(100000,(bQ 5 b)),(100001,(bN 0 [(.imm c d 1 e f)]))] F=(Bn N g b c d e f (Bx b c d e f F)):=by
 rw[G1]
 exact Eq.trans (by kernel_rfl) (Bu (C0 N (Bx b c d e f F) · g b c d e f) (funext fun l=>funext fun i=>(Ad ..).trans (Ge N F g b c d e f N l i)):_)
def G2 (a:LA) (h:Ai) (k:KF R):O R :=
 match a,h with
 | [(.own 100000 0 g),(.fn 185 [(.optr 100001 0)])],[(100000,⟨false,false,true,false,5,b,false,none⟩),(100001,⟨false,false,false,false,0,[(.imm c d 1 e f)],false,none⟩)]=>(Bn N g b c d e f (Bx b c d e f k))
 | _,_=>none
theorem Hn:Am N 184 @G2:=by
 intro R Q a h k j;unfold G2;split;exact Az (Hm ..) (Hm ..) ⟨yI N,trivial⟩;exact A2
def Rr:=A1 (Hn N)
def Rs:=C5 (Hn N)
def ES (N:Nat) (r0:Nat→Bool→LA→O R) (l:LA) (p:Nat) (b:Bool) (k0:Nat→Int→Int→LA→O R) (f:Nat) (s c:Int) (t:LA):O R :=
 (cond (decide (c<s)) (cond (Ae c p) (cond (Nat.ble 3 ((l.drop ((c.toNat)*3)).length)) (cond ((Nat.beq 0 0)&&((Nat.beq (((l.drop ((c.toNat)*3)).take 3).length) 3)&&(Nat.beq 3 3))) (Wb ((l.drop ((c.toNat)*3)).take 3) fun aa=>(cond ((Nat.ble (f+1) 140737488355328)&&(Nat.ble ((f+1)*16) 140737488355328)) (k0 (f+1) s (wrap .i64 (c+1)) ((t.take (f*1))++[(.str aa)])) none)) none) none) none) (r0 f true t))
def Qh (r0:Nat→Bool→LA→O R) (l:LA) (p:Nat) (b:Bool):Nat→Nat→Int→Int→LA→O R
 | 0,_,_,_,_=>none
 | n+1,f,s,c,t=>(ES N r0 l p b (Qh r0 l p b n) f s c t)
def ET (N:Nat) (r0:Nat→Bool→LA→O R) (m:LA) (q:Nat) (b:Bool) (k1:Nat→Int→Int→LA→O R) (g:Nat) (u d:Int) (v:LA):O R :=
 (cond (decide (d<u)) (cond (Ae d q) (cond (Nat.ble 22 ((m.drop ((d.toNat)*22)).length)) (cond ((Nat.beq 0 0)&&((Nat.beq (((m.drop ((d.toNat)*22)).take 22).length) 22)&&(Nat.beq 22 22))) (Wb ((m.drop ((d.toNat)*22)).take 22) fun ab=>(cond ((Nat.ble (g+1) 140737488355328)&&(Nat.ble ((g+1)*16) 140737488355328)) (k1 (g+1) u (wrap .i64 (d+1)) ((v.take (g*1))++[(.str ab)])) none)) none) none) none) (r0 g true v))
def Qi (r0:Nat→Bool→LA→O R) (m:LA) (q:Nat) (b:Bool):Nat→Nat→Int→Int→LA→O R
 | 0,_,_,_,_=>none
 | n+1,g,u,d,v=>(ET N r0 m q b (Qi r0 m q b n) g u d v)
def EU (N:Nat) (r0:Nat→Bool→LA→O R) (o:LA) (r:Nat) (b:Bool) (k2:Nat→Int→Int→LA→O R) (i:Nat) (w e:Int) (x:LA):O R :=
 (cond (decide (e<w)) (cond (Ae e r) (cond (Nat.ble 12 ((o.drop ((e.toNat)*12)).length)) (cond ((Nat.beq 0 0)&&((Nat.beq (((o.drop ((e.toNat)*12)).take 12).length) 12)&&(Nat.beq 12 12))) (Wb ((o.drop ((e.toNat)*12)).take 12) fun ac=>(cond ((Nat.ble (i+1) 140737488355328)&&(Nat.ble ((i+1)*16) 140737488355328)) (k2 (i+1) w (wrap .i64 (e+1)) ((x.take (i*1))++[(.str ac)])) none)) none) none) none) (r0 i true x))
def Qj (r0:Nat→Bool→LA→O R) (o:LA) (r:Nat) (b:Bool):Nat→Nat→Int→Int→LA→O R
 | 0,_,_,_,_=>none
 | n+1,i,w,e,x=>(EU N r0 o r b (Qj r0 o r b n) i w e x)
def X0 (N:Nat) (r0:Nat→Bool→LA→O R) (q0:LA→Nat→Nat→Int→Int→LA→O R) (q1:LA→Nat→Nat→Int→Int→LA→O R) (q2:LA→Nat→Nat→Int→Int→LA→O R) (y:LA) (b:Bool) (z:Int):O R :=
 (cond (z==1) (B4 3 (y.drop 2) fun l p=>(q0 l p 0 ((p:Nat):Int) 0 [])) (cond (z==2) (B4 22 (y.drop 4) fun m q=>(q1 m q 0 ((q:Nat):Int) 0 [])) (cond (z==3) (B4 12 (y.drop 3) fun o r=>(q2 o r 0 ((r:Nat):Int) 0 [])) (r0 0 false []))))
def Kc:=(Ah (fun (N:Nat) (y:LA) (b:Bool) (z:Int) (r0:Nat→Bool→LA→O R)=>(X0 N r0 (fun l p f s c t=>(Qh N r0 l p b N f s c t)) (fun m q g u d v=>(Qi N r0 m q b N g u d v)) (fun o r i w e x=>(Qj N r0 o r b N i w e x)) y b z))).1
theorem V1 (y b z r0):(@Kc R N y b z r0)=(X0 N r0 (fun l p f s c t=>(Qh N r0 l p b N f s c t)) (fun m q g u d v=>(Qi N r0 m q b N g u d v)) (fun o r i w e x=>(Qj N r0 o r b N i w e x)) y b z):=by rw[Kc,(Ah _).2]
def wi:Hints:={ H:=(hS hL (hS hL (hS (hS hL (hS (hS hL (hS (hS hL (hS (hP [6,17,18,19] hL) hL)) (hS hL (hS (hS hL (hS (hP [6,32,33,34] hL) hL)) (hS hL (hS (hS hL (hS (hP [6,47,48,49] hL) hL)) hL)))))) hL)) hL))),nils:=[(4,1),(6,1)],modes:=[(2,1),(0,0)] }
def ei (F:KF R):=Ko Tryz.f115 wi [] [] N F
def Kd (F:KF R):Nat→Bool→LA→O R:=(fun ad ae af=>F (.tup [(.own 300000 0 ad),(.bool ae)]) (hq [(bQ 1 af)]))
def Aun (l:LA) (p:Nat) (b:Bool) (f:Nat) (s c:Int) (t:LA):St:=⟨[(6,(.own 300000 0 f)),(17,(.imm l p 3 false b)),(18,(iv s)),(19,(iv c))],(hq [(bQ 1 t)])⟩
def Auo (F:KF R):=ei N F [1,1,0,1,0,1,0,1,0] []
def Aup (m:LA) (q:Nat) (b:Bool) (g:Nat) (u d:Int) (v:LA):St:=⟨[(6,(.own 300000 0 g)),(32,(.imm m q 22 false b)),(33,(iv u)),(34,(iv d))],(hq [(bQ 1 v)])⟩
def Auq (F:KF R):=ei N F [1,1,0,1,0,1,1,1,0,1,0] []
def Aur (o:LA) (r:Nat) (b:Bool) (i:Nat) (w e:Int) (x:LA):St:=⟨[(6,(.own 300000 0 i)),(47,(.imm o r 12 false b)),(48,(iv w)),(49,(iv e))],(hq [(bQ 1 x)])⟩
def Aus (F:KF R):=ei N F [1,1,0,1,0,1,1,1,1,1,0,1,0] []
theorem ek (F:KF R) (l:LA) (p:Nat) (b:Bool):∀ (n f:Nat) (s c:Int) (t:LA),Aj (Auo N F) n (Aun l p b f s c t)=(Qh N (Kd F) l p b n f s c t)
 | 0,_,_,_,_=>by kernel_rfl
 | n+1,f,s,c,t=>Eq.trans (by kernel_rfl) (Bu (ES N (Kd F) l p b · f s c t) (funext fun f=>funext fun s=>funext fun c=>funext fun t=>(ek F l p b n f s c t)):_)
theorem eo (F:KF R) (m:LA) (q:Nat) (b:Bool):∀ (n g:Nat) (u d:Int) (v:LA),Aj (Auq N F) n (Aup m q b g u d v)=(Qi N (Kd F) m q b n g u d v)
 | 0,_,_,_,_=>by kernel_rfl
 | n+1,g,u,d,v=>Eq.trans (by kernel_rfl) (Bu (ET N (Kd F) m q b · g u d v) (funext fun g=>funext fun u=>funext fun d=>funext fun v=>(eo F m q b n g u d v)):_)
theorem ep (F:KF R) (o:LA) (r:Nat) (b:Bool):∀ (n i:Nat) (w e:Int) (x:LA),Aj (Aus N F) n (Aur o r b i w e x)=(Qj N (Kd F) o r b n i w e x)
 | 0,_,_,_,_=>by kernel_rfl
 | n+1,i,w,e,x=>Eq.trans (by kernel_rfl) (Bu (EU N (Kd F) o r b · i w e x) (funext fun i=>funext fun w=>funext fun e=>funext fun x=>(ep F o r b n i w e x)):_)
theorem wj (y:LA) (b:Bool) (z:Int) (F:KF R):C2 [] wi N 115 [(.pagg y b),(iv z)] [] F=(Kc N y b z (Kd F)):=by
 rw[V1]
 exact Eq.trans (by kernel_rfl) (A8v (X0 N (Kd F) · · · y b z) (funext fun l=>funext fun p=>funext fun f=>funext fun s=>funext fun c=>funext fun t=>(Ad ..).trans (ek N F l p b N f s c t)) (funext fun m=>funext fun q=>funext fun g=>funext fun u=>funext fun d=>funext fun v=>(Ad ..).trans (eo N F m q b N g u d v)) (funext fun o=>funext fun r=>funext fun i=>funext fun w=>funext fun e=>funext fun x=>(Ad ..).trans (ep N F o r b N i w e x)):_)
def qH (a:LA) (h:Ai) (k:KF R):O R :=
 match a,h with
 | [(.pagg y b),(.int .i64 z)],[]=>(Kc N y b z (Kd k))
 | _,_=>none
theorem wk:Am N 115 @qH:=by
 intro R Q a h k j;unfold qH;split;exact Az (wj ..) (wj ..) trivial;exact A2
def wl:=A1 (wk N)
def wm:=C5 (wk N)
def Ds (N:Nat) (r0:Int→O R) (c:LA) (b:Nat) (e f:Bool) (d:List UInt8) (k0:Int→Int→O R) (i g:Int):O R :=
 (cond (decide (g<i)) (cond (Ae g b) (Wb (c.drop ((g.toNat)*1)) fun l=>(cond (d==l) (r0 g) (k0 i (wrap .i64 (g+1))))) none) (r0 (-1)))
def Bm (r0:Int→O R) (c:LA) (b:Nat) (e f:Bool) (d:List UInt8):Nat→Int→Int→O R
 | 0,_,_=>none
 | n+1,i,g=>(Ds N r0 c b e f d (Bm r0 c b e f d n) i g)
def Em (N:Nat) (r0:Int→O R) (q0:Int→Int→O R) (c:LA) (b:Nat) (e f:Bool) (d:List UInt8):O R :=
 (q0 ((b:Nat):Int) 0)
def Ci:=(Ah (fun (N:Nat) (c:LA) (b:Nat) (e f:Bool) (d:List UInt8) (r0:Int→O R)=>(Em N r0 (fun i g=>(Bm N r0 c b e f d N i g)) c b e f d))).1
theorem K4 (c b e f d r0):(@Ci R N c b e f d r0)=(Em N r0 (fun i g=>(Bm N r0 c b e f d N i g)) c b e f d):=by rw[Ci,(Ah _).2]
def X1 (F:KF R):=Ko Tryz.f186 iQ [] [] N F
def Cr (F:KF R):Int→O R:=(fun m=>F (iv m) [])
def X2 (c:LA) (b:Nat) (e f:Bool) (d:List UInt8) (i g:Int):St:=⟨[(0,(.imm c b 1 e f)),(1,(.str d)),(7,(iv i)),(8,(iv g))],[]⟩
def X3 (F:KF R):=X1 N F [1,0,1,0] []
theorem Jl (F:KF R) (c:LA) (b:Nat) (e f:Bool) (d:List UInt8):∀ (n:Nat) (i g:Int),Aj (X3 N F) n (X2 c b e f d i g)=(Bm N (Cr F) c b e f d n i g)
 | 0,_,_=>by kernel_rfl
 | n+1,i,g=>Eq.trans (by kernel_rfl) (Bu (Ds N (Cr F) c b e f d · i g) (funext fun i=>funext fun g=>(Jl F c b e f d n i g)):_)
theorem L0 (c:LA) (b:Nat) (e f:Bool) (d:List UInt8) (F:KF R):C2 [] iQ N 186 [(.imm c b 1 e f),(.str d)] [] F=(Ci N c b e f d (Cr F)):=by
 rw[K4]
 exact Eq.trans (by kernel_rfl) (Bu (Em N (Cr F) · c b e f d) (funext fun i=>funext fun g=>(Ad ..).trans (Jl N F c b e f d N i g)):_)
def K5 (a:LA) (h:Ai) (k:KF R):O R :=
 match a,h with
 | [(.imm c b 1 e f),(.str d)],[]=>(Ci N c b e f d (Cr k))
 | _,_=>none
theorem L1:Am N 186 @K5:=by
 intro R Q a h k j;unfold K5;split;exact Az (L0 ..) (L0 ..) trivial;exact A2
def X4:=A1 (L1 N)
def X5:=C5 (L1 N)
def mC (b:List UInt8) (r0:Int→Bool→Int→O R):O R :=
 (T7 N b (fun c d=>(cond ((Nat.beq 0 0)&&((Nat.beq (c.length) 2)&&(Nat.beq 2 2))) (cond (d==8) (r0 0 false 0) (cond (d != 0) (r0 0 false 2) (cond (Nat.ble 2 (c.length)) (Zj N (c.take 2) false (fun e f=>(r0 e f 0))) none))) none)))
def RA:=(Ah (@mC R)).1
theorem kT:@RA R=@mC R:=(Ah _).2
def Aut:Gm:=[(23,Abr N),(201,Ar4 N)]
def qI (F:KF R):Int→Bool→Int→O R:=(fun g i l=>F (.tup [(iv g),(.bool i),(iv l)]) [])
theorem qJ (b:List UInt8) (F:KF R):C2 (Aut N) Dc N 187 [(.str b)] [] F=(RA N b (qI F)):=by
 rw[kT]
 kernel_rfl
def kU (a:LA) (h:Ai) (k:KF R):O R :=
 match a,h with
 | [(.str b)],[]=>(RA N b (qI k))
 | _,_=>none
theorem qK:Am N 187 @kU:=by
 intro R Q a h k j;unfold kU;split;exact Az (qJ ..) (qJ ..) ⟨Abs N,Ar5 N,trivial⟩;exact A2
def Aog:=A1 (qK N)
def Aoh:=C5 (qK N)
def Y8 (N:Nat) (r0:LA→Bool→O R) (c:Int) (d:LA) (k0:Int→O R) (b:Int):O R :=
 (cond (decide (b<8)) (cond (Ae b 8) (cond (Nat.ble 5 ((d.drop (0+((b.toNat)*5))).length)) (cond ((Nat.beq 0 0)&&((Nat.beq (((d.drop (0+((b.toNat)*5))).take 5).length) 5)&&(Nat.beq 5 5))) (As .i64 ((d.drop (0+((b.toNat)*5))).take 5) fun e=>(cond (e==c) (cond (Nat.ble 5 (((d.drop (0+((b.toNat)*5))).take 5).length)) (cond ((Nat.beq 0 0)&&((Nat.beq ((((d.drop (0+((b.toNat)*5))).take 5).take 5).length) 5)&&(Nat.beq 5 5))) (cond (Nat.ble 5 ((((d.drop (0+((b.toNat)*5))).take 5).take 5).length)) (r0 ((((d.drop (0+((b.toNat)*5))).take 5).take 5).take 5) true) none) none) none) (k0 (wrap .i64 (b+1))))) none) none) none) (r0 [(.int .i64 0),(.str ([]:List UInt8)),(.int .i64 0),(.int .i64 0),(.int .i64 0)] false))
def Hv (r0:LA→Bool→O R) (c:Int) (d:LA):Nat→Int→O R
 | 0,_=>none
 | n+1,b=>(Y8 N r0 c d (Hv r0 c d n) b)
def UN (r0:LA→Bool→O R) (q0:LA→Int→O R) (c:Int):O R :=
 (QZ N (fun d=>(q0 d 0)))
def L2:=(Ah (fun (N:Nat) (c:Int) (r0:LA→Bool→O R)=>(UN N r0 (fun d b=>(Hv N r0 c d N b)) c))).1
theorem kV (c r0):(@L2 R N c r0)=(UN N r0 (fun d b=>(Hv N r0 c d N b)) c):=by rw[L2,(Ah _).2]
def qL:Hints:={ H:=(hS hL (hS (hS hL (hS (hP [0,2,6,7,8] hL) hL)) hL)),modes:=[(3,0),(0,0)] }
def wo:Gm:=[(183,wg N)]
def Aoi (F:KF R):=Ko Tryz.f112 qL (wo N) [] N F
def V2 (F:KF R):LA→Bool→O R:=(fun f g=>F (.tup [(.pagg f false),(.bool g)]) [])
def Aoj (c:Int) (d:LA) (b:Int):St:=⟨[(0,(iv c)),(2,(op 0)),(6,(.own 300001 0 8)),(7,(iv 8)),(8,(iv b))],(hq [(bN 0 [(iv 0),(.str ([]:List UInt8)),(iv 0),(iv 0),(iv 0)]),(bQ 5 d)])⟩
def Aok (F:KF R):=Aoi N F [1,0,1,0] []
theorem YY (F:KF R) (c:Int) (d:LA):∀ (n:Nat) (b:Int),Aj (Aok N F) n (Aoj c d b)=(Hv N (V2 F) c d n b)
 | 0,_=>by kernel_rfl
 | n+1,b=>Eq.trans (by kernel_rfl) (Bu (Y8 N (V2 F) c d · b) (funext fun b=>(YY F c d n b)):_)
theorem qM (c:Int) (F:KF R):C2 (wo N) qL N 112 [(iv c)] [] F=(L2 N c (V2 F)):=by
 rw[kV]
 exact Eq.trans (by kernel_rfl) (Bu (UN N (V2 F) · c) (funext fun d=>funext fun b=>(Ad ..).trans (YY N F c d N b)):_)
def kW (a:LA) (h:Ai) (k:KF R):O R :=
 match a,h with
 | [(.int .i64 c)],[]=>(L2 N c (V2 k))
 | _,_=>none
theorem qN:Am N 112 @kW:=by
 intro R Q a h k j;unfold kW;split;exact Az (qM ..) (qM ..) ⟨wh N,trivial⟩;exact A2
def qO:=A1 (qN N)
def qP:=C5 (qN N)
def mD (N:Nat) (c:LA) (e:Bool) (b d:Int) (r0:Int→Int→O R):O R :=
 (cond (b==1) (B4 3 (c.drop 2) fun s f=>(r0 0 (wrap .i64 (((f:Nat):Int) - 1)))) (cond (b==2) (B4 22 (c.drop 4) fun t g=>(r0 0 (wrap .i64 (((g:Nat):Int) - 1)))) (cond (b==3) (B4 12 (c.drop 3) fun u i=>(r0 0 (wrap .i64 (((i:Nat):Int) - 1)))) (cond (b==4) (As .i64 c fun l=>(r0 0 (wrap .i64 (l - 1)))) (cond (b==5) (As .i64 c fun m=>(r0 1 m)) (cond (b==6) (B4 22 (c.drop 4) fun n o=>(cond (Ae d o) (B4 2 ((n.drop ((d.toNat)*22)).drop 4) fun v p=>(r0 0 (wrap .i64 (((p:Nat):Int) - 1)))) none)) (cond (b==7) (r0 0 1048576) (cond (b==8) (r0 (-1048576) 1048576) (cond (b==9) (r0 0 16777216) (r0 0 0))))))))))
def X6:=(Ah (@mD R)).1
theorem kX:@X6 R=@mD R:=(Ah _).2
def qQ (F:KF R):Int→Int→O R:=(fun q r=>F (.tup [(iv q),(iv r)]) [])
theorem qR (c:LA) (e:Bool) (b d:Int) (F:KF R):C2 [] Dc N 189 [(.pagg c e),(iv b),(iv d)] [] F=(X6 N c e b d (qQ F)):=by
 rw[kX]
 kernel_rfl
def kY (a:LA) (h:Ai) (k:KF R):O R :=
 match a,h with
 | [(.pagg c e),(.int .i64 b),(.int .i64 d)],[]=>(X6 N c e b d (qQ k))
 | _,_=>none
theorem qS:Am N 189 @kY:=by
 intro R Q a h k j;unfold kY;split;exact Az (qR ..) (qR ..) trivial;exact A2
def Aol:=A1 (qS N)
def Aom:=C5 (qS N)
def EV (r0:Bool→O R) (i l m:Int) (e:Bool) (c:LA) (f:Bool) (b g:LA) (k0:Int→O R) (d:Int):O R :=
 (cond (decide (d<3)) (cond (Ae d 3) (cond (Nat.beq ((d.toNat)*1) 0) (cond (Nat.ble 8 (c.length)) (cond (Ae d 3) (As .i64 (g.drop (2+((d.toNat)*1))) fun o=>(As .i64 (b.drop 1) fun p=>(X6 N (c.take 8) e o p (fun q r=>(cond ((decide (i<q))==false) (cond (cond false true (decide (i>r))) (r0 false) (k0 (wrap .i64 (d+1)))) (r0 false)))))) none) none) (cond (Nat.beq ((d.toNat)*1) 1) (cond (Nat.ble 8 (c.length)) (cond (Ae d 3) (As .i64 (g.drop (2+((d.toNat)*1))) fun s=>(As .i64 (b.drop 1) fun t=>(X6 N (c.take 8) e s t (fun u v=>(cond ((decide (l<u))==false) (cond (cond false true (decide (l>v))) (r0 false) (k0 (wrap .i64 (d+1)))) (r0 false)))))) none) none) (cond (Nat.beq ((d.toNat)*1) 2) (cond (Nat.ble 8 (c.length)) (cond (Ae d 3) (As .i64 (g.drop (2+((d.toNat)*1))) fun w=>(As .i64 (b.drop 1) fun x=>(X6 N (c.take 8) e w x (fun y z=>(cond ((decide (m<y))==false) (cond (cond false true (decide (m>z))) (r0 false) (k0 (wrap .i64 (d+1)))) (r0 false)))))) none) none) none))) none) (r0 true))
def Fv (r0:Bool→O R) (i l m:Int) (e:Bool) (c:LA) (f:Bool) (b g:LA):Nat→Int→O R
 | 0,_=>none
 | n+1,d=>(EV N r0 i l m e c f b g (Fv r0 i l m e c f b g n) d)
def gU (r0:Bool→O R) (q0:Int→Int→Int→LA→Int→O R) (c:LA) (e:Bool) (b:LA) (f:Bool):O R :=
 (As .i64 b fun aa=>(L2 N aa (fun g ab=>(cond ((Nat.beq 0 0)&&((Nat.beq (g.length) 5)&&(Nat.beq 5 5))) (cond (!ab) (r0 false) (As .i64 (b.drop 1) fun i=>(As .i64 (b.drop 2) fun l=>(As .i64 (b.drop 3) fun m=>(q0 i l m g 0))))) none))))
def Ss:=(Ah (fun (N:Nat) (c:LA) (e:Bool) (b:LA) (f:Bool) (r0:Bool→O R)=>(gU N r0 (fun i l m g d=>(Fv N r0 i l m e c f b g N d)) c e b f))).1
theorem qT (c e b f r0):(@Ss R N c e b f r0)=(gU N r0 (fun i l m g d=>(Fv N r0 i l m e c f b g N d)) c e b f):=by rw[Ss,(Ah _).2]
def wq:Hints:={ H:=(hS hL (hS hL (hS hL (hS (hS hL (hS (hP [2,3,5,25,26] hL) hL)) hL)))) }
def Aev:Gm:=[(112,qO N),(189,Aol N)]
def Auu (F:KF R):=Ko Tryz.f109 wq (Aev N) [] N F
def AX (F:KF R):Bool→O R:=(fun ac=>F (.bool ac) [])
def Auv (i l m:Int) (e:Bool) (c:LA) (f:Bool) (b g:LA) (d:Int):St:=⟨[(2,(op 0)),(3,(op 1)),(5,(op 2)),(25,(.agg [(iv i),(iv l),(iv m)])),(26,(iv d))],(hq [(bP e 0 c),(bP f 0 b),(bQ 0 g)])⟩
def Auw (F:KF R):=Auu N F [1,1,1,0,1,0] []
theorem eu (F:KF R) (i l m:Int) (e:Bool) (c:LA) (f:Bool) (b g:LA):∀ (n:Nat) (d:Int),Aj (Auw N F) n (Auv i l m e c f b g d)=(Fv N (AX F) i l m e c f b g n d)
 | 0,_=>by kernel_rfl
 | n+1,d=>Eq.trans (by kernel_rfl) (Bu (EV N (AX F) i l m e c f b g · d) (funext fun d=>(eu F i l m e c f b g n d)):_)
theorem wt (c:LA) (e:Bool) (b:LA) (f:Bool) (F:KF R):C2 (Aev N) wq N 109 [(.pagg c e),(.pagg b f)] [] F=(Ss N c e b f (AX F)):=by
 rw[qT]
 exact Eq.trans (by kernel_rfl) (Bu (gU N (AX F) · c e b f) (funext fun i=>funext fun l=>funext fun m=>funext fun g=>funext fun d=>(Ad ..).trans (eu N F i l m e c f b g N d)):_)
def qU (a:LA) (h:Ai) (k:KF R):O R :=
 match a,h with
 | [(.pagg c e),(.pagg b f)],[]=>(Ss N c e b f (AX k))
 | _,_=>none
theorem wu:Am N 109 @qU:=by
 intro R Q a h k j;unfold qU;split;exact Az (wt ..) (wt ..) ⟨qP N,Aom N,trivial⟩;exact A2
def wv:=A1 (wu N)
def ww:=C5 (wu N)
end
end Gx

namespace Gx.Cf
open Go Go.Proofs
section
variable {R:Type}
def yJ:LA:=[(.int .i64 1),(.str ([100,101,109,97,110,100]:List UInt8)),(.int .i64 1),(.int .i64 4),(.int .i64 7),(.int .i64 2),(.str ([116,114,105,112]:List UInt8)),(.int .i64 2),(.int .i64 5),(.int .i64 0),(.int .i64 3),(.str ([108,105,110,101]:List UInt8)),(.int .i64 3),(.int .i64 5),(.int .i64 0),(.int .i64 4),(.str ([111,102,102,101,114]:List UInt8)),(.int .i64 2),(.int .i64 6),(.int .i64 8),(.int .i64 5),(.str ([115,116,101,112]:List UInt8)),(.int .i64 0),(.int .i64 0),(.int .i64 0),(.int .i64 6),(.str ([99,114,97,115,104]:List UInt8)),(.int .i64 0),(.int .i64 0),(.int .i64 9),(.int .i64 7),(.str ([98,111,111,116]:List UInt8)),(.int .i64 0),(.int .i64 0),(.int .i64 0),(.int .i64 8),(.str ([114,101,116,114,121]:List UInt8)),(.int .i64 0),(.int .i64 4),(.int .i64 0)]
def Ic (i:Nat):LA:=(yJ.drop (i*5)).take 5
def A5u (k a b v:Int):LA:=[.int .i64 k,.int .i64 a,.int .i64 b,.int .i64 v]
theorem kZ {N:Nat} {K:LA→O R}:QZ N K=K yJ:=by rw[qF];rfl
theorem Aux {N n i:Nat} {k:Int} {K:LA→Bool→O R} (h:i<8):Hv N K k yJ (n+1) (i:Int)=cond (((i+1:Nat):Int)==k) (K (Ic i) true) (Hv N K k yJ n ((i+1:Nat):Int)):=by
 rw[Hv];unfold Y8
 rcases i with _ | _ | _ | _ | _ | _ | _ | _ | i
 ·rfl
 ·rfl
 ·rfl
 ·rfl
 ·rfl
 ·rfl
 ·rfl
 ·rfl
 ·omega
def A61:LA:=[.int .i64 0,.str [],.int .i64 0,.int .i64 0,.int .i64 0]
theorem Aew {N:Nat} {k:Int} {K:LA→Bool→O R}:∀ (m i fuel:Nat),i+m=8→m<fuel→Hv N K k yJ fuel (i:Int)=(if ((i+1:Nat):Int)≤k∧k≤8 then K (Ic (k - 1).toNat) true else K A61 false)
 | 0,i,fuel+1,hi,_=>by
  obtain rfl:i=8:=by omega
  rw[Hv];unfold Y8
  rw[if_neg (by omega)];rfl
 | m+1,i,fuel+1,hi,b=>by
  rw[Aux (by omega),Aew m (i+1) fuel (by omega) (by omega)]
  by_cases e:((i+1:Nat):Int)=k
  ·subst e
   rw[show(((i+1:Nat):Int)==((i+1:Nat):Int))=true by simp,ct,if_pos (by omega),show(((i+1:Nat):Int) - 1).toNat=i by omega]
  ·rw[show(((i+1:Nat):Int)==k)=false by simpa using e]
   show(if _ then _ else _)=_
   by_cases h:((i+1:Nat):Int)≤k∧k≤8
   ·rw[if_pos h,if_pos (by omega)]
   ·rw[if_neg h,if_neg (by omega)]
theorem ID {N:Nat} {k:Int} {K:LA→Bool→O R} (hN:9≤N):L2 N k K=(if 1≤k∧k≤8 then K (Ic (k - 1).toNat) true else K A61 false):=by
 rw[kV];unfold UN
 rw[kZ]
 exact Aew 8 0 N rfl (by omega)
def IL (lo hi v:Int):Bool:=decide (lo≤v)&&decide (v≤hi)
def Ayu (c:CaseD) (a:Int):Nat:=match c.units.l[a.toNat]? with | some u=>u.segs.l.length | none=>0
def y9 (c:CaseD) (a f:Int):Int×Int :=
 if f=1 then (0,(c.buses.l.length:Int) - 1) else if f=2 then (0,(c.units.l.length:Int) - 1) else if f=3 then (0,(c.lines.l.length:Int) - 1) else if f=4 then (0,c.hours - 1) else if f=5 then (1,c.hours)
 else if f=6 then (0,(Ayu c a:Int) - 1) else if f=7 then (0,1048576) else if f=8 then (-1048576,1048576) else if f=9 then (0,16777216) else (0,0)
theorem A8x {n:Nat} (h:n<4611686018427387904):IntKind.wrap .i64 ((n:Int) - 1)=(n:Int) - 1:=i64 (by omega)
theorem Aex {N:Nat} {c:CaseD} {o:Bool} {f a:Int} {K:Int→Int→O R} (hs:Small c N) (hH:1≤c.hours∧c.hours≤24) (v:f=6→0≤a∧a<(c.units.l.length:Int)) :
  X6 N c.av o f a K=K (y9 c a f).1 (y9 c a f).2:=by
 rw[kX];unfold mD y9
 by_cases d:f=1
 ·subst d;rw[show((1:Int)==1)=true by rfl,ct,J4,A8x hs.bus.2];rfl
 rw[show(f==1)=false by simpa using d,cf,if_neg d]
 by_cases i:f=2
 ·subst i;rw[show((2:Int)==2)=true by rfl,ct,Hi,A8x hs.uni.2];rfl
 rw[show(f==2)=false by simpa using i,cf,if_neg i]
 by_cases j:f=3
 ·subst j;rw[show((3:Int)==3)=true by rfl,ct,F2,A8x hs.lin.2];rfl
 rw[show(f==3)=false by simpa using j,cf,if_neg j]
 by_cases k:f=4
 ·subst k;rw[show((4:Int)==4)=true by rfl,ct,Np,i64 (by omega)];rfl
 rw[show(f==4)=false by simpa using k,cf,if_neg k]
 by_cases m:f=5
 ·subst m;rw[show((5:Int)==5)=true by rfl,ct,Np];rfl
 rw[show(f==5)=false by simpa using m,cf,if_neg m]
 by_cases b:f=6
 ·obtain⟨a1,a2⟩:=v b
  subst b
  obtain⟨n,rfl⟩:∃ n:Nat,a=n:=⟨a.toNat,by omega⟩
  have hn:n<c.units.l.length:=by omega
  have q:=hs.seg _ (List.getElem_mem hn)
  rw[show((6:Int)==6)=true by rfl,ct,Hi,Ab hn,Gx.ct,Int.toNat_natCast,Ax Dn _ _ hn]
  have e:∀ F:LA→Nat→O R,B4 2 (List.drop 4 (UnitD.av c.units.l[n]++(c.units.l.drop (n+1)).flatMap UnitD.av)) F=F (c.units.l[n].segs.l.flatMap SegD.av) c.units.l[n].segs.l.length:=fun F=>by
   unfold UnitD.av;exact Ey
  rw[e,A8x q.2,if_pos rfl]
  unfold Ayu
  rw[Int.toNat_natCast,List.getElem?_eq_getElem hn]
 rw[show(f==6)=false by simpa using b,cf,if_neg b]
 by_cases s:f=7
 ·subst s;rfl
 rw[show(f==7)=false by simpa using s,cf,if_neg s]
 by_cases t:f=8
 ·subst t;rfl
 rw[show(f==8)=false by simpa using t,cf,if_neg t]
 by_cases u:f=9
 ·subst u;rfl
 rw[show(f==9)=false by simpa using u,cf,if_neg u]
theorem A47 {lo hi v:Int} {A B:O R}:cond ((decide (v<lo))==false) (cond (cond false true (decide (v>hi))) B A) B=cond (IL lo hi v) A B:=by
 unfold IL
 by_cases b:v<lo
 ·rw[decide_eq_true b,decide_eq_false (show ¬ lo≤v by omega)];rfl
 ·rw[decide_eq_false b,decide_eq_true (show lo≤v by omega)]
  by_cases c:v>hi
  ·rw[decide_eq_true c,decide_eq_false (show ¬ v≤hi by omega)];rfl
  ·rw[decide_eq_false c,decide_eq_true (show v≤hi by omega)];rfl
def A9v (j:Nat) (a b v:Int):Int:=match j with | 0=>a | 1=>b | _=>v
theorem mE {N n j:Nat} {c:CaseD} {o o':Bool} {k a b v f:Int} {row:LA} {K:Bool→O R} (q:j<3) (d:∀ F:Int→O R,As .i64 (row.drop (2+j*1)) F=F f) (hs:Small c N) (hH:1≤c.hours∧c.hours≤24) (e:f=6→0≤a∧a<(c.units.l.length:Int)) :
  Fv N K a b v o c.av o' (A5u k a b v) row (n+1) (j:Int)=cond (IL (y9 c a f).1 (y9 c a f).2 (A9v j a b v)) (Fv N K a b v o c.av o' (A5u k a b v) row n ((j+1:Nat):Int)) (K false):=by
 have i:=fun K=>Aex (R:=R) (N:=N) (c:=c) (o:=o) (f:=f) (a:=a) (K:=K) hs hH e
 have m:∀ F:Int→O R,As .i64 (List.drop 1 (A5u k a b v)) F=F a:=fun F=>rfl
 rw[Fv];unfold EV
 simp only[Int.toNat_natCast,d,m,Ce,i]
 rcases j with _ | _ | _ | j
 ·exact A47
 ·exact A47
 ·exact A47
 ·omega
end
end Gx.Cf

namespace Gx
open Go Go.Proofs
open IntKind (wrap)
set_option maxRecDepth 100000
noncomputable section
variable {R:Type} (N:Nat)
def EW (r0:LA→Int→O R) (l:Int) (g i f:Bool) (d p:LA) (k0:Bool→Bool→LA→Nat→LA→Int→LA→O R) (q r:Bool) (m:LA) (b:Nat) (o:LA) (c:Int) (e:LA):O R :=
 (cond (decide (c<3)) (cond (Ae c 3) (As .i64 (o.drop ((c.toNat)*1)) fun v=>(cond (v==0) (k0 q r m b o (wrap .i64 (c+1)) e) (cond (((b:Nat):Int)==0) (r0 [(.int .i64 0),(.int .i64 0),(.int .i64 0),(.int .i64 0)] 2) (cond (Nat.ble 8 (d.length)) (Kc N (d.take 8) f v (fun w ad ae=>(cond ad (cond (Ae 0 b) (Wb m fun af=>(Ci N (ae.take (w*1)) w false true af (fun u=>(cond (Ae c 3) (cond ((Nat.beq 1 1)&&((Nat.ble ((0+((c.toNat)*1))+1) (e.length))&&(!false))) (cond (q==true) (cond (Ae c 3) (As .i64 ((e.set (0+((c.toNat)*1)) (.int .i64 u)).drop (0+((c.toNat)*1))) fun ag=>(cond ((decide ((0:Int)≤(1:Int)))&&((decide (1≤((b:Nat):Int)))&&((decide (((b:Nat):Int)≤((b:Nat):Int)))&&(decide (((b:Nat):Int)≤((b:Nat):Int)))))) (k0 (cond true (decide (ag≥0)) false) r ((m.drop 1).take ((b - 1)*1)) (b - 1) o (wrap .i64 (c+1)) (e.set (0+((c.toNat)*1)) (.int .i64 u))) none)) none) (cond ((decide ((0:Int)≤(1:Int)))&&((decide (1≤((b:Nat):Int)))&&((decide (((b:Nat):Int)≤((b:Nat):Int)))&&(decide (((b:Nat):Int)≤((b:Nat):Int)))))) (k0 false r ((m.drop 1).take ((b - 1)*1)) (b - 1) o (wrap .i64 (c+1)) (e.set (0+((c.toNat)*1)) (.int .i64 u))) none)) none) none)))) none) (cond (Ae 0 b) (Wb m fun ah=>(RA N ah (fun x ai y=>(cond (y != 0) (r0 [(.int .i64 0),(.int .i64 0),(.int .i64 0),(.int .i64 0)] y) (cond (Ae c 3) (cond ((Nat.beq 1 1)&&((Nat.ble ((0+((c.toNat)*1))+1) (e.length))&&(!false))) (cond (r==true) (cond ((decide ((0:Int)≤(1:Int)))&&((decide (1≤((b:Nat):Int)))&&((decide (((b:Nat):Int)≤((b:Nat):Int)))&&(decide (((b:Nat):Int)≤((b:Nat):Int)))))) (k0 q (cond true ai false) ((m.drop 1).take ((b - 1)*1)) (b - 1) o (wrap .i64 (c+1)) (e.set (0+((c.toNat)*1)) (.int .i64 x))) none) (cond ((decide ((0:Int)≤(1:Int)))&&((decide (1≤((b:Nat):Int)))&&((decide (((b:Nat):Int)≤((b:Nat):Int)))&&(decide (((b:Nat):Int)≤((b:Nat):Int)))))) (k0 q false ((m.drop 1).take ((b - 1)*1)) (b - 1) o (wrap .i64 (c+1)) (e.set (0+((c.toNat)*1)) (.int .i64 x))) none)) none) none))))) none)))) none)))) none) (cond (Ae l 8) (As .i64 (p.drop (0+((l.toNat)*5))) fun z=>(As .i64 e fun aa=>(As .i64 (e.drop 1) fun ab=>(As .i64 (e.drop 2) fun ac=>(cond (decide (((b:Nat):Int)>0)) (r0 [(.int .i64 0),(.int .i64 0),(.int .i64 0),(.int .i64 0)] 2) (cond (!q) (r0 [(.int .i64 0),(.int .i64 0),(.int .i64 0),(.int .i64 0)] 12) (cond ((!r)==false) (cond (Nat.ble 8 (d.length)) (Ss N (d.take 8) f [(.int .i64 z),(.int .i64 aa),(.int .i64 ab),(.int .i64 ac)] false (fun aj=>(cond (cond false true (!aj)) (r0 [(.int .i64 0),(.int .i64 0),(.int .i64 0),(.int .i64 0)] 3) (r0 [(.int .i64 z),(.int .i64 aa),(.int .i64 ab),(.int .i64 ac)] 0)))) none) (r0 [(.int .i64 0),(.int .i64 0),(.int .i64 0),(.int .i64 0)] 3)))))))) none))
def Ke (r0:LA→Int→O R) (l:Int) (g i f:Bool) (d p:LA):Nat→Bool→Bool→LA→Nat→LA→Int→LA→O R
 | 0,_,_,_,_,_,_,_=>none
 | n+1,q,r,m,b,o,c,e=>(EW N r0 l g i f d p (Ke r0 l g i f d p n) q r m b o c e)
def gV (r0:LA→Int→O R) (q0:Int→LA→Bool→Bool→LA→Nat→LA→Int→LA→O R) (d:LA) (f:Bool) (t:LA) (s:Nat) (g i:Bool):O R :=
 (QZ N (fun p=>(Bn N 8 p t s g i (fun l=>(cond (decide (l<0)) (r0 [(.int .i64 0),(.int .i64 0),(.int .i64 0),(.int .i64 0)] 2) (cond ((decide ((0:Int)≤(1:Int)))&&((decide (1≤((s:Nat):Int)))&&((decide (((s:Nat):Int)≤((s:Nat):Int)))&&(decide (((s:Nat):Int)≤((s:Nat):Int)))))) (cond (Ae l 8) (cond (Nat.ble 3 ((p.drop ((0+((l.toNat)*5))+2)).length)) (q0 l p true true ((t.drop 1).take ((s - 1)*1)) (s - 1) ((p.drop ((0+((l.toNat)*5))+2)).take 3) 0 [(.int .i64 0),(.int .i64 0),(.int .i64 0)]) none) none) none))))))
def RB:=(Ah (fun (N:Nat) (d:LA) (f:Bool) (t:LA) (s:Nat) (g i:Bool) (r0:LA→Int→O R)=>(gV N r0 (fun l p q r m b o c e=>(Ke N r0 l g i f d p N q r m b o c e)) d f t s g i))).1
theorem qV (d f t s g i r0):(@RB R N d f t s g i r0)=(gV N r0 (fun l p q r m b o c e=>(Ke N r0 l g i f d p N q r m b o c e)) d f t s g i):=by rw[RB,(Ah _).2]
def wx:Hints:={ H:=(hS hL (hS hL (hS hL (hS hL (hS hL (hS hL (hS hL (hS (hS hL (hS (hP [2,4,6,7,8,9,10,11,33,34] hL) hL)) hL)))))))),modes:=[(3,0),(0,0)] }
def Aey:Gm:=[(183,wg N),(184,Rr N),(115,wl N),(186,X4 N),(187,Aog N),(109,wv N)]
def Auy (F:KF R):=Ko Tryz.f107 wx (Aey N) [] N F
def AY (F:KF R):LA→Int→O R:=(fun ak al=>F (.tup [(.pagg ak false),(iv al)]) [])
def Auz (l:Int) (g i f:Bool) (d p:LA) (q r:Bool) (m:LA) (b:Nat) (o:LA) (c:Int) (e:LA):St:=⟨[(2,(op 0)),(4,(op 1)),(6,(.own 300002 0 8)),(7,(iv l)),(8,(op 3)),(9,(.bool q)),(10,(.bool r)),(11,(.imm m b 1 g i)),(33,(.pagg o false)),(34,(iv c))],(hq [(bP f 0 d),(bQ 0 [(iv 0),(iv 0),(iv 0),(iv 0)]),(bQ 5 p),(bQ 0 e)])⟩
def Au0 (F:KF R):=Auy N F [1,1,1,1,1,1,1,0,1,0] []
theorem ew (F:KF R) (l:Int) (g i f:Bool) (d p:LA):∀ (n:Nat) (q r:Bool) (m:LA) (b:Nat) (o:LA) (c:Int) (e:LA),Aj (Au0 N F) n (Auz l g i f d p q r m b o c e)=(Ke N (AY F) l g i f d p n q r m b o c e)
 | 0,_,_,_,_,_,_,_=>by kernel_rfl
 | n+1,q,r,m,b,o,c,e=>Eq.trans (by kernel_rfl) (Bu (EW N (AY F) l g i f d p · q r m b o c e) (funext fun q=>funext fun r=>funext fun m=>funext fun b=>funext fun o=>funext fun c=>funext fun e=>(ew F l g i f d p n q r m b o c e)):_)
theorem wy (d:LA) (f:Bool) (t:LA) (s:Nat) (g i:Bool) (F:KF R):C2 (Aey N) wx N 107 [(.pagg d f),(.imm t s 1 g i)] [] F=(RB N d f t s g i (AY F)):=by
 rw[qV]
 exact Eq.trans (by kernel_rfl) (Bu (gV N (AY F) · d f t s g i) (funext fun l=>funext fun p=>funext fun q=>funext fun r=>funext fun m=>funext fun b=>funext fun o=>funext fun c=>funext fun e=>(Ad ..).trans (ew N F l g i f d p N q r m b o c e)):_)
def qW (a:LA) (h:Ai) (k:KF R):O R :=
 match a,h with
 | [(.pagg d f),(.imm t s 1 g i)],[]=>(RB N d f t s g i (AY k))
 | _,_=>none
theorem wz:Am N 107 @qW:=by
 intro R Q a h k j;unfold qW;split;exact Az (wy ..) (wy ..) ⟨wh N,Rs N,wm N,X5 N,Aoh N,ww N,trivial⟩;exact A2
def Au1:=A1 (wz N)
def Au2:=C5 (wz N)
def Uk (N:Nat) (k0:List UInt8→Nat→Int→Bool→LA→O R) (r0:Nat→Int→Int→LA→O R) (l:List UInt8) (d:Int) (m c:Bool) (b:LA) (o:Nat) (q:Int) (s p:LA):O R :=
 (cond (q != 0) (r0 0 d q []) (cond (Nat.ble 4 (p.length)) (cond ((Nat.beq ((p.take 4).length) 4)&&(Nat.ble 4 4)) (cond ((Nat.ble (o+1) 140737488355328)&&(Nat.ble ((o+1)*32) 140737488355328)) (k0 l (o+1) (wrap .i64 (d+1)) m ((s.take (o*4))++((setCells [(.int .i64 0),(.int .i64 0),(.int .i64 0),(.int .i64 0)] 0 (p.take 4)).take 4))) none) none) none))
def EX (r0:Nat→Int→Int→LA→O R) (c:Bool) (b:LA) (k0:List UInt8→Nat→Int→Bool→LA→O R) (q1:List UInt8→Bool→Nat→Int→LA→LA→O R) (g:List UInt8) (e:Nat) (d:Int) (i:Bool) (f:LA):O R :=
 (cond i (strings_Cut N g ([10]:List UInt8) (fun x l m=>(eh N x (fun u y=>(cond (((u:Nat):Int)==0) (k0 l e (wrap .i64 (d+1)) m f) (cond (Nat.ble 8 (b.length)) (RB N (b.take 8) c (y.take (u*1)) u false true (fun t v=>(cond ((Nat.beq (t.length) 4)&&((Nat.ble 4 4)&&(!false))) (cond ((v==0)==true) (cond (cond true (((e:Nat):Int)==256) false) (q1 l m e 8 f (setCells [(.int .i64 0),(.int .i64 0),(.int .i64 0),(.int .i64 0)] 0 t)) (q1 l m e v f (setCells [(.int .i64 0),(.int .i64 0),(.int .i64 0),(.int .i64 0)] 0 t))) (q1 l m e v f (setCells [(.int .i64 0),(.int .i64 0),(.int .i64 0),(.int .i64 0)] 0 t))) none))) none)))))) (r0 e 0 0 f))
def Me (r0:Nat→Int→Int→LA→O R) (c:Bool) (b:LA):Nat→List UInt8→Nat→Int→Bool→LA→O R
 | 0,_,_,_,_,_=>none
 | n+1,g,e,d,i,f=>(EX N r0 c b (Me r0 c b n) (fun l m o q s p=>(Uk N (Me r0 c b n) r0 l d m c b o q s p)) g e d i f)
def gW (r0:Nat→Int→Int→LA→O R) (q0:List UInt8→Nat→Int→Bool→LA→O R) (b:LA) (c:Bool) (r:List UInt8):O R :=
 (cond (Nat.ble 8 (b.length)) (IC N (b.take 8) c (fun z w=>(cond ((Nat.beq (z.length) 3)&&((Nat.ble 3 3)&&(!false))) (cond (w != 0) (r0 0 0 w []) (cond (decide ((((r.length):Nat):Int)>1048576)) (r0 0 0 8 []) (q0 r 0 1 true []))) none))) none)
def Ho:=(Ah (fun (N:Nat) (b:LA) (c:Bool) (r:List UInt8) (r0:Nat→Int→Int→LA→O R)=>(gW N r0 (fun g e d i f=>(Me N r0 c b N g e d i f)) b c r))).1
theorem qX (b c r r0):(@Ho R N b c r r0)=(gW N r0 (fun g e d i f=>(Me N r0 c b N g e d i f)) b c r):=by rw[Ho,(Ah _).2]
def xA:Hints:={ H:=(hS hL (hS hL (hS hL (hS hL (hS (hS hL (hS (hP [1,2,9,10,11] (hS hL (hS (hS (hS hL (hS hL (hS hL (hS hL (hS hL (hJ [1,2,9,10,11,14,15] hL hL)))))) hL) hL))) hL)) hL))))),nils:=[(4,4),(9,4)],modes:=[(2,4),(0,0),(0,0)] }
def Aez:Gm:=[(104,wX N),(105,GR N),(106,Auk N),(107,Au1 N)]
def xB (F:KF R):=Ko Tryz.f44 xA (Aez N) [] N F
def Qk (F:KF R):Nat→Int→Int→LA→O R:=(fun aa ab ac ad=>F (.tup [(.own 300000 0 aa),(iv ab),(iv ac)]) (hq [(bQ 4 ad)]))
def Au3 (l:List UInt8) (d:Int) (m c:Bool) (b:LA) (o:Nat) (q:Int) (s p:LA):St:=⟨[(1,(.str l)),(2,(op 0)),(9,(.own 300001 0 o)),(10,(iv d)),(11,(.bool m)),(14,(op 2)),(15,(iv q))],(hq [(bP c 0 b),(bQ 4 s),(bQ 0 p)])⟩
def Au4 (F:KF R) (Q0:St→O R):=xB N F [1,1,1,1,0,1,0,0,1,0,0,1,1,1,1,1,1] [Q0]
def xC (c:Bool) (b:LA) (g:List UInt8) (e:Nat) (d:Int) (i:Bool) (f:LA):St:=⟨[(1,(.str g)),(2,(op 0)),(9,(.own 300001 0 e)),(10,(iv d)),(11,(.bool i))],(hq [(bP c 0 b),(bQ 4 f)])⟩
def xD (F:KF R):=xB N F [1,1,1,1,0,1,0] []
theorem Ae0 (Q0:St→O R) (F:KF R) (l:List UInt8) (d:Int) (m c:Bool) (b:LA):∀ (o:Nat) (q:Int) (s p:LA),B9 (Au4 N F Q0) (Au3 l d m c b o q s p)=(Uk N (fun g e d i f=>Q0 (xC c b g e d i f)) (Qk F) l d m c b o q s p):=by
 intro o q s p
 kernel_rfl
theorem ex (F:KF R) (c:Bool) (b:LA):∀ (n:Nat) (g:List UInt8) (e:Nat) (d:Int) (i:Bool) (f:LA),Aj (xD N F) n (xC c b g e d i f)=(Me N (Qk F) c b n g e d i f)
 | 0,_,_,_,_,_=>by kernel_rfl
 | n+1,g,e,d,i,f=>have e0:=(funext fun g=>funext fun e=>funext fun d=>funext fun i=>funext fun f=>(ex F c b n g e d i f))
  Eq.trans (by kernel_rfl) (NY (EX N (Qk F) c b · · g e d i f) e0 (funext fun l=>funext fun m=>funext fun o=>funext fun q=>funext fun s=>funext fun p=>(A4 ..).trans ((Ae0 N (Aj (xD N F) n) F l d m c b o q s p).trans (Bu (Uk N · (Qk F) l d m c b o q s p) e0))):_)
theorem xE (b:LA) (c:Bool) (r:List UInt8) (F:KF R):C2 (Aez N) xA N 44 [(.pagg b c),(.str r)] [] F=(Ho N b c r (Qk F)):=by
 rw[qX]
 exact Eq.trans (by kernel_rfl) (Bu (gW N (Qk F) · b c r) (funext fun g=>funext fun e=>funext fun d=>funext fun i=>funext fun f=>(Ad ..).trans (ex N F c b N g e d i f)):_)
def qY (a:LA) (h:Ai) (k:KF R):O R :=
 match a,h with
 | [(.pagg b c),(.str r)],[]=>(Ho N b c r (Qk k))
 | _,_=>none
theorem xF:Am N 44 @qY:=by
 intro R Q a h k j;unfold qY;split;exact Az (xE ..) (xE ..) ⟨wY N,bU N,Aul N,Au2 N,trivial⟩;exact A2
def ey:=A1 (xF N)
def ez:=C5 (xF N)
def Y9 (r0:Nat→LA→O R) (b:Int) (k0:Nat→Int→LA→O R) (d:Nat) (c:Int) (e:LA):O R :=
 (cond (decide (c<b)) (Zh N (fun f=>(cond (Ae c d) (cond ((Nat.beq (f.length) 3)&&((Nat.ble ((0+((c.toNat)*3))+3) (e.length))&&(!false))) (k0 d (wrap .i64 (c+1)) (setCells e (0+((c.toNat)*3)) f)) none) none))) (r0 d e))
def Kf (r0:Nat→LA→O R) (b:Int):Nat→Nat→Int→LA→O R
 | 0,_,_,_=>none
 | n+1,d,c,e=>(Y9 N r0 b (Kf r0 b n) d c e)
def UO (N:Nat) (r0:Nat→LA→O R) (q0:Nat→Int→LA→O R) (b:Int):O R :=
 (cond ((decide (0≤b))&&((decide (b≤b))&&((decide (b≤140737488355328))&&(decide ((b*((56:Nat):Int))≤140737488355328))))) (q0 (b.toNat) 0 (List.flatten (List.replicate (b.toNat) ([(.bool false),.nsl,.nsl]:LA)))) none)
def Fo:=(Ah (fun (N:Nat) (b:Int) (r0:Nat→LA→O R)=>(UO N r0 (fun d c e=>(Kf N r0 b N d c e)) b))).1
theorem k8 (b r0):(@Fo R N b r0)=(UO N r0 (fun d c e=>(Kf N r0 b N d c e)) b):=by rw[Fo,(Ah _).2]
def qZ:Hints:={ H:=(hS hL (hS hL (hS (hS hL (hS (hP [0,3,4] hL) hL)) hL))),nils:=[(2,3)],modes:=[(2,3)] }
def xG:Gm:=[(151,bC N)]
def Aon (F:KF R):=Ko Tryz.f255 qZ (xG N) [] N F
def V3 (F:KF R):Nat→LA→O R:=(fun g i=>F (.own 300000 0 g) (hq [(bQ 3 i)]))
def Aoo (b:Int) (d:Nat) (c:Int) (e:LA):St:=⟨[(0,(iv b)),(3,(.own 300000 0 d)),(4,(iv c))],(hq [(bQ 3 e)])⟩
def Aop (F:KF R):=Aon N F [1,1,0,1,0] []
theorem YZ (F:KF R) (b:Int):∀ (n d:Nat) (c:Int) (e:LA),Aj (Aop N F) n (Aoo b d c e)=(Kf N (V3 F) b n d c e)
 | 0,_,_,_=>by kernel_rfl
 | n+1,d,c,e=>Eq.trans (by kernel_rfl) (Bu (Y9 N (V3 F) b · d c e) (funext fun d=>funext fun c=>funext fun e=>(YZ F b n d c e)):_)
theorem q_ (b:Int) (F:KF R):C2 (xG N) qZ N 255 [(iv b)] [] F=(Fo N b (V3 F)):=by
 rw[k8]
 exact Eq.trans (by kernel_rfl) (Bu (UO N (V3 F) · b) (funext fun d=>funext fun c=>funext fun e=>(Ad ..).trans (YZ N F b N d c e)):_)
def k_ (a:LA) (h:Ai) (k:KF R):O R :=
 match a,h with
 | [(.int .i64 b)],[]=>(Fo N b (V3 k))
 | _,_=>none
theorem qa:Am N 255 @k_:=by
 intro R Q a h k j;unfold k_;split;exact Az (q_ ..) (q_ ..) ⟨bD N,trivial⟩;exact A2
def Aoq:=A1 (qa N)
def Aor:=C5 (qa N)
def NC (r0:Nat→Nat→Nat→Nat→Nat→Nat→Nat→LA→LA→LA→LA→LA→LA→LA→LA→O R) (c:Bool) (b:LA) (d f g i p r:Nat) (e l m o q s:LA) (k4:Int→Nat→LA→O R) (v:Int) (t:Nat) (w:LA):O R :=
 (B4 12 (b.drop 3) fun bv aj=>(cond (decide (v<((aj:Nat):Int))) (As .i64 b fun ak=>(Fo N ak (fun ab al=>(cond ((Nat.ble (t+1) 140737488355328)&&(Nat.ble ((t+1)*24) 140737488355328)) (k4 (wrap .i64 (v+1)) (t+1) ((w.take (t*1))++[(.imm (al.take (ab*3)) ab 3 false false)])) none)))) (r0 d f g i p r t e l m o q s w [])))
def V4 (r0:Nat→Nat→Nat→Nat→Nat→Nat→Nat→LA→LA→LA→LA→LA→LA→LA→LA→O R) (c:Bool) (b:LA) (d f g i p r:Nat) (e l m o q s:LA):Nat→Int→Nat→LA→O R
 | 0,_,_,_=>none
 | n+1,v,t,w=>(NC N r0 c b d f g i p r e l m o q s (V4 r0 c b d f g i p r e l m o q s n) v t w)
def Za (r0:Nat→Nat→Nat→Nat→Nat→Nat→Nat→LA→LA→LA→LA→LA→LA→LA→LA→O R) (c:Bool) (b:LA) (d f g i p:Nat) (e l m o q:LA) (k3:Int→Nat→LA→O R) (q4:Int→Nat→LA→O R) (x:Int) (r:Nat) (s:LA):O R :=
 (B4 3 (b.drop 2) fun bw am=>(cond (decide (x<((am:Nat):Int))) (As .i64 b fun an=>(Fo N an (fun ac ao=>(cond ((Nat.ble (r+1) 140737488355328)&&(Nat.ble ((r+1)*24) 140737488355328)) (k3 (wrap .i64 (x+1)) (r+1) ((s.take (r*1))++[(.imm (ao.take (ac*3)) ac 3 false false)])) none)))) (q4 0 0 [])))
def Ni (r0:Nat→Nat→Nat→Nat→Nat→Nat→Nat→LA→LA→LA→LA→LA→LA→LA→LA→O R) (c:Bool) (b:LA) (d f g i p:Nat) (e l m o q:LA):Nat→Int→Nat→LA→O R
 | 0,_,_,_=>none
 | n+1,x,r,s=>(Za N r0 c b d f g i p e l m o q (Ni r0 c b d f g i p e l m o q n) (fun v t w=>(V4 N r0 c b d f g i p r e l m o q s N v t w)) x r s)
def ND (r0:Nat→Nat→Nat→Nat→Nat→Nat→Nat→LA→LA→LA→LA→LA→LA→LA→LA→O R) (c:Bool) (b:LA) (d f g i:Nat) (e l m o:LA) (k2:Int→Nat→LA→O R) (q3:Int→Nat→LA→O R) (y:Int) (p:Nat) (q:LA):O R :=
 (B4 5 (b.drop 6) fun bx ap=>(cond (decide (y<((ap:Nat):Int))) (As .i64 b fun aq=>(Fo N aq (fun ad ar=>(cond ((Nat.ble (p+1) 140737488355328)&&(Nat.ble ((p+1)*24) 140737488355328)) (k2 (wrap .i64 (y+1)) (p+1) ((q.take (p*1))++[(.imm (ar.take (ad*3)) ad 3 false false)])) none)))) (q3 0 0 [])))
def V5 (r0:Nat→Nat→Nat→Nat→Nat→Nat→Nat→LA→LA→LA→LA→LA→LA→LA→LA→O R) (c:Bool) (b:LA) (d f g i:Nat) (e l m o:LA):Nat→Int→Nat→LA→O R
 | 0,_,_,_=>none
 | n+1,y,p,q=>(ND N r0 c b d f g i e l m o (V5 r0 c b d f g i e l m o n) (fun x r s=>(Ni N r0 c b d f g i p e l m o q N x r s)) y p q)
def NE (r0:Nat→Nat→Nat→Nat→Nat→Nat→Nat→LA→LA→LA→LA→LA→LA→LA→LA→O R) (c:Bool) (b:LA) (d:Nat) (e:LA) (k1:Int→Nat→Nat→Nat→LA→LA→LA→O R) (q2:Int→Nat→LA→O R) (z:Int) (f g i:Nat) (l m o:LA):O R :=
 (B4 9 (b.drop 5) fun bz au=>(cond (decide (z<((au:Nat):Int))) (As .i64 b fun av=>(Fo N av (fun ae aw=>(cond ((Nat.ble (f+1) 140737488355328)&&(Nat.ble ((f+1)*24) 140737488355328)) (As .i64 b fun ax=>(Fo N ax (fun af ay=>(cond ((Nat.ble (g+1) 140737488355328)&&(Nat.ble ((g+1)*24) 140737488355328)) (As .i64 b fun az=>(Fo N az (fun ag ba=>(cond ((Nat.ble (i+1) 140737488355328)&&(Nat.ble ((i+1)*24) 140737488355328)) (k1 (wrap .i64 (z+1)) (f+1) (g+1) (i+1) ((l.take (f*1))++[(.imm (aw.take (ae*3)) ae 3 false false)]) ((m.take (g*1))++[(.imm (ay.take (af*3)) af 3 false false)]) ((o.take (i*1))++[(.imm (ba.take (ag*3)) ag 3 false false)])) none)))) none)))) none)))) (q2 0 0 [])))
def V6 (r0:Nat→Nat→Nat→Nat→Nat→Nat→Nat→LA→LA→LA→LA→LA→LA→LA→LA→O R) (c:Bool) (b:LA) (d:Nat) (e:LA):Nat→Int→Nat→Nat→Nat→LA→LA→LA→O R
 | 0,_,_,_,_,_,_,_=>none
 | n+1,z,f,g,i,l,m,o=>(NE N r0 c b d e (V6 r0 c b d e n) (fun y p q=>(V5 N r0 c b d f g i e l m o N y p q)) z f g i l m o)
def Zb (r0:Nat→Nat→Nat→Nat→Nat→Nat→Nat→LA→LA→LA→LA→LA→LA→LA→LA→O R) (c:Bool) (b:LA) (k0:Int→Nat→LA→O R) (q1:Int→Nat→Nat→Nat→LA→LA→LA→O R) (u:Int) (d:Nat) (e:LA):O R :=
 (B4 22 (b.drop 4) fun ca bb=>(cond (decide (u<((bb:Nat):Int))) (As .i64 b fun aa=>(cond ((decide (0≤aa))&&((decide (aa≤aa))&&((decide (aa≤140737488355328))&&(decide ((aa*((8:Nat):Int))≤140737488355328))))) (As .i64 b fun bc=>(Fo N bc (fun ah bd=>(As .i64 b fun be=>(Fo N be (fun ai bf=>(cond ((Nat.ble (d+1) 140737488355328)&&(Nat.ble ((d+1)*72) 140737488355328)) (k0 (wrap .i64 (u+1)) (d+1) ((e.take (d*3))++[(.imm (List.take ((aa.toNat)*1) (List.replicate (aa.toNat) (.int .i64 0))) (aa.toNat) 1 false false),(.imm (bd.take (ah*3)) ah 3 false false),(.imm (bf.take (ai*3)) ai 3 false false)])) none))))))) none)) (q1 0 0 0 0 [] [] [])))
def Kg (r0:Nat→Nat→Nat→Nat→Nat→Nat→Nat→LA→LA→LA→LA→LA→LA→LA→LA→O R) (c:Bool) (b:LA):Nat→Int→Nat→LA→O R
 | 0,_,_,_=>none
 | n+1,u,d,e=>(Zb N r0 c b (Kg r0 c b n) (fun z f g i l m o=>(V6 N r0 c b d e N z f g i l m o)) u d e)
def UP (N:Nat) (r0:Nat→Nat→Nat→Nat→Nat→Nat→Nat→LA→LA→LA→LA→LA→LA→LA→LA→O R) (q0:Int→Nat→LA→O R) (b:LA) (c:Bool):O R :=
 (q0 0 0 [])
def FP:=(Ah (fun (N:Nat) (b:LA) (c:Bool) (r0:Nat→Nat→Nat→Nat→Nat→Nat→Nat→LA→LA→LA→LA→LA→LA→LA→LA→O R)=>(UP N r0 (fun u d e=>(Kg N r0 c b N u d e)) b c))).1
theorem kc (b c r0):(@FP R N b c r0)=(UP N r0 (fun u d e=>(Kg N r0 c b N u d e)) b c):=by rw[FP,(Ah _).2]
def qb:Hints:={ H:=(hS hL (hS hL (hS (hS hL (hS (hP [1,2,3,4] hL) hL)) (hS (hS hL (hS (hP [1,2,3,5] hL) hL)) (hS (hS hL (hS (hP [1,2,3,6] hL) hL)) (hS (hS hL (hS (hP [1,2,3,7] hL) hL)) (hS (hS hL (hS (hP [1,2,3,8] hL) hL)) hL))))))),cob:=[27,1000002,1000003] }
def xH:Gm:=[(255,Aoq N)]
def V7 (F:KF R):=Ko Tryz.f188 qb (xH N) [] N F
def D2 (F:KF R):Nat→Nat→Nat→Nat→Nat→Nat→Nat→LA→LA→LA→LA→LA→LA→LA→LA→O R:=(fun bg bh bi bj bk bl bm bn bo bp bq br bs bt bu=>F (.agg [(.own 300000 0 bg),(.own 300001 0 bh),(.own 300002 0 bi),(.own 300003 0 bj),(.own 300004 0 bk),(.own 300005 0 bl),(.own 300006 0 bm),(.own 300007 0 0)]) (hq [(bQ 3 bn),(bQ 1 bo),(bQ 1 bp),(bQ 1 bq),(bQ 1 br),(bQ 1 bs),(bQ 1 bt),(bQ 4 bu)]))
def Aos (c:Bool) (b:LA) (d f g i p r:Nat) (e l m o q s:LA) (v:Int) (t:Nat) (w:LA):St:=⟨[(1,(op 0)),(2,(op 1)),(3,(op 2)),(8,(iv v))],(hq [(bP c 0 b),(bN 0 [(.own 300003 0 0),(.own 300004 0 0),(.own 300005 0 0),(.own 300006 0 0),(.own 300007 0 0),(.own 300008 0 0),(.own 300009 0 0),(.own 300010 0 0)]),(bN 0 [(.own 300011 0 d),(.own 300012 0 f),(.own 300013 0 g),(.own 300014 0 i),(.own 300015 0 p),(.own 300016 0 r),(.own 300017 0 t),(.own 300018 0 0)]),(bQ 3 []),(bQ 1 []),(bQ 1 []),(bQ 1 []),(bQ 1 []),(bQ 1 []),(bQ 1 []),(bQ 4 []),(bQ 3 e),(bQ 1 l),(bQ 1 m),(bQ 1 o),(bQ 1 q),(bQ 1 s),(bQ 1 w),(bQ 4 [])])⟩
def Aot (F:KF R):=V7 N F [1,1,1,1,1,1,0,1,0] []
def Aou (c:Bool) (b:LA) (d f g i p:Nat) (e l m o q:LA) (x:Int) (r:Nat) (s:LA):St:=⟨[(1,(op 0)),(2,(op 1)),(3,(op 2)),(7,(iv x))],(hq [(bP c 0 b),(bN 0 [(.own 300003 0 0),(.own 300004 0 0),(.own 300005 0 0),(.own 300006 0 0),(.own 300007 0 0),(.own 300008 0 0),(.own 300009 0 0),(.own 300010 0 0)]),(bN 0 [(.own 300011 0 d),(.own 300012 0 f),(.own 300013 0 g),(.own 300014 0 i),(.own 300015 0 p),(.own 300016 0 r),(.own 300017 0 0),(.own 300018 0 0)]),(bQ 3 []),(bQ 1 []),(bQ 1 []),(bQ 1 []),(bQ 1 []),(bQ 1 []),(bQ 1 []),(bQ 4 []),(bQ 3 e),(bQ 1 l),(bQ 1 m),(bQ 1 o),(bQ 1 q),(bQ 1 s),(bQ 1 []),(bQ 4 [])])⟩
def Aov (F:KF R):=V7 N F [1,1,1,1,1,0,1,0] []
def Aow (c:Bool) (b:LA) (d f g i:Nat) (e l m o:LA) (y:Int) (p:Nat) (q:LA):St:=⟨[(1,(op 0)),(2,(op 1)),(3,(op 2)),(6,(iv y))],(hq [(bP c 0 b),(bN 0 [(.own 300003 0 0),(.own 300004 0 0),(.own 300005 0 0),(.own 300006 0 0),(.own 300007 0 0),(.own 300008 0 0),(.own 300009 0 0),(.own 300010 0 0)]),(bN 0 [(.own 300011 0 d),(.own 300012 0 f),(.own 300013 0 g),(.own 300014 0 i),(.own 300015 0 p),(.own 300016 0 0),(.own 300017 0 0),(.own 300018 0 0)]),(bQ 3 []),(bQ 1 []),(bQ 1 []),(bQ 1 []),(bQ 1 []),(bQ 1 []),(bQ 1 []),(bQ 4 []),(bQ 3 e),(bQ 1 l),(bQ 1 m),(bQ 1 o),(bQ 1 q),(bQ 1 []),(bQ 1 []),(bQ 4 [])])⟩
def Aox (F:KF R):=V7 N F [1,1,1,1,0,1,0] []
def Aoy (c:Bool) (b:LA) (d:Nat) (e:LA) (z:Int) (f g i:Nat) (l m o:LA):St:=⟨[(1,(op 0)),(2,(op 1)),(3,(op 2)),(5,(iv z))],(hq [(bP c 0 b),(bN 0 [(.own 300003 0 0),(.own 300004 0 0),(.own 300005 0 0),(.own 300006 0 0),(.own 300007 0 0),(.own 300008 0 0),(.own 300009 0 0),(.own 300010 0 0)]),(bN 0 [(.own 300011 0 d),(.own 300012 0 f),(.own 300013 0 g),(.own 300014 0 i),(.own 300015 0 0),(.own 300016 0 0),(.own 300017 0 0),(.own 300018 0 0)]),(bQ 3 []),(bQ 1 []),(bQ 1 []),(bQ 1 []),(bQ 1 []),(bQ 1 []),(bQ 1 []),(bQ 4 []),(bQ 3 e),(bQ 1 l),(bQ 1 m),(bQ 1 o),(bQ 1 []),(bQ 1 []),(bQ 1 []),(bQ 4 [])])⟩
def Aoz (F:KF R):=V7 N F [1,1,1,0,1,0] []
def Ao0 (c:Bool) (b:LA) (u:Int) (d:Nat) (e:LA):St:=⟨[(1,(op 0)),(2,(op 1)),(3,(op 2)),(4,(iv u))],(hq [(bP c 0 b),(bN 0 [(.own 300003 0 0),(.own 300004 0 0),(.own 300005 0 0),(.own 300006 0 0),(.own 300007 0 0),(.own 300008 0 0),(.own 300009 0 0),(.own 300010 0 0)]),(bN 0 [(.own 300011 0 d),(.own 300012 0 0),(.own 300013 0 0),(.own 300014 0 0),(.own 300015 0 0),(.own 300016 0 0),(.own 300017 0 0),(.own 300018 0 0)]),(bQ 3 []),(bQ 1 []),(bQ 1 []),(bQ 1 []),(bQ 1 []),(bQ 1 []),(bQ 1 []),(bQ 4 []),(bQ 3 e),(bQ 1 []),(bQ 1 []),(bQ 1 []),(bQ 1 []),(bQ 1 []),(bQ 1 []),(bQ 4 [])])⟩
def Ao1 (F:KF R):=V7 N F [1,1,0,1,0] []
theorem Y_ (F:KF R) (c:Bool) (b:LA) (d f g i p r:Nat) (e l m o q s:LA):∀ (n:Nat) (v:Int) (t:Nat) (w:LA),Aj (Aot N F) n (Aos c b d f g i p r e l m o q s v t w)=(V4 N (D2 F) c b d f g i p r e l m o q s n v t w)
 | 0,_,_,_=>by kernel_rfl
 | n+1,v,t,w=>Eq.trans (by kernel_rfl) (Bu (NC N (D2 F) c b d f g i p r e l m o q s · v t w) (funext fun v=>funext fun t=>funext fun w=>(Y_ F c b d f g i p r e l m o q s n v t w)):_)
theorem Y' (F:KF R) (c:Bool) (b:LA) (d f g i p:Nat) (e l m o q:LA):∀ (n:Nat) (x:Int) (r:Nat) (s:LA),Aj (Aov N F) n (Aou c b d f g i p e l m o q x r s)=(Ni N (D2 F) c b d f g i p e l m o q n x r s)
 | 0,_,_,_=>by kernel_rfl
 | n+1,x,r,s=>Eq.trans (by kernel_rfl) (NY (Za N (D2 F) c b d f g i p e l m o q · · x r s) (funext fun x=>funext fun r=>funext fun s=>(Y' F c b d f g i p e l m o q n x r s)) (funext fun v=>funext fun t=>funext fun w=>(Ad ..).trans (Y_ N F c b d f g i p r e l m o q s N v t w)):_)
theorem ZA (F:KF R) (c:Bool) (b:LA) (d f g i:Nat) (e l m o:LA):∀ (n:Nat) (y:Int) (p:Nat) (q:LA),Aj (Aox N F) n (Aow c b d f g i e l m o y p q)=(V5 N (D2 F) c b d f g i e l m o n y p q)
 | 0,_,_,_=>by kernel_rfl
 | n+1,y,p,q=>Eq.trans (by kernel_rfl) (NY (ND N (D2 F) c b d f g i e l m o · · y p q) (funext fun y=>funext fun p=>funext fun q=>(ZA F c b d f g i e l m o n y p q)) (funext fun x=>funext fun r=>funext fun s=>(Ad ..).trans (Y' N F c b d f g i p e l m o q N x r s)):_)
theorem ZB (F:KF R) (c:Bool) (b:LA) (d:Nat) (e:LA):∀ (n:Nat) (z:Int) (f g i:Nat) (l m o:LA),Aj (Aoz N F) n (Aoy c b d e z f g i l m o)=(V6 N (D2 F) c b d e n z f g i l m o)
 | 0,_,_,_,_,_,_,_=>by kernel_rfl
 | n+1,z,f,g,i,l,m,o=>Eq.trans (by kernel_rfl) (NY (NE N (D2 F) c b d e · · z f g i l m o) (funext fun z=>funext fun f=>funext fun g=>funext fun i=>funext fun l=>funext fun m=>funext fun o=>(ZB F c b d e n z f g i l m o)) (funext fun y=>funext fun p=>funext fun q=>(Ad ..).trans (ZA N F c b d f g i e l m o N y p q)):_)
theorem ZC (F:KF R) (c:Bool) (b:LA):∀ (n:Nat) (u:Int) (d:Nat) (e:LA),Aj (Ao1 N F) n (Ao0 c b u d e)=(Kg N (D2 F) c b n u d e)
 | 0,_,_,_=>by kernel_rfl
 | n+1,u,d,e=>Eq.trans (by kernel_rfl) (NY (Zb N (D2 F) c b · · u d e) (funext fun u=>funext fun d=>funext fun e=>(ZC F c b n u d e)) (funext fun z=>funext fun f=>funext fun g=>funext fun i=>funext fun l=>funext fun m=>funext fun o=>(Ad ..).trans (ZB N F c b d e N z f g i l m o)):_)
theorem qc (b:LA) (c:Bool) (F:KF R):C2 (xH N) qb N 188 [(.pagg b c)] [] F=(FP N b c (D2 F)):=by
 rw[kc]
 exact Eq.trans (by kernel_rfl) (Bu (UP N (D2 F) · b c) (funext fun u=>funext fun d=>funext fun e=>(Ad ..).trans (ZC N F c b N u d e)):_)
def ke (a:LA) (h:Ai) (k:KF R):O R :=
 match a,h with
 | [(.pagg b c)],[]=>(FP N b c (D2 k))
 | _,_=>none
theorem qd:Am N 188 @ke:=by
 intro R Q a h k j;unfold ke;split;exact Az (qc ..) (qc ..) ⟨Aor N,trivial⟩;exact A2
def Ao2:=A1 (qd N)
def Ao3:=C5 (qd N)
def fA (r0:LA→LA→O R):O R :=
 (FP N [(.int .i64 1),(.imm [(.int .i64 0)] 1 1 false true),(.imm [(.str ([97]:List UInt8)),(.imm [(.int .i64 15)] 1 1 false false),(.int .i64 0)] 1 3 false true),.nsl,(.imm [(.str ([103]:List UInt8)),(.int .i64 0),(.int .i64 10),(.int .i64 20),(.imm [(.int .i64 10),(.int .i64 2)] 1 2 false false),(.int .i64 7),(.int .i64 20),(.int .i64 20),(.int .i64 20),(.int .i64 20),(.int .i64 1),(.int .i64 1),(.int .i64 0),(.int .i64 0),(.int .i64 0),(.int .i64 1),(.int .i64 0),(.int .i64 0),.nsl,(.int .i64 2),(.int .i64 1),(.int .i64 15)] 1 22 false true),.nsl,.nsl,.nsl] true (fun b c d e f g i l o p q r s t w=>(Zk N 15 (fun m=>(cond ((Nat.beq (m.length) 3)&&(Nat.ble 3 3)) (Zh N (fun n=>(cond ((Nat.beq (n.length) 3)&&(Nat.ble 3 3)) (cond (Ae 0 b) (cond ((Nat.beq 3 3)&&((Nat.ble 3 (l.length))&&(!false))) (r0 [(.int .i64 1),(.imm [(.int .i64 0)] 1 1 false false),(.imm [(.str ([97]:List UInt8)),(.imm [(.int .i64 15)] 1 1 false false),(.int .i64 0)] 1 3 false false),.nsl,(.imm [(.str ([103]:List UInt8)),(.int .i64 0),(.int .i64 10),(.int .i64 20),(.imm [(.int .i64 10),(.int .i64 2)] 1 2 false false),(.int .i64 7),(.int .i64 20),(.int .i64 20),(.int .i64 20),(.int .i64 20),(.int .i64 1),(.int .i64 1),(.int .i64 0),(.int .i64 0),(.int .i64 0),(.int .i64 1),(.int .i64 0),(.int .i64 0),.nsl,(.int .i64 2),(.int .i64 1),(.int .i64 15)] 1 22 false false),.nsl,.nsl,.nsl] [(.imm ((Cx l 0 [(.imm [(.int .i64 2)] 1 1 false false),(.imm ((setCells [(.bool false),.nsl,.nsl] 0 m).take 3) 1 3 false false),(.imm ((setCells [(.bool false),.nsl,.nsl] 0 n).take 3) 1 3 false false)]).take (b*3)) b 3 false false),(.imm (o.take (c*1)) c 1 false false),(.imm (p.take (d*1)) d 1 false false),(.imm (q.take (e*1)) e 1 false false),(.imm (r.take (f*1)) f 1 false false),(.imm (s.take (g*1)) g 1 false false),(.imm (t.take (i*1)) i 1 false false),(.imm [] 0 4 false false)]) none) none) none))) none)))))
def IE:=(Ah (@fA R)).1
theorem fB:@IE R=@fA R:=(Ah _).2
def Ahz:Hints:={ H:=hL,modes:=[(3,0),(3,0)] }
def Ao4:Gm:=[(188,Ao2 N),(94,Abg N),(151,bC N)]
def kf (F:KF R):LA→LA→O R:=(fun u v=>F (.tup [(.pagg u false),(.pagg v false)]) [])
theorem kg (F:KF R):C2 (Ao4 N) Ahz N 108 [] [] F=(IE N (kf F)):=by
 rw[fB]
 kernel_rfl
def fC (a:LA) (h:Ai) (k:KF R):O R :=
 match a,h with
 | [],[]=>(IE N (kf k))
 | _,_=>none
theorem ki:Am N 108 @fC:=by
 intro R Q a h k j;unfold fC;split;exact Az (kg ..) (kg ..) ⟨Ao3 N,Abh N,bD N,trivial⟩;exact A2
def Ah0:=A1 (ki N)
def Ah1:=C5 (ki N)
def EY (N:Nat) (r0:Bool→O R) (c:LA) (e:Nat) (l g:Bool) (d:LA) (f:Nat) (m i:Bool) (k0:Int→O R) (b:Int):O R :=
 (cond (decide (b<((e:Nat):Int))) (cond (Ae b e) (cond (Nat.ble 4 ((c.drop ((b.toNat)*4)).length)) (cond ((!g)||(A0 ((c.drop ((b.toNat)*4)).take 4))) (cond (Ae b f) (cond (Nat.ble 4 ((d.drop ((b.toNat)*4)).length)) (cond ((!i)||(A0 ((d.drop ((b.toNat)*4)).take 4))) (cond ((Nat.ble 1 4)&&((Nat.beq (((c.drop ((b.toNat)*4)).take 4).length) 4)&&((Nat.beq (((d.drop ((b.toNat)*4)).take 4).length) 4)&&(true&&(!false))))) (As .i64 ((c.drop ((b.toNat)*4)).take 4) fun o=>(As .i64 ((d.drop ((b.toNat)*4)).take 4) fun p=>(As .i64 (((c.drop ((b.toNat)*4)).take 4).drop 1) fun q=>(As .i64 (((d.drop ((b.toNat)*4)).take 4).drop 1) fun r=>(As .i64 (((c.drop ((b.toNat)*4)).take 4).drop 2) fun s=>(As .i64 (((d.drop ((b.toNat)*4)).take 4).drop 2) fun t=>(As .i64 (((c.drop ((b.toNat)*4)).take 4).drop 3) fun u=>(As .i64 (((d.drop ((b.toNat)*4)).take 4).drop 3) fun v=>(cond (!((o==p)&&((q==r)&&((s==t)&&((u==v)&&true))))) (r0 false) (k0 (wrap .i64 (b+1)))))))))))) none) none) none) none) none) none) none) (r0 true))
def Ql (r0:Bool→O R) (c:LA) (e:Nat) (l g:Bool) (d:LA) (f:Nat) (m i:Bool):Nat→Int→O R
 | 0,_=>none
 | n+1,b=>(EY N r0 c e l g d f m i (Ql r0 c e l g d f m i n) b)
def gX (N:Nat) (r0:Bool→O R) (q0:Int→O R) (c:LA) (e:Nat) (l g:Bool) (d:LA) (f:Nat) (m i:Bool):O R :=
 (cond (((e:Nat):Int) != ((f:Nat):Int)) (r0 false) (q0 0))
def Su:=(Ah (fun (N:Nat) (c:LA) (e:Nat) (l g:Bool) (d:LA) (f:Nat) (m i:Bool) (r0:Bool→O R)=>(gX N r0 (fun b=>(Ql N r0 c e l g d f m i N b)) c e l g d f m i))).1
theorem qe (c e l g d f m i r0):(@Su R N c e l g d f m i r0)=(gX N r0 (fun b=>(Ql N r0 c e l g d f m i N b)) c e l g d f m i):=by rw[Su,(Ah _).2]
def xI:Hints:={ H:=(hS hL (hS hL (hS (hS hL (hS (hP [0,1,5] hL) hL)) hL))) }
def Au5 (F:KF R):=Ko Tryz.f53 xI [] [] N F
def AZ (F:KF R):Bool→O R:=(fun w=>F (.bool w) [])
def Au6 (c:LA) (e:Nat) (l g:Bool) (d:LA) (f:Nat) (m i:Bool) (b:Int):St:=⟨[(0,(.imm c e 4 l g)),(1,(.imm d f 4 m i)),(5,(iv b))],[]⟩
def Au7 (F:KF R):=Au5 N F [1,1,0,1,0] []
theorem fD (F:KF R) (c:LA) (e:Nat) (l g:Bool) (d:LA) (f:Nat) (m i:Bool):∀ (n:Nat) (b:Int),Aj (Au7 N F) n (Au6 c e l g d f m i b)=(Ql N (AZ F) c e l g d f m i n b)
 | 0,_=>by kernel_rfl
 | n+1,b=>Eq.trans (by kernel_rfl) (Bu (EY N (AZ F) c e l g d f m i · b) (funext fun b=>(fD F c e l g d f m i n b)):_)
theorem xJ (c:LA) (e:Nat) (l g:Bool) (d:LA) (f:Nat) (m i:Bool) (F:KF R):C2 [] xI N 53 [(.imm c e 4 l g),(.imm d f 4 m i)] [] F=(Su N c e l g d f m i (AZ F)):=by
 rw[qe]
 exact Eq.trans (by kernel_rfl) (Bu (gX N (AZ F) · c e l g d f m i) (funext fun b=>(Ad ..).trans (fD N F c e l g d f m i N b)):_)
def qf (a:LA) (h:Ai) (k:KF R):O R :=
 match a,h with
 | [(.imm c e 4 l g),(.imm d f 4 m i)],[]=>(Su N c e l g d f m i (AZ k))
 | _,_=>none
theorem xK:Am N 53 @qf:=by
 intro R Q a h k j;unfold qf;split;exact Az (xJ ..) (xJ ..) trivial;exact A2
def xL:=A1 (xK N)
def xM:=C5 (xK N)
end
end Gx

namespace Gx
open Go Go.Proofs
open IntKind (wrap)
set_option maxRecDepth 100000
noncomputable section
variable {R:Type} (N:Nat)
def UQ (r0:Bool→O R):O R :=
 (IE N (fun b d=>(cond ((Nat.beq 0 0)&&((Nat.beq (b.length) 8)&&(Nat.beq 8 8))) (cond ((Nat.beq 0 0)&&((Nat.beq (d.length) 8)&&(Nat.beq 8 8))) (cond (Nat.ble 8 (b.length)) (Ho N (b.take 8) false ([116,114,105,112,32,103,32,49,32,35,32,98,111,105,108,101,114,10,10,115,116,101,112]:List UInt8) (fun c e f g=>(cond (Nat.ble 8 (b.length)) (Ho N (b.take 8) false ([115,116,101,112,32,110,111,119]:List UInt8) (fun q i l r=>(cond (Nat.ble 8 (b.length)) (Ho N (b.take 8) false ([100,101,109,97,110,100,32,97,32,57,57,32,53]:List UInt8) (fun s m n t=>(cond ((e==0)==true) (cond ((cond true (f==0) false)==true) (Su N (g.take (c*4)) c false true [(.int .i64 2),(.int .i64 0),(.int .i64 1),(.int .i64 0),(.int .i64 5),(.int .i64 0),(.int .i64 0),(.int .i64 0)] 2 false true (fun o=>(cond ((cond true o false)==true) (cond ((cond true (i==1) false)==true) (cond ((cond true (l==2) false)==true) (cond ((cond true (m==1) false)==true) (r0 (cond true (n==3) false)) (r0 false)) (r0 false)) (r0 false)) (r0 false)))) (r0 false)) (r0 false)))) none))) none))) none) none) none)))
def Qm:=(Ah (@UQ R)).1
theorem ZD:@Qm R=@UQ R:=(Ah _).2
def Ah2:Gm:=[(108,Ah0 N),(44,ey N),(53,xL N)]
def fE (F:KF R):Bool→O R:=(fun p=>F (.bool p) [])
theorem fF (F:KF R):C2 (Ah2 N) Dc N 45 [] [] F=(Qm N (fE F)):=by
 rw[ZD]
 kernel_rfl
def ZE (a:LA) (h:Ai) (k:KF R):O R :=
 match a,h with
 | [],[]=>(Qm N (fE k))
 | _,_=>none
theorem fG:Am N 45 @ZE:=by
 intro R Q a h k j;unfold ZE;split;exact Az (fF ..) (fF ..) ⟨Ah1 N,ez N,xM N,trivial⟩;exact A2
def fH:=A1 (fG N)
def fI:=C5 (fG N)
def Kh (r0:Bool→O R) (b c:Int) (d:LA) (k1:List UInt8→Int→O R) (g:List UInt8) (i:Int):O R :=
 (cond (decide (i<c)) (cond (Nat.ble ((g.length)+5) 140737488355328) (k1 (g++([115,116,101,112,10]:List UInt8)) (wrap .i64 (i+1))) none) (cond (Nat.ble 8 (d.length)) (Ho N (d.take 8) false g (fun r s t aa=>(cond (decide (c>256)) (Qm N (fun u=>(cond (u==true) (cond ((cond true (t==8) false)==true) (cond ((cond true (((r:Nat):Int)==0) false)==true) (GX N b 4 (fun v=>(r0 (cond true (s==(wrap .i64 ((wrap .i64 (v+256))+1))) false)))) (r0 false)) (r0 false)) (r0 false)))) (Qm N (fun w=>(cond (w==true) (cond ((cond true (t==0) false)==true) (cond ((cond true (s==0) false)==true) (r0 (cond true (((r:Nat):Int)==c) false)) (r0 false)) (r0 false)) (r0 false))))))) none))
def Fp (r0:Bool→O R) (b c:Int) (d:LA):Nat→List UInt8→Int→O R
 | 0,_,_=>none
 | n+1,g,i=>(Kh N r0 b c d (Fp r0 b c d n) g i)
def Ki (r0:Bool→O R) (b:Int) (d:LA) (k0:Int→List UInt8→Int→O R) (q1:List UInt8→Int→O R) (c:Int) (e:List UInt8) (f:Int):O R :=
 (GX N b 4 (fun x=>(cond (decide (f<x)) (cond (Nat.ble ((e.length)+1) 140737488355328) (k0 c (e++([10]:List UInt8)) (wrap .i64 (f+1))) none) (q1 e 0))))
def D7 (r0:Bool→O R) (b:Int) (d:LA):Nat→Int→List UInt8→Int→O R
 | 0,_,_,_=>none
 | n+1,c,e,f=>(Ki N r0 b d (D7 r0 b d n) (fun g i=>(Fp N r0 b c d N g i)) c e f)
def O7 (r0:Bool→O R) (q0:LA→Int→List UInt8→Int→O R) (m:LA) (l:Nat) (q o:Bool) (p b:Int):O R :=
 (cond (decide (((l:Nat):Int)>200)) (r0 true) (TU N m l false o (fun d=>(cond ((Nat.beq 0 0)&&((Nat.beq (d.length) 8)&&(Nat.beq 8 8))) (GX N p 5 (fun y=>(q0 d (wrap .i64 (254+y)) ([]:List UInt8) 0))) none))))
def L3:=(Ah (fun (N:Nat) (m:LA) (l:Nat) (q o:Bool) (p b:Int) (r0:Bool→O R)=>(O7 N r0 (fun d c e f=>(D7 N r0 b d N c e f)) m l q o p b))).1
theorem A_ (m l q o p b r0):(@L3 R N m l q o p b r0)=(O7 N r0 (fun d c e f=>(D7 N r0 b d N c e f)) m l q o p b):=by rw[L3,(Ah _).2]
def CY:Hints:={ H:=(hS hL (hS hL (hS hL (hS hL (hS hL (hS (hS hL (hS (hP [2,7,8,9,10] hL) hL)) (hS (hS hL (hS (hP [2,7,8,9,11] hL) hL)) hL))))))) }
def IF:Gm:=[(42,Ac2 N),(43,sB N),(44,ey N),(45,fH N)]
def CZ (F:KF R):=Ko Tryz.f9 CY (IF N) [] N F
def D8 (F:KF R):Bool→O R:=(fun z=>F (.bool z) [])
def h_ (b c:Int) (d:LA) (g:List UInt8) (i:Int):St:=⟨[(2,(iv b)),(7,(op 0)),(8,(iv c)),(9,(.str g)),(11,(iv i))],(hq [(bQ 0 d)])⟩
def iA (F:KF R):=CZ N F [1,1,1,1,1,1,0,1,0] []
def iB (b:Int) (d:LA) (c:Int) (e:List UInt8) (f:Int):St:=⟨[(2,(iv b)),(7,(op 0)),(8,(iv c)),(9,(.str e)),(10,(iv f))],(hq [(bQ 0 d)])⟩
def iC (F:KF R):=CZ N F [1,1,1,1,1,0,1,0] []
theorem V8 (F:KF R) (b c:Int) (d:LA):∀ (n:Nat) (g:List UInt8) (i:Int),Aj (iA N F) n (h_ b c d g i)=(Fp N (D8 F) b c d n g i)
 | 0,_,_=>by kernel_rfl
 | n+1,g,i=>Eq.trans (by kernel_rfl) (Bu (Kh N (D8 F) b c d · g i) (funext fun g=>funext fun i=>(V8 F b c d n g i)):_)
theorem V9 (F:KF R) (b:Int) (d:LA):∀ (n:Nat) (c:Int) (e:List UInt8) (f:Int),Aj (iC N F) n (iB b d c e f)=(D7 N (D8 F) b d n c e f)
 | 0,_,_,_=>by kernel_rfl
 | n+1,c,e,f=>Eq.trans (by kernel_rfl) (NY (Ki N (D8 F) b d · · c e f) (funext fun c=>funext fun e=>funext fun f=>(V9 F b d n c e f)) (funext fun g=>funext fun i=>(Ad ..).trans (V8 N F b c d N g i)):_)
theorem C_ (m:LA) (l:Nat) (q o:Bool) (p b:Int) (F:KF R):C2 (IF N) CY N 9 [(.imm m l 1 q o),(iv p),(iv b)] [] F=(L3 N m l q o p b (D8 F)):=by
 rw[A_]
 exact Eq.trans (by kernel_rfl) (Bu (O7 N (D8 F) · m l q o p b) (funext fun d=>funext fun c=>funext fun e=>funext fun f=>(Ad ..).trans (V9 N F b d N c e f)):_)
def BA (a:LA) (h:Ai) (k:KF R):O R :=
 match a,h with
 | [(.imm m l 1 q o),(.int .i64 p),(.int .i64 b)],[]=>(L3 N m l q o p b (D8 k))
 | _,_=>none
theorem C':Am N 9 @BA:=by
 intro R Q a h k j;unfold BA;split;exact Az (C_ ..) (C_ ..) ⟨Ac3 N,sC N,ez N,fI N,trivial⟩;exact A2
def iD:=A1 (C' N)
def iE:=C5 (C' N)
def sk (N:Nat) (d:LA) (b:Nat) (e f:Bool) (g:LA) (c:Nat) (i l:Bool) (r0:Bool→O R):O R :=
 (cond ((decide (((b:Nat):Int)≤200))==true) (r0 (cond true (decide (((c:Nat):Int)≤200)) false)) (r0 false))
def fJ:=(Ah (@sk R)).1
theorem qg:@fJ R=@sk R:=(Ah _).2
def xN (F:KF R):Bool→O R:=(fun m=>F (.bool m) [])
theorem xO (d:LA) (b:Nat) (e f:Bool) (g:LA) (c:Nat) (i l:Bool) (F:KF R):C2 [] Dc N 49 [(.imm d b 1 e f),(.imm g c 1 i l)] [] F=(fJ N d b e f g c i l (xN F)):=by
 rw[qg]
 kernel_rfl
def qh (a:LA) (h:Ai) (k:KF R):O R :=
 match a,h with
 | [(.imm d b 1 e f),(.imm g c 1 i l)],[]=>(fJ N d b e f g c i l (xN k))
 | _,_=>none
theorem xP:Am N 49 @qh:=by
 intro R Q a h k j;unfold qh;split;exact Az (xO ..) (xO ..) trivial;exact A2
def Au8:=A1 (xP N)
def Au9:=C5 (xP N)
def Sv (N:Nat) (d:LA) (b:Nat) (e f:Bool) (c:Int) (r0:Bool→O R):O R :=
 (r0 (decide (c<((b:Nat):Int))))
def EZ:=(Ah (@Sv R)).1
theorem Rd:@EZ R=@Sv R:=(Ah _).2
def ZF (d:LA) (b:Nat) (e f:Bool) (c:Int) (F:KF R):Bool→O R:=(fun g=>F (.bool g) [(100000,(bN 0 [(.imm d b 1 e f),(iv c)]))])
theorem ZG (d:LA) (b:Nat) (e f:Bool) (c:Int) (F:KF R):C2 [] Dc N 111 [(.optr 100000 0)] [(100000,(bN 0 [(.imm d b 1 e f),(iv c)]))] F=(EZ N d b e f c (ZF d b e f c F)):=by
 rw[Rd]
 kernel_rfl
def RC (a:LA) (h:Ai) (k:KF R):O R :=
 match a,h with
 | [(.optr 100000 0)],[(100000,⟨false,false,false,false,0,[(.imm d b 1 e f),(.int .i64 c)],false,none⟩)]=>(EZ N d b e f c (ZF d b e f c k))
 | _,_=>none
theorem ZH:Am N 111 @RC:=by
 intro R Q a h k j;unfold RC;split;exact Az (ZG ..) (ZG ..) trivial;exact A2
def yK:=A1 (ZH N)
def yL:=C5 (ZH N)
end
end Gx

namespace Gx.Cf
open Go Go.Proofs
section
variable {R:Type}
def BQ (c:CaseD) (k a b v:Int):Bool :=
 if k=1 then IL 0 ((c.buses.l.length:Int) - 1) a&&(IL 0 (c.hours - 1) b&&IL 0 1048576 v)
 else if k=2 then IL 0 ((c.units.l.length:Int) - 1) a&&(IL 1 c.hours b&&IL 0 0 v)
 else if k=3 then IL 0 ((c.lines.l.length:Int) - 1) a&&(IL 1 c.hours b&&IL 0 0 v)
 else if k=4 then IL 0 ((c.units.l.length:Int) - 1) a&&(IL 0 ((Ayu c a:Int) - 1) b&&IL (-1048576) 1048576 v)
 else if k=5 then IL 0 0 a&&(IL 0 0 b&&IL 0 0 v)
 else if k=6 then IL 0 0 a&&(IL 0 0 b&&IL 0 16777216 v)
 else if k=7 then IL 0 0 a&&(IL 0 0 b&&IL 0 0 v)
 else if k=8 then IL 0 0 a&&(IL 0 (c.hours - 1) b&&IL 0 0 v)
 else false
theorem A2t {N n:Nat} {c:LA} {o o':Bool} {a b v:Int} {ev row:LA} {K:Bool→O R}:Fv N K a b v o c o' ev row (n+1) 3=K true:=by rw[Fv];unfold EV;rfl
theorem NF {N:Nat} {c:CaseD} {o o':Bool} {k a b v:Int} {K:Bool→O R} (hs:Small c N) (hH:1≤c.hours∧c.hours≤24):Ss N c.av o (A5u k a b v) o' K=K (BQ c k a b v):=by
 have s:=hs.n64
 obtain⟨n,rfl⟩:∃ n,N=n+4:=⟨N - 4,by omega⟩
 rw[qT];unfold gU
 show L2 (n+4) k _=_
 rw[ID (by omega)]
 by_cases m:1≤k∧k≤8
 ·rw[if_pos m]
  have three:∀ (row:LA) (d i l:Int),(∀ F:Int→O R,As .i64 (row.drop 2) F=F d)→(∀ F:Int→O R,As .i64 (row.drop 3) F=F i)→(∀ F:Int→O R,As .i64 (row.drop 4) F=F l)→d≠6→l≠6→(i=6→d=2) →
    Fv (n+4) K a b v o c.av o' (A5u k a b v) row (n+4) 0=K (IL (y9 c a d).1 (y9 c a d).2 a&&(IL (y9 c a i).1 (y9 c a i).2 b&&IL (y9 c a l).1 (y9 c a l).2 v)):=by
   intro row d i l t u x n0 n2 q
   have y:=mE (R:=R) (N:=n+4) (n:=n+3) (j:=0) (c:=c) (o:=o) (o':=o') (k:=k) (a:=a) (b:=b) (v:=v) (f:=d) (row:=row) (K:=K) (by omega) t hs hH (fun e=>absurd e n0)
   have s2:=mE (R:=R) (N:=n+4) (n:=n+1) (j:=2) (c:=c) (o:=o) (o':=o') (k:=k) (a:=a) (b:=b) (v:=v) (f:=l) (row:=row) (K:=K) (by omega) x hs hH (fun e=>absurd e n2)
   refine y.trans ?_
   show cond (IL (y9 c a d).1 (y9 c a d).2 a) _ _=_
   cases h0:IL (y9 c a d).1 (y9 c a d).2 a with
   | false=>rfl
   | true =>
    have s1:=mE (R:=R) (N:=n+4) (n:=n+2) (j:=1) (c:=c) (o:=o) (o':=o') (k:=k) (a:=a) (b:=b) (v:=v) (f:=i) (row:=row) (K:=K) (by omega) u hs hH (fun e=>by
     have z:=q e
     subst z
     unfold y9 IL at h0
     simp at h0
     omega)
    show Fv (n+4) K a b v o c.av o' (A5u k a b v) row (n+3) ((0+1:Nat):Int)=_
    refine s1.trans ?_
    show cond (IL (y9 c a i).1 (y9 c a i).2 b) _ _=_
    cases q:IL (y9 c a i).1 (y9 c a i).2 b with
    | false=>rfl
    | true =>
     show Fv (n+4) K a b v o c.av o' (A5u k a b v) row (n+2) ((1+1:Nat):Int)=_
     refine s2.trans ?_
     show cond (IL (y9 c a l).1 (y9 c a l).2 v) _ _=_
     cases C:IL (y9 c a l).1 (y9 c a l).2 v with
     | false=>rfl
     | true=>exact A2t
  have A:k=1∨k=2∨k=3∨k=4∨k=5∨k=6∨k=7∨k=8:=by omega
  rcases A with rfl | rfl | rfl | rfl | rfl | rfl | rfl | rfl
  ·exact(three (Ic 0) 1 4 7 (fun _=>rfl) (fun _=>rfl) (fun _=>rfl) (by decide) (by decide) (by decide)).trans rfl
  ·exact(three (Ic 1) 2 5 0 (fun _=>rfl) (fun _=>rfl) (fun _=>rfl) (by decide) (by decide) (by decide)).trans rfl
  ·exact(three (Ic 2) 3 5 0 (fun _=>rfl) (fun _=>rfl) (fun _=>rfl) (by decide) (by decide) (by decide)).trans rfl
  ·exact(three (Ic 3) 2 6 8 (fun _=>rfl) (fun _=>rfl) (fun _=>rfl) (by decide) (by decide) (by decide)).trans rfl
  ·exact(three (Ic 4) 0 0 0 (fun _=>rfl) (fun _=>rfl) (fun _=>rfl) (by decide) (by decide) (by decide)).trans rfl
  ·exact(three (Ic 5) 0 0 9 (fun _=>rfl) (fun _=>rfl) (fun _=>rfl) (by decide) (by decide) (by decide)).trans rfl
  ·exact(three (Ic 6) 0 0 0 (fun _=>rfl) (fun _=>rfl) (fun _=>rfl) (by decide) (by decide) (by decide)).trans rfl
  ·exact(three (Ic 7) 0 4 0 (fun _=>rfl) (fun _=>rfl) (fun _=>rfl) (by decide) (by decide) (by decide)).trans rfl
 ·rw[if_neg m]
  have:BQ c k a b v=false:=by
   unfold BQ
   rw[if_neg (by omega),if_neg (by omega),if_neg (by omega),if_neg (by omega),if_neg (by omega),if_neg (by omega),if_neg (by omega),if_neg (by omega)]
  rw[this];rfl
theorem A9c (b:Bool):cond true b false=b:=rfl
theorem A62 (b:Bool):(b==true)=b:=by cases b<;>rfl
end
end Gx.Cf

namespace Gx
open Go Go.Proofs
section
variable {R:Type}
theorem Ava:∀ (s:List UInt8) (acc k:Nat),acc<10 ^ k→s.length+k≤18→s.all Eh=true→Lib.parseUint10 acc s=.ok (acc*10 ^ s.length+Il s)
 | [],acc,_,_,_,_=>by simp[Lib.parseUint10,Il]
 | c::r,acc,k,l,j,d=>by
  simp only[List.all_cons,Bool.and_eq_true] at d
  have i:=d.1
  simp[Eh] at i
  simp only[List.length_cons] at j
  have b:10 ^ (k+1)≤10 ^ 18:=Nat.pow_le_pow_right (by omega) (by omega)
  rw[Nat.pow_succ] at b
  have e:acc*10+(c.toNat - 48)<10 ^ k*10:=by omega
  have f:(10:Nat) ^ 18=1000000000000000000:=by decide
  rw[f] at b
  rw[Lib.parseUint10,if_pos i,if_neg (by omega),if_neg (by omega),Ava r (acc*10+(c.toNat - 48)) (k+1) (by rw[Nat.pow_succ];exact e) (by omega) d.2,sb,List.length_cons,Nat.pow_succ,Nat.add_mul]
  congr 1
  rw[show acc*10*10 ^ r.length=acc*(10 ^ r.length*10) by rw[Nat.mul_assoc,Nat.mul_comm 10]]
  omega
theorem A2u {N:Nat} {s:List UInt8} {K:Int→O R} (hs:s.all Eh=true) (h0:s≠[]) (b:s.length≤18):DR N s K=K (Il s:Int):=by
 have d:=pz hs
 have e:10 ^ s.length≤10 ^ 18:=Nat.pow_le_pow_right (by omega) b
 have f:(10:Nat) ^ 18=1000000000000000000:=by decide
 have key:Lib.atoiAll s=.ok (Il s:Int):=by
  cases s with
  | nil=>exact absurd rfl h0
  | cons c r =>
   have i:Eh c=true:=by simp only[List.all_cons,Bool.and_eq_true] at hs;exact hs.1
   simp[Eh] at i
   rw[Lib.atoiAll_plain c r (by omega) (by omega),Lib.parseMag,if_neg h0,Ava (c::r) 0 0 (by decide) (by omega) hs,Nat.zero_mul,Nat.zero_add,Lib.signless,if_neg (by omega)]
 rw[Qy];unfold R2
 rw[A8r (by omega),ct,key]
theorem A6i (k:Nat):10 ^ k<4294967296 ^ (k+1):=A46 k
theorem A48 {v k:Nat} (h:v<10 ^ k):(A9 v).length≤k+1:=MG (Nat.lt_trans h (A6i k))
theorem xQ {N:Nat} {c:Bool} {q:Nat} {S9:List Nat} {K:LA→O R} (X:Au S9) (Y:val S9=10 ^ q) (hq:q=9):∀ (fuel j v:Nat) (g:List UInt8) (S:List Nat),g.length<fuel→g.all Eh=true→v<10 ^ j→(v=0∨g.length%9=0)→fit (j+g.length+20) N→Au S→val S=v →
  Jx N K c false (A9 (10 ^ q)).length (Ar S9) fuel g false (A9 v).length (Ar S)=K (Jo (if c then -((v*10 ^ g.length+Il g:Nat):Int) else ((v*10 ^ g.length+Il g:Nat):Int))):=by
 intro fuel
 induction fuel with
 | zero=>intro j v g S h;omega
 | succ fuel ih =>
  intro j v g S hl u z i f hS hSv
  have f1:=f.1;have f2:=f.2
  have A:(A9 (10 ^ q)).length≤1:=by rw[hq];exact A9b
  have hdv:=A48 z
  rw[Jx];unfold MJ
  cases k:g with
  | nil =>
   rw[show(!(([]:List UInt8)==[]))=false by rfl,cf]
   rw[show v*10 ^ ([]:List UInt8).length+Il []=v by simp[Il]]
   cases c
   ·rw[cf,Ny hS hSv,if_neg (by simp)]
    congr 1
   ·rw[ct,Ny hS hSv,A6c,A2q (QX _ _ _) (f.le (by show(A9 v).length≤_;omega)),A8q,show val (LS.of (A9 v) false true).l=v from Av v,Int.natAbs_natCast,A7n,if_pos rfl]
    congr 1
    unfold Jo
    rw[Int.natAbs_neg,Int.natAbs_natCast];rfl
  | cons d r =>
   rw[←k]
   have m:g≠[]:=by rw[k];simp
   have G:=List.length_pos_iff.2 m
   rw[show(!(g==[]))=true by simp[m],ct]
   have step:∀ o:Nat,1≤o→o≤9→o≤g.length→(g.length - o)%9=0→(v=0∨o=q)→U5 N (Jx N K c false (A9 (10 ^ q)).length (Ar S9) fuel) K c false (A9 (10 ^ q)).length (Ar S9) g (o:Int) false (A9 v).length (Ar S)=K (Jo (if c then -((v*10 ^ g.length+Il g:Nat):Int) else ((v*10 ^ g.length+Il g:Nat):Int))):=by
    intro o o1 o9 ol om oz
    have I:(g.take o).all Eh=true:=by
     rw[List.all_eq_true] at u ⊢;exact fun x C=>u x (List.mem_of_mem_take C)
    have b:(g.take o).length=o:=by rw[List.length_take];omega
    have n:(g.drop o).length=g.length - o:=List.length_drop ..
    have s:=pz I
    rw[b] at s
    have y:10 ^ o≤10 ^ q:=Nat.pow_le_pow_right (by omega) (by omega)
    have e9:10 ^ q=1000000000:=by rw[hq]
    obtain⟨S1,a1,a2,a3⟩:=A45 (R:=R) (N:=N) (s1:=.of (A9 v) false true) (s2:=.of (A9 (10 ^ q)) false true) (o1:=true) (o2:=true) (QX _ _ _) (QX _ _ _) (f.le (by have:=A;show(A9 v).length+(A9 (10 ^ q)).length≤_;omega))
    rw[show val (LS.of (A9 v) false true).l=v from Av v,show val (LS.of (A9 (10 ^ q)) false true).l=10 ^ q from Av _] at a2 a3
    obtain⟨S2,b1,L,M⟩:=Y7 (R:=R) (N:=N) (v:=(Il (g.take o):Int)) (by omega) (by omega)
    rw[Int.natAbs_natCast] at L M
    have hm:v*10 ^ q<10 ^ (j+q):=by rw[Nat.pow_add];exact Nat.mul_lt_mul_of_pos_right z (Nat.pow_pos (by omega))
    have hdm:=A48 hm
    have hdx:(A9 (Il (g.take o))).length≤1:=MG (by omega)
    obtain⟨S3,c1,T,U⟩:=A2o (R:=R) (N:=N) (n1:=false) (n2:=false) (s1:=.of (A9 (v*10 ^ q)) false true) (s2:=.of (A9 (Il (g.take o))) false true) (o1:=true) (o2:=true) (QX _ _ _) (QX _ _ _) (f.le (by show(A9 (v*10 ^ q)).length+(A9 (Il (g.take o))).length+1≤_;omega))
    rw[A8q,A8q,show val (LS.of (A9 (v*10 ^ q)) false true).l=v*10 ^ q from Av _,show val (LS.of (A9 (Il (g.take o))) false true).l=Il (g.take o) from Av _,Aly,Int.natAbs_natCast] at T U
    unfold U5
    rw[show((decide ((0:Int)≤(0:Int)))&&((decide (0≤(o:Int)))&&((decide ((o:Int)≤(((g.length):Nat):Int)))&&(decide ((((g.length):Nat):Int)≤(((g.length):Nat):Int))))))=true by simp;omega,ct,Int.toNat_natCast]
    rw[A2u I (by intro e;rw[e] at b;simp at b;omega) (by omega)]
    rw[Ny hS hSv,Ny X Y,A6c,A6c,a3,M,Ny a1 a2,Ny b1 L,A6c,show decide (((Il (g.take o):Nat):Int)<0)=false by simp,A6c,U]
    rw[show decide (((v*10 ^ q+Il (g.take o):Nat):Int)<0)=false by rw[decide_eq_false_iff_not];omega]
    rw[show((decide (0≤(o:Int)))&&((decide ((o:Int)≤(((g.length):Nat):Int)))&&((decide ((((g.length):Nat):Int)≤(((g.length):Nat):Int)))&&(decide ((((g.length):Nat):Int)≤(((g.length):Nat):Int))))))=true by simp;omega,ct]
    rw[List.take_of_length_le (l:=g.drop o) (by omega)]
    have D:v*10 ^ q+Il (g.take o)<10 ^ (j+q):=by
     rcases oz with oz | oz
     ·subst oz;rw[Nat.zero_mul,Nat.zero_add]
      have:10 ^ q≤10 ^ (j+q):=Nat.pow_le_pow_right (by omega) (by omega)
      omega
     ·have:(v+1)*10 ^ q≤10 ^ j*10 ^ q:=Nat.mul_le_mul_right _ z
      rw[Nat.add_mul,Nat.one_mul] at this
      rw[Nat.pow_add];omega
    have F:v*10 ^ q+Il (g.take o)<10 ^ (j+o):=by
     rcases oz with oz | oz
     ·subst oz;rw[Nat.zero_mul,Nat.zero_add]
      have:10 ^ o≤10 ^ (j+o):=Nat.pow_le_pow_right (by omega) (by omega)
      omega
     ·rw[show j+o=j+q by rw[oz]];exact D
    rw[ih (j+o) (v*10 ^ q+Il (g.take o)) (g.drop o) S3 (by omega) (by rw[List.all_eq_true] at u ⊢;exact fun x C=>u x (List.mem_of_mem_drop C)) F (.inr (by rw[n];exact om)) (f.le (by omega)) c1 T]
    have e:(v*10 ^ q+Il (g.take o))*10 ^ (g.drop o).length+Il (g.drop o)=v*10 ^ g.length+Il g:=by
     have V:=eY (g.take o) (g.drop o)
     rw[List.take_append_drop] at V
     rw[V,Nat.add_mul,Nat.add_assoc]
     congr 1
     rcases oz with oz | oz
     ·subst oz;simp
     ·rw[Nat.mul_assoc,←Nat.pow_add,n];congr 2;omega
    rw[e]
   have t:Int.tmod ((g.length:Nat):Int) 9=((g.length%9:Nat):Int):=rfl
   rw[t]
   by_cases y:g.length%9=0
   ·rw[y,show((((0:Nat):Int))==0)=true by rfl,ct]
    exact step 9 (by omega) (by omega) (by omega) (by omega) (.inr hq.symm)
   ·rw[A6y y,cf]
    exact step (g.length%9) (by omega) (by omega) (Nat.mod_le _ _) (by omega) (.inl (by rcases i with i | i;exact i;exact absurd i y))
def X7 (s:List UInt8):Int:=match s with
 | 45::r=>-((Il r:Nat):Int)
 | s=>((Il s:Nat):Int)
def NG (s:List UInt8):Bool:=match s with
 | 45::r=>r.all Eh
 | s=>s.all Eh
theorem Avb {N:Nat} {s:List UInt8} {K:LA→O R} (hs:NG s=true) (b:fit (s.length+30) N):FG N s K=K (Jo (X7 s)):=by
 have i:=b.1;have k:=b.2
 obtain⟨S0,a1,a2,a3⟩:=Y7 (R:=R) (N:=N) (v:=0) (by omega) (by omega)
 obtain⟨S,d,e,f⟩:=A2s (R:=R) (N:=N) (n:=9) (b.le (by omega))
 rw[jM];unfold SW
 by_cases h:s.head?=some 45
 ·obtain⟨r,rfl⟩:∃ r,s=45::r:=by
   cases s with
   | nil=>simp at h
   | cons c r=>simp at h;exact⟨r,by rw[h]⟩
  rw[kR,a3]
  refine Eq.trans (f _) ?_
  have:=xQ (R:=R) (N:=N) (c:=true) (K:=K) d e rfl N 0 0 r S0 (by rw[List.length_cons] at i;omega) hs (by decide) (.inl rfl) (b.le (by rw[List.length_cons];omega)) a1 a2
  rw[Nat.zero_mul,Nat.zero_add] at this
  exact this
 ·have e1:X7 s=((Il s:Nat):Int):=by
   unfold X7
   split
   ·simp at h
   ·rfl
  have j:s.all Eh=true:=by
   rw[←hs];unfold NG
   split
   ·simp at h
   ·rfl
  rw[eg h,a3]
  refine Eq.trans (f _) ?_
  have:=xQ (R:=R) (N:=N) (c:=false) (K:=K) d e rfl N 0 0 s S0 (by omega) j (by decide) (.inl rfl) (b.le (by omega)) a1 a2
  rw[Nat.zero_mul,Nat.zero_add] at this
  rw[e1]
  exact this
theorem gY {s:List UInt8} (h:Rn s=true):s.all Eh=true:=by
 simp only[Rn,Aub,Bool.and_eq_true] at h;exact h.1.1
theorem Ao5 {s:List UInt8} (h:hY s=true):NG s=true:=by
 by_cases h0:s.head?=some 45
 ·obtain⟨r,rfl⟩:∃ r,s=45::r:=by
   cases s with
   | nil=>simp at h0
   | cons c r=>simp at h0;exact⟨r,by rw[h0]⟩
  have h:(Rn r&&!(r==[48]))=true:=h
  simp only[Bool.and_eq_true] at h;exact gY h.1
 ·have e1:hY s=Rn s:=by
   unfold hY;split
   ·simp at h0
   ·rfl
  have b:NG s=s.all Eh:=by
   unfold NG;split
   ·simp at h0
   ·rfl
  rw[b];rw[e1] at h;exact gY h
theorem Akl {s:List UInt8} (h:s.all Eh=true):∀ c ∈ s,c.toNat<128:=by
 intro c b
 have:=List.all_eq_true.1 h c b
 simp[Eh] at this;omega
theorem A49 {s:List UInt8} (h:NG s=true):∀ c ∈ s,c.toNat<128:=by
 unfold NG at h
 split at h
 ·intro c b
  rcases List.mem_cons.1 b with rfl | b
  ·decide
  ·exact Akl h c b
 ·exact Akl h
theorem Ah3 {N:Nat} {s:List UInt8} {K:LA→Int→O R} (hs:hY s=true) (b:fit (s.length+30) N):T7 N s K=if 4096<qC s then K [(.bool false),.nsl] 8 else K (Jo (X7 s)) 0:=by
 have c:=b.1;have d:=b.2
 rw[BJ];unfold DU
 rw[kS (by omega),hs,show(!true)=false by rfl,cf,Aoe (A49 (Ao5 hs)) (by omega) (by omega)]
 by_cases h:4096<qC s
 ·rw[decide_eq_true h,ct,if_pos h]
 ·rw[decide_eq_false h,cf,Avb (Ao5 hs) b,A9m,ct,A8m,ct,A89,if_neg h]
theorem Ao6 {N:Nat} {s:List UInt8} {K:LA→Int→O R} (hs:hY s=false) (b:fit (s.length+30) N):T7 N s K=K [(.bool false),.nsl] 2:=by
 have c:=b.1
 rw[BJ];unfold DU
 rw[kS (by omega),hs];rfl
theorem A5a (u:Nat):hY (sa u)=true:=by
 have b:=sc u
 unfold hY
 split
 ·rename_i r c
  have:=gY b
  rw[c] at this
  simp only[List.all_cons,Bool.and_eq_true] at this
  exact absurd this.1 (by decide)
 ·exact b
theorem Ayv (u:Nat):X7 (sa u)=(u:Int):=by
 unfold X7
 split
 ·rename_i r b
  have:=gY (sc u)
  rw[b] at this
  simp only[List.all_cons,Bool.and_eq_true] at this
  exact absurd this.1 (by decide)
 ·rw[e_]
theorem Akm (z:Int):hY (hZ z)=true:=by
 unfold hZ Ays
 by_cases h:z<0
 ·rw[if_pos h]
  show(Rn (sa z.natAbs)&&!(sa z.natAbs==[48]))=true
  rw[sc,Bool.true_and]
  simp only[Bool.not_eq_true',beq_eq_false_iff_ne]
  intro e
  have:=congrArg Il e
  rw[e_] at this
  have:z.natAbs=0:=this
  omega
 ·rw[if_neg h];exact A5a _
theorem Avc (z:Int):X7 (hZ z)=z:=by
 unfold hZ Ays
 by_cases h:z<0
 ·rw[if_pos h]
  show -((Il (sa z.natAbs):Nat):Int)=z
  rw[e_];omega
 ·rw[if_neg h,Ayv];omega
theorem A2v (z:Int):qC (hZ z)=(sa z.natAbs).length:=by
 have e:qC (sa z.natAbs)=(sa z.natAbs).length:=by
  unfold qC
  rw[List.countP_eq_length]
  exact fun c b=>List.all_eq_true.1 (eZ _) c b
 unfold hZ Ays
 split
 ·unfold qC at *;rw[List.countP_cons,e];rfl
 ·exact e
end
end Gx

namespace Gx.Cf
open Go Go.Proofs
section
variable {R:Type}
theorem kj {N:Nat} {c:CaseD} {o:Bool} {K:Nat→Bool→LA→O R} (d:c.buses.l.length≤1000000):∀ (m j fuel:Nat),j+m=c.buses.l.length→m<fuel →
  Qh N K (c.buses.l.flatMap BusD.av) c.buses.l.length o fuel j (c.buses.l.length:Int) (j:Int) (Bg ((c.buses.l.take j).map (·.name)))=K c.buses.l.length true (Bg (c.buses.l.map (·.name)))
 | 0,j,fuel+1,e,_=>by
  rw[Qh];unfold ES
  have b:j=c.buses.l.length:=by omega
  rw[Iz (by omega),cf,List.take_of_length_le (by omega),b]
 | m+1,j,fuel+1,e,v=>by
  rw[Qh];unfold ES
  have h:j<c.buses.l.length:=by omega
  have i:(Nat.ble (j+1) 140737488355328&&Nat.ble ((j+1)*16) 140737488355328)=true:=by rw[Bq,Bq];simp;omega
  have k:List.take (j*1) (Bg ((c.buses.l.take j).map (·.name)))++[.str c.buses.l[j].name]=Bg ((c.buses.l.take (j+1)).map (·.name)):=by
   rw[List.take_of_length_le (by simp[Gr];omega),List.take_succ_eq_append_getElem h,List.map_append];simp[Bg]
  have n:List.drop (j*3) (List.flatMap BusD.av c.buses.l)=BusD.av c.buses.l[j]++(c.buses.l.drop (j+1)).flatMap BusD.av:=Ax Lp _ _ h
  have q:List.take 3 (BusD.av c.buses.l[j]++(c.buses.l.drop (j+1)).flatMap BusD.av)=BusD.av c.buses.l[j]:=rfl
  have s:∀ f:List UInt8→O R,Wb (BusD.av c.buses.l[j]) f=f c.buses.l[j].name:=fun f=>rfl
  have t:Nat.ble 3 (List.length (BusD.av c.buses.l[j]++(c.buses.l.drop (j+1)).flatMap BusD.av))=true:=by rw[Bq,List.length_append,Lp];simp
  have u:((Nat.beq 0 0)&&((Nat.beq (List.length (BusD.av c.buses.l[j])) 3)&&(Nat.beq 3 3)))=true:=rfl
  rw[Hh h,ct,Ab h,ct,Int.toNat_natCast,n,q,s,t,ct,u,ct,i,ct,k,wS (by omega),kj d m (j+1) fuel (by omega) (by omega)]
theorem Ayw {N:Nat} {c:CaseD} {o:Bool} {K:Nat→Bool→LA→O R} (hs:Small c N):Kc N c.av o 1 K=K c.buses.l.length true (Bg (c.buses.l.map (·.name))):=by
 rw[V1];unfold X0
 have:=kj (R:=R) (N:=N) (c:=c) (o:=o) (K:=K) (by have:=hs.top;omega) c.buses.l.length 0 N (by omega) hs.bus.1
 rw[show((1:Int)==1)=true by rfl,ct,J4]
 exact this
theorem ko {N:Nat} {c:CaseD} {o:Bool} {K:Nat→Bool→LA→O R} (d:c.units.l.length≤1000000):∀ (m j fuel:Nat),j+m=c.units.l.length→m<fuel →
  Qi N K (c.units.l.flatMap UnitD.av) c.units.l.length o fuel j (c.units.l.length:Int) (j:Int) (Bg ((c.units.l.take j).map (·.name)))=K c.units.l.length true (Bg (c.units.l.map (·.name)))
 | 0,j,fuel+1,e,_=>by
  rw[Qi];unfold ET
  have b:j=c.units.l.length:=by omega
  rw[Iz (by omega),cf,List.take_of_length_le (by omega),b]
 | m+1,j,fuel+1,e,v=>by
  rw[Qi];unfold ET
  have h:j<c.units.l.length:=by omega
  have i:(Nat.ble (j+1) 140737488355328&&Nat.ble ((j+1)*16) 140737488355328)=true:=by rw[Bq,Bq];simp;omega
  have k:List.take (j*1) (Bg ((c.units.l.take j).map (·.name)))++[.str c.units.l[j].name]=Bg ((c.units.l.take (j+1)).map (·.name)):=by
   rw[List.take_of_length_le (by simp[Gr];omega),List.take_succ_eq_append_getElem h,List.map_append];simp[Bg]
  have n:List.drop (j*22) (List.flatMap UnitD.av c.units.l)=UnitD.av c.units.l[j]++(c.units.l.drop (j+1)).flatMap UnitD.av:=Ax Dn _ _ h
  have q:List.take 22 (UnitD.av c.units.l[j]++(c.units.l.drop (j+1)).flatMap UnitD.av)=UnitD.av c.units.l[j]:=rfl
  have s:∀ f:List UInt8→O R,Wb (UnitD.av c.units.l[j]) f=f c.units.l[j].name:=fun f=>rfl
  have t:Nat.ble 22 (List.length (UnitD.av c.units.l[j]++(c.units.l.drop (j+1)).flatMap UnitD.av))=true:=by rw[Bq,List.length_append,Dn];simp
  have u:((Nat.beq 0 0)&&((Nat.beq (List.length (UnitD.av c.units.l[j])) 22)&&(Nat.beq 22 22)))=true:=rfl
  rw[Hh h,ct,Ab h,ct,Int.toNat_natCast,n,q,s,t,ct,u,ct,i,ct,k,wS (by omega),ko d m (j+1) fuel (by omega) (by omega)]
theorem Ayx {N:Nat} {c:CaseD} {o:Bool} {K:Nat→Bool→LA→O R} (hs:Small c N):Kc N c.av o 2 K=K c.units.l.length true (Bg (c.units.l.map (·.name))):=by
 rw[V1];unfold X0
 have:=ko (R:=R) (N:=N) (c:=c) (o:=o) (K:=K) (by have:=hs.top;omega) c.units.l.length 0 N (by omega) hs.uni.1
 rw[show((2:Int)==1)=false by rfl,cf,show((2:Int)==2)=true by rfl,ct,Hi]
 exact this
theorem kp {N:Nat} {c:CaseD} {o:Bool} {K:Nat→Bool→LA→O R} (d:c.lines.l.length≤1000000):∀ (m j fuel:Nat),j+m=c.lines.l.length→m<fuel →
  Qj N K (c.lines.l.flatMap LineD.av) c.lines.l.length o fuel j (c.lines.l.length:Int) (j:Int) (Bg ((c.lines.l.take j).map (·.name)))=K c.lines.l.length true (Bg (c.lines.l.map (·.name)))
 | 0,j,fuel+1,e,_=>by
  rw[Qj];unfold EU
  have b:j=c.lines.l.length:=by omega
  rw[Iz (by omega),cf,List.take_of_length_le (by omega),b]
 | m+1,j,fuel+1,e,v=>by
  rw[Qj];unfold EU
  have h:j<c.lines.l.length:=by omega
  have i:(Nat.ble (j+1) 140737488355328&&Nat.ble ((j+1)*16) 140737488355328)=true:=by rw[Bq,Bq];simp;omega
  have k:List.take (j*1) (Bg ((c.lines.l.take j).map (·.name)))++[.str c.lines.l[j].name]=Bg ((c.lines.l.take (j+1)).map (·.name)):=by
   rw[List.take_of_length_le (by simp[Gr];omega),List.take_succ_eq_append_getElem h,List.map_append];simp[Bg]
  have n:List.drop (j*12) (List.flatMap LineD.av c.lines.l)=LineD.av c.lines.l[j]++(c.lines.l.drop (j+1)).flatMap LineD.av:=Ax Cd _ _ h
  have q:List.take 12 (LineD.av c.lines.l[j]++(c.lines.l.drop (j+1)).flatMap LineD.av)=LineD.av c.lines.l[j]:=rfl
  have s:∀ f:List UInt8→O R,Wb (LineD.av c.lines.l[j]) f=f c.lines.l[j].name:=fun f=>rfl
  have t:Nat.ble 12 (List.length (LineD.av c.lines.l[j]++(c.lines.l.drop (j+1)).flatMap LineD.av))=true:=by rw[Bq,List.length_append,Cd];simp
  have u:((Nat.beq 0 0)&&((Nat.beq (List.length (LineD.av c.lines.l[j])) 12)&&(Nat.beq 12 12)))=true:=rfl
  rw[Hh h,ct,Ab h,ct,Int.toNat_natCast,n,q,s,t,ct,u,ct,i,ct,k,wS (by omega),kp d m (j+1) fuel (by omega) (by omega)]
theorem Ayy {N:Nat} {c:CaseD} {o:Bool} {K:Nat→Bool→LA→O R} (hs:Small c N):Kc N c.av o 3 K=K c.lines.l.length true (Bg (c.lines.l.map (·.name))):=by
 rw[V1];unfold X0
 have:=kp (R:=R) (N:=N) (c:=c) (o:=o) (K:=K) (by have:=hs.top;omega) c.lines.l.length 0 N (by omega) hs.lin.1
 rw[show((3:Int)==1)=false by rfl,cf,show((3:Int)==2)=false by rfl,cf,show((3:Int)==3)=true by rfl,ct,F2]
 exact this
theorem Ayz {N:Nat} {c:CaseD} {o:Bool} {f:Int} {K:Nat→Bool→LA→O R} (b:f≠1) (d:f≠2) (e:f≠3):Kc N c.av o f K=K 0 false []:=by
 rw[V1];unfold X0
 rw[show(f==1)=false by simpa using b,cf,show(f==2)=false by simpa using d,cf,show(f==3)=false by simpa using e,cf]
theorem A63 {N:Nat} {z:Int} {K:List UInt8→O R} (h:-9223372036854775808≤z∧z≤9223372036854775807):strconv_Itoa N z K=K (hZ z):=by
 rw[Qw];unfold Rz
 rw[show(decide (-9223372036854775808≤z)&&decide (z≤9223372036854775807))=true by simp;omega,ct]
 congr 1
 unfold Lib.itoa hZ Ays
 by_cases b:z<0
 ·rw[if_pos b,if_pos b]
 ·rw[if_neg b,if_neg b];unfold sa
  first | rfl | (rw[show z.toNat=z.natAbs by omega])
theorem A2w {N:Nat} {z:Int} {o:Bool} {K:Int→Bool→O R} (d:fit (A9 z.natAbs).length N) (i:¬ (-9223372036854775808≤z∧z≤9223372036854775807)):Zj N (Jo z) o K=K 0 false:=by
 have e:Jo z=Ur (decide (z<0)) (.of (A9 z.natAbs) false false):=rfl
 have f:=At z.natAbs
 rw[e,ST];unfold OL
 rw[QW]
 show FE N (Ar (A9 z.natAbs)) (A9 z.natAbs).length false o _=_
 rw[wZ rfl f d,Av]
 by_cases b:z.natAbs<18446744073709551616
 ·rw[if_pos b,show(!true)=false by rfl,cf,ER]
  by_cases c:z<0
  ·rw[decide_eq_true c,show(true==true)=true by rfl,ct,show cond true (decide (((z.natAbs:Nat):Int)≤9223372036854775808)) false=false by rw[cond_true];exact decide_eq_false (by omega)]
   dsimp only
   unfold Ph
   rw[cf,ER];rfl
  ·rw[decide_eq_false c,show(false==true)=false by rfl,cf]
   dsimp only
   unfold Ph
   rw[cf,ER,show((!false)==true)=true by rfl,ct,show cond true (decide (((z.natAbs:Nat):Int)<9223372036854775808)) false=false by rw[cond_true];exact decide_eq_false (by omega),cf]
 ·rw[if_neg b];rfl
end
end Gx.Cf

namespace Gx
open Go Go.Proofs
section
variable {R:Type}
theorem mF (c b:UInt8) (l:List UInt8):Lib.index (b::l) [c]=if c=b then 0 else if Lib.index l [c]=-1 then -1 else Lib.index l [c]+1:=by
 rw[Lib.index]
 have f:([c].isPrefixOf (b::l)=true)↔c=b:=by simp[List.isPrefixOf]
 by_cases h:c=b
 ·rw[if_pos (f.2 h),if_pos h]
 ·rw[if_neg (fun e=>h (f.1 e)),if_neg h]
  by_cases d:Lib.index l [c]=-1
  ·rw[d];rfl
  ·rw[if_neg (by simpa using d),if_neg d]
theorem qi (c:UInt8):∀ s:List UInt8,c ∉ s→Lib.index s [c]=-1
 | [],_=>rfl
 | b::l,h=>by
  rw[mF,if_neg (fun e=>h (by simp[e])),qi c l (fun e=>h (by simp[e])),if_pos rfl]
theorem Ae1 (c:UInt8) (b:List UInt8):∀ a:List UInt8,c ∉ a→Lib.index (a++c::b) [c]=(a.length:Int)
 | [],_=>by rw[List.nil_append,mF,if_pos rfl];rfl
 | d::l,h=>by
  have:=Ae1 c b l (fun e=>h (by simp[e]))
  rw[List.cons_append,mF,if_neg (fun e=>h (by simp[e])),this,if_neg (by omega),List.length_cons];omega
theorem A5b {c:UInt8} {s:List UInt8} (h:c ∉ s):Lib.cut s [c]=(s,[],false):=by
 unfold Lib.cut;rw[qi c s h,if_neg (by omega)]
theorem A7p {c:UInt8} {a b:List UInt8} (h:c ∉ a):Lib.cut (a++c::b) [c]=(a,b,true):=by
 unfold Lib.cut;rw[Ae1 c b a h,if_pos (by omega),Int.toNat_natCast]
 rw[List.take_left,List.length_singleton,←List.drop_drop,List.drop_left];rfl
theorem A8s {N:Nat} {s t:List UInt8} {K:List UInt8→List UInt8→Bool→O R} (h:s.length≤4294967280):strings_Cut N s t K=K (Lib.cut s t).1 (Lib.cut s t).2.1 (Lib.cut s t).2.2:=by
 rw[Sz];unfold U2;rw[A8r h,ct]
end
end Gx

namespace Gx.Cf
open Go Go.Proofs
section
variable {R:Type}
def LW (c:UInt8):List UInt8→List (List UInt8)
 | []=>[[]]
 | b::r=>if b=c then []::LW c r else match LW c r with | []=>[[b]] | w::ws=>(b::w)::ws
theorem A7q (c:UInt8):∀ s,LW c s≠[]
 | []=>by simp[LW]
 | b::r=>by
  rw[LW]
  split
  ·simp
  ·split<;>simp
theorem Ao7 {c:UInt8}:∀ {s:List UInt8},c ∉ s→LW c s=[s]
 | [],_=>rfl
 | b::r,h=>by
  rw[LW,if_neg (fun e=>h (by simp[e])),Ao7 (fun hr=>h (List.mem_cons_of_mem _ hr))]
theorem sn {c:UInt8} {b:List UInt8}:∀ {a:List UInt8},c ∉ a→LW c (a++c::b)=a::LW c b
 | [],_=>by rw[List.nil_append,LW,if_pos rfl]
 | x::r,h=>by
  rw[List.cons_append,LW,if_neg (fun e=>h (by simp[e])),sn (fun hr=>h (List.mem_cons_of_mem _ hr))]
theorem sp {c:UInt8}:∀ {s:List UInt8},c ∈ s→∃ a b,s=a++c::b∧c ∉ a
 | x::r,h=>by
  by_cases e:c=x
  ·exact⟨[],r,by rw[e];rfl,by simp⟩
  ·obtain⟨a,b,d,f⟩:=sp (s:=r) (by rcases List.mem_cons.1 h with h | h;exact absurd h e;exact h)
   exact⟨x::a,b,by rw[d];rfl,by simp[e,f]⟩
theorem A2x (c:UInt8):∀ (n:Nat) (s:List UInt8),s.length≤n→Lib.splitK [c] 0 (Lib.count s [c]) s=LW c s:=by
 intro n
 induction n with
 | zero =>
  intro s hs
  have:s=[]:=List.eq_nil_of_length_eq_zero (by omega)
  subst this
  rw[Lib.count_miss (qi c [] (by simp))];rfl
 | succ n j =>
  intro s hs
  by_cases h:c ∈ s
  ·obtain⟨a,b,rfl,d⟩:=sp h
   have hi:=Ae1 c b a d
   have e:List.drop (a.length+[c].length) (a++c::b)=b:=by
    rw[←List.drop_drop,List.drop_left];rfl
   rw[List.length_append,List.length_cons] at hs
   have f:=Lib.count_hit (s:=a++c::b) (sub:=[c]) (i:=a.length) (by simp) hi
   rw[e] at f
   rw[f,Nat.add_comm 1,Lib.splitK,hi,if_neg (by simp),Int.toNat_natCast,e,j b (by omega),Nat.add_zero,List.take_left,sn d]
  ·rw[Lib.count_miss (qi c s h),Ao7 h];rfl
theorem A2y (c:UInt8) (s:List UInt8):NA s [c]=LW c s:=by
 unfold NA
 have:=Lib.splitB_data ⟨⟨[c]⟩⟩ 0 (Lib.countB ⟨⟨s⟩⟩ ⟨⟨[c]⟩⟩) ⟨⟨s⟩⟩
 rw[this]
 exact A2x c s.length s (Nat.le_refl _)
theorem y_ {c:UInt8}:∀ s:List UInt8,(LW c s).length≤s.length+1
 | []=>by simp[LW]
 | b::r=>by
  have:=y_ (c:=c) r
  rw[LW]
  split
  ·simp;omega
  ·split
   ·simp
   ·rename_i e;rw[e] at this;simp at this ⊢;omega
def Kx (w:List UInt8):Bool:=!(w==[])
def Oi (line:List UInt8):List (List UInt8):=(LW 32 (Lib.cut line [35]).1).filter Kx
theorem Ao8 (s t:List UInt8):(Lib.cut s t).1.length≤s.length:=by
 unfold Lib.cut
 split
 ·rw[List.length_take];omega
 ·exact Nat.le_refl _
theorem kq {N:Nat} {w:List UInt8} {K:Bool→O R}:Rc N w K=K (w==[]):=by rw[QR];rfl
theorem Ao9 {l:List (List UInt8)} {j:Nat} (h:j<l.length) {f:List UInt8→O R}:Wb (List.drop j (Bg l)) f=f l[j]:=by
 have:List.drop j (Bg l)=.str l[j]::Bg (l.drop (j+1)):=by
  unfold Bg
  rw[←List.map_drop,List.drop_eq_getElem_cons h];rfl
 rw[this];rfl
theorem A0n {N:Nat} {l:List (List UInt8)} {o o':Bool} (k:l.length≤1000000000):∀ (m j fuel:Nat),j+m=l.length→m<fuel→(∀ i (h:i<l.length),i<j→l[i]≠[]) →
  (∃ g,∃ h:g<l.length,l[g]=[]∧(∀ i (h:i<l.length),i<g→l[i]≠[])∧∀ K:Int→O R,Aw N K (Bg l) l.length o o' fuel (l.length:Int) (j:Int)=K (g:Int)) ∨
  ((∀ i (h:i<l.length),l[i]≠[])∧∀ K:Int→O R,Aw N K (Bg l) l.length o o' fuel (l.length:Int) (j:Int)=K (-1))
 | 0,j,fuel+1,n,_,b=>by
  refine .inr ⟨fun i h=>b i h (by omega),fun K=>?_⟩
  rw[Aw];unfold Ct
  rw[Iz (by omega),cf]
 | m+1,j,fuel+1,n,u,b=>by
  have h:j<l.length:=by omega
  have step:∀ K:Int→O R,Aw N K (Bg l) l.length o o' (fuel+1) (l.length:Int) (j:Int)=cond (l[j]==[]) (K (j:Int)) (Aw N K (Bg l) l.length o o' fuel (l.length:Int) ((j+1:Nat):Int)):=fun K=>by
   rw[Aw];unfold Ct
   rw[Hh h,ct,Ab h,ct,Int.toNat_natCast,Nat.mul_one,Ao9 h,kq,wS (by omega)]
  by_cases e:l[j]=[]
  ·exact .inl ⟨j,h,e,b,fun K=>by rw[step,e];rfl⟩
  ·have f:(l[j]==[])=false:=by simpa using e
   rcases A0n k m (j+1) fuel (by omega) (by omega) (fun i hi q=>by
    by_cases e3:i=j
    ·subst e3;exact e
    ·exact b i hi (by omega)) with⟨g,c,d,s,t⟩ | ⟨c,d⟩
   ·exact .inl ⟨g,c,d,s,fun K=>by rw[step,f];exact t K⟩
   ·exact .inr ⟨c,fun K=>by rw[step,f];exact d K⟩
end
end Gx.Cf

namespace Gx.Cf
open Go Go.Proofs
section
variable {R:Type}
def mG (n:Nat):LA:=List.replicate n (.str [])
theorem FQ (l:List (List UInt8)) (j:Nat):List.take j (Bg l)=Bg (l.take j):=by unfold Bg;rw[List.map_take]
theorem FR (l:List (List UInt8)) (j:Nat):List.drop j (Bg l)=Bg (l.drop j):=by unfold Bg;rw[List.map_drop]
theorem A5c (l m:List (List UInt8)):Bg (l++m)=Bg l++Bg m:=by unfold Bg;rw[List.map_append]
theorem Ae2 {l:List (List UInt8)} (h:∀ i (h:i<l.length),l[i]≠[]):l.filter Kx=l:=by
 rw[List.filter_eq_self]
 intro w b
 obtain⟨i,hi,rfl⟩:=List.getElem_of_mem b
 have:=h i hi
 unfold Kx;simpa using this
theorem A2z (A:List (List UInt8)) (x:List UInt8) (D:LA):List.take (A.length+1) (Bg A++.str x::D)=Bg A++Bg [x]:=by
 have e:Bg A++.str x::D=(Bg A++Bg [x])++D:=by simp[Bg]
 rw[e,List.take_left' (by simp[Bg])]
theorem Ae3 {N:Nat} {l:List (List UInt8)} {d0:LA} (q:l.length≤1000000000):∀ (m e fuel:Nat) (f:LA),e+m=l.length→m<fuel→f.length=l.length→f.take ((l.take e).filter Kx).length=Bg ((l.take e).filter Kx)→f.drop e=Bg (l.drop e) →
  ∀ K:Nat→LA→O R,Bd N K l.length d0 fuel (((l.take e).filter Kx).length:Int) (e:Int) f=K (l.filter Kx).length (Bg (l.filter Kx)++mG (l.length - (l.filter Kx).length))
 | 0,e,fuel+1,f,u,_,i,c,j,K=>by
  have v:e=l.length:=by omega
  have x:l.take e=l:=List.take_of_length_le (by omega)
  rw[x] at c ⊢
  have k:=List.length_filter_le Kx l
  rw[Bd];unfold Cl
  rw[Iz (by omega),cf]
  rw[show((decide (0≤((l.filter Kx).length:Int)))&&((decide (((l.filter Kx).length:Int)≤((l.length:Nat):Int)))&&((decide (((l.length:Nat):Int)≤((l.length:Nat):Int)))&&(decide (((l.length:Nat):Int)≤((l.length:Nat):Int))))))=true by simp;omega,ct]
  rw[show((decide ((0:Int)≤(0:Int)))&&((decide (0≤((l.filter Kx).length:Int)))&&((decide (((l.filter Kx).length:Int)≤((l.length:Nat):Int)))&&(decide (((l.length:Nat):Int)≤((l.length:Nat):Int))))))=true by simp;omega,ct]
  rw[Int.toNat_natCast,Nat.mul_one,Nat.zero_add]
  have hs:Cx f (l.filter Kx).length (List.replicate (l.length - (l.filter Kx).length) (.str []))=Bg (l.filter Kx)++mG (l.length - (l.filter Kx).length):=by
   unfold Cx mG
   rw[c,List.length_replicate,List.drop_eq_nil_of_le (by omega),List.append_nil]
  rw[hs]
 | m+1,e,fuel+1,f,u,y,i,c,j,K=>by
  have h:e<l.length:=by omega
  have k:((l.take e).filter Kx).length≤e:=by
   have:=List.length_filter_le Kx (l.take e)
   rw[List.length_take] at this;omega
  have s:l.take (e+1)=l.take e++[l[e]]:=List.take_succ_eq_append_getElem h
  have n:∀ F:List UInt8→O R,Wb (List.drop (0+(e*1)) f) F=F l[e]:=fun F=>by
   rw[Nat.zero_add,Nat.mul_one,j,List.drop_eq_getElem_cons h];rfl
  rw[Bd];unfold Cl
  rw[Hh h,ct,Ab h,ct,Int.toNat_natCast,n,kq,wS (by omega)]
  cases t:(l[e]==[]) with
  | true =>
   have b:(l.take (e+1)).filter Kx=(l.take e).filter Kx:=by
    rw[s,List.filter_append,List.filter_cons]
    have:Kx l[e]=false:=by unfold Kx;rw[t];rfl
    rw[if_neg (by simp[this])];simp
   rw[show(!true)=false by rfl,cf,wS (by omega)]
   have:=Ae3 (N:=N) (d0:=d0) q m (e+1) fuel f (by omega) (by omega) i (by rw[b];exact c) (by rw[←List.drop_drop,j,FR,List.drop_drop]) K
   rw[b] at this
   exact this
  | false =>
   have b:(l.take (e+1)).filter Kx=(l.take e).filter Kx++[l[e]]:=by
    rw[s,List.filter_append,List.filter_cons]
    have:Kx l[e]=true:=by unfold Kx;rw[t];rfl
    rw[if_pos this];simp
   rw[show(!false)=true by rfl,ct,Ab (show((l.take e).filter Kx).length<l.length by omega),ct,Int.toNat_natCast,Nat.mul_one,Nat.zero_add]
   rw[show((Nat.beq 1 1)&&((Nat.ble (((l.take e).filter Kx).length+1) f.length)&&true))=true by rw[Bq,i];simp;omega,ct,wS (by omega)]
   have d:f.set ((l.take e).filter Kx).length (.str l[e])=Bg ((l.take e).filter Kx)++.str l[e]::f.drop (((l.take e).filter Kx).length+1):=by
    rw[List.set_eq_take_append_cons_drop,if_pos (by omega),c]
   have:=Ae3 (N:=N) (d0:=d0) q m (e+1) fuel (f.set ((l.take e).filter Kx).length (.str l[e])) (by omega) (by omega) (by rw[List.length_set,i])
    (by rw[b,d,List.length_append,List.length_singleton,A5c];exact A2z _ _ _)
    (by rw[List.drop_set,if_pos (by omega),←List.drop_drop,j,FR,List.drop_drop]) K
   rw[b,List.length_append,List.length_singleton] at this
   exact this
theorem A5d {N:Nat} {l:List (List UInt8)} (j:l.length≤1000000000) (hN:l.length+1≤N) (K:Nat→LA→O R):Bs N l.length (Bg l) K=K (l.filter Kx).length (Bg (l.filter Kx)++mG (l.length - (l.filter Kx).length)):=by
 rw[Hk];unfold Da
 rw[Nat.mul_one,FQ,List.take_length,H6];unfold Dl
 rcases A0n (R:=R) (N:=N) (l:=l) (o:=false) (o':=true) j l.length 0 N (by omega) (by omega) (fun i h hi=>by omega) with⟨g,k,m,d,e⟩ | ⟨d,e⟩
 ·refine(e _).trans ?_
  rw[show(((g:Nat):Int)==-1)=false by rw[beq_eq_false_iff_ne];omega,cf,wS (by omega)]
  have f:(l.take g).filter Kx=l.take g:=Ae2 (fun i hi=>by
   rw[List.getElem_take]
   rw[List.length_take] at hi
   exact d i (by omega) (by omega))
  have b:(l.take (g+1)).filter Kx=l.take g:=by
   rw[List.take_succ_eq_append_getElem k,List.filter_append,f,List.filter_cons]
   have:Kx l[g]=false:=by unfold Kx;rw[m];rfl
   rw[if_neg (by simp[this])];simp
  have c:(l.take g).length=g:=by rw[List.length_take];omega
  have:=Ae3 (R:=R) (N:=N) (l:=l) (d0:=Bg l) j (l.length - (g+1)) (g+1) N (Bg l) (by omega) (by omega) (Gr l) (by rw[b,FQ,c]) (FR _ _) K
  rw[b,c] at this
  exact this
 ·refine(e _).trans ?_
  rw[show(((-1:Int))==-1)=true by rfl,ct,Ae2 d,Nat.sub_self]
  unfold mG
  rw[List.replicate_zero,List.append_nil]
theorem Ah4 {N:Nat} {line:List UInt8} (b:line.length≤100000000) (hN:line.length+3≤N) (K:Nat→LA→O R):eh N line K=K (Oi line).length (Bg (Oi line)++mG ((LW 32 (Lib.cut line [35]).1).length - (Oi line).length)):=by
 have d:=Ao8 line [35]
 have e:=y_ (c:=32) (Lib.cut line [35]).1
 rw[qD];unfold sj
 rw[A8s (by omega),O5];unfold Qg
 rw[show(Nat.ble (Lib.cut line [35]).1.length 4294967280&&Nat.ble 1 ([32]:List UInt8).length)=true by simp;omega,ct,A2y]
 exact A5d (by omega) (by omega) K
end
end Gx.Cf

namespace Gx.Cf
open Go Go.Proofs
section
variable {R:Type}
def A7r (z:Int):Bool:=decide (-9223372036854775808≤z)&&decide (z≤9223372036854775807)
def Ay0 (w:List UInt8):Int×Bool:=if 4096<qC w then (0,false) else if A7r (X7 w)=true then (X7 w,true) else (0,false)
theorem A6j {w:List UInt8} (h:NG w=true):(X7 w).natAbs<10 ^ w.length:=by
 by_cases h0:w.head?=some 45
 ·obtain⟨r,rfl⟩:∃ r,w=45::r:=by
   cases w with
   | nil=>simp at h0
   | cons c r=>simp at h0;exact⟨r,by rw[h0]⟩
  have hr:r.all Eh=true:=h
  have b:=pz hr
  show(-((Il r:Nat):Int)).natAbs<_
  rw[Int.natAbs_neg,Int.natAbs_natCast,List.length_cons]
  exact Nat.lt_of_lt_of_le b (Nat.pow_le_pow_right (by decide) (by omega))
 ·have e1:NG w=w.all Eh:=by
   unfold NG;split
   ·exact absurd rfl h0
   ·rfl
  have d:X7 w=((Il w:Nat):Int):=by
   unfold X7;split
   ·exact absurd rfl h0
   ·rfl
  rw[e1] at h
  rw[d,Int.natAbs_natCast]
  exact pz h
theorem Ay1 {N:Nat} {z:Int} {o:Bool} {K:Int→Bool→O R} (b:fit (A9 z.natAbs).length N):Zj N (Jo z) o K=if A7r z=true then K z true else K 0 false:=by
 by_cases h:A7r z=true
 ·rw[if_pos h]
  have e:Jo z=Ur (decide (z<0)) (.of (A9 z.natAbs) false false):=rfl
  rw[e,Aui (QX _ _ _) b (by rw[qA];unfold A7r at h;simpa using h),qA]
 ·rw[if_neg h]
  exact A2w b (by unfold A7r at h;simpa using h)
theorem Ae4 {N:Nat} {w:List UInt8} {K:Int→Bool→Int→O R} (d:w.length≤100000000) (c:fit (w.length+30) N):RA N w K=if hY w=true then K (Ay0 w).1 (Ay0 w).2 0 else K 0 false 2:=by
 rw[kT];unfold mC
 cases hn:hY w with
 | false=>rw[Ao6 hn c,if_neg (by simp)];rfl
 | true =>
  rw[Ah3 hn c,if_pos rfl]
  unfold Ay0
  by_cases b:4096<qC w
  ·rw[if_pos b,if_pos b];rfl
  ·rw[if_neg b,if_neg b]
   have e:=A48 (A6j (Ao5 hn))
   rw[A9m,ct,show((0:Int)==8)=false by rfl,cf,show((0:Int) != 0)=false by rfl,cf,A8m,ct,A89,Ay1 (c.le (by omega))]
   by_cases hr:A7r (X7 w)=true
   ·rw[if_pos hr,if_pos hr]
   ·rw[if_neg hr,if_neg hr]
def Oj (c:CaseD) (f:Int):Option (List (List UInt8)):=if f=1 then some (c.buses.l.map (·.name)) else if f=2 then some (c.units.l.map (·.name)) else if f=3 then some (c.lines.l.map (·.name)) else none
theorem NH {N:Nat} {c:CaseD} {o:Bool} {f:Int} {K:Nat→Bool→LA→O R} (hs:Small c N):Kc N c.av o f K=match Oj c f with | some l=>K l.length true (Bg l) | none=>K 0 false []:=by
 unfold Oj
 by_cases b:f=1
 ·subst b;rw[Ayw hs,if_pos rfl];simp
 by_cases d:f=2
 ·subst d;rw[Ayx hs,if_neg (by decide),if_pos rfl];simp
 by_cases e:f=3
 ·subst e;rw[Ayy hs,if_neg (by decide),if_neg (by decide),if_pos rfl];simp
 rw[Ayz b d e,if_neg b,if_neg d,if_neg e]
def Rt:List (List UInt8)→List UInt8→Int
 | [],_=>-1
 | x::r,w=>if w=x then 0 else if Rt r w<0 then -1 else Rt r w+1
theorem qk (l:List (List UInt8)) (w:List UInt8):-1≤Rt l w:=by
 induction l with
 | nil=>simp[Rt]
 | cons x r b=>rw[Rt];split;omega;split<;>omega
theorem A6k {l:List (List UInt8)} (hn:l.Nodup) {i:Nat} (hi:i<l.length):Rt l l[i]=(i:Int):=by
 induction l generalizing i with
 | nil=>simp at hi
 | cons x r b =>
  rw[List.nodup_cons] at hn
  cases i with
  | zero=>rw[List.getElem_cons_zero,Rt,if_pos rfl];rfl
  | succ i =>
   rw[List.length_cons] at hi
   have c:=b hn.2 (i:=i) (by omega)
   rw[List.getElem_cons_succ,Rt,if_neg (fun e=>hn.1 (by rw[←e];exact List.getElem_mem _)),c,if_neg (by omega)];omega
theorem Akn {N:Nat} {l:List (List UInt8)} {o o':Bool} {w:List UInt8} {K:Int→O R} (b:l.length≤1000000000):∀ (m j fuel:Nat),j+m=l.length→m<fuel →
  Bm N K (Bg l) l.length o o' w fuel (l.length:Int) (j:Int)=K (if Rt (l.drop j) w<0 then -1 else (j:Int)+Rt (l.drop j) w)
 | 0,j,fuel+1,c,_=>by
  rw[Bm];unfold Ds
  rw[Iz (by omega),cf,C1 (by omega)];rfl
 | m+1,j,fuel+1,c,f=>by
  have h:j<l.length:=by omega
  have d:=qk (l.drop (j+1)) w
  rw[Bm];unfold Ds
  rw[Hh h,ct,Ab h,ct,Int.toNat_natCast,Nat.mul_one,Ao9 h,wS (by omega),Akn b m (j+1) fuel (by omega) (by omega),List.drop_eq_getElem_cons h,Rt]
  by_cases e:w=l[j]
  ·rw[show(w==l[j])=true by simpa using e,ct,if_pos e];simp
  ·rw[show(w==l[j])=false by simpa using e,cf,if_neg e]
   by_cases h0:Rt (l.drop (j+1)) w<0
   ·rw[if_pos h0,if_pos h0];rfl
   ·rw[if_neg h0,if_neg h0,if_neg (by omega)]
    congr 1;omega
theorem Ay2 {N:Nat} {l:List (List UInt8)} {o o':Bool} {w:List UInt8} {K:Int→O R} (b:l.length≤1000000000) (hN:l.length+1≤N):Ci N (Bg l) l.length o o' w K=K (Rt l w):=by
 rw[K4];unfold Em
 have:=Akn (R:=R) (N:=N) (l:=l) (o:=o) (o':=o') (w:=w) (K:=K) b l.length 0 N (by omega) (by omega)
 have c:=qk l w
 refine this.trans ?_
 rw[List.drop_zero]
 congr 1
 split<;>omega
end
end Gx.Cf

namespace Gx.Cf
open Go Go.Proofs
section
variable {R:Type}
def Ld:List (List UInt8):=[[100,101,109,97,110,100],[116,114,105,112],[108,105,110,101],[111,102,102,101,114],[115,116,101,112],[99,114,97,115,104],[98,111,111,116],[114,101,116,114,121]]
theorem LX {N:Nat} {row:LA} {w0 w:List UInt8} {r:List (List UInt8)} {b o o':Bool} {K:Bool→O R} (c:∀ F:List UInt8→O R,Wb (row.drop 1) F=F w0):V0 N row b (Bg (w::r)) (r.length+1) o o' K=K (w0==w):=by
 rw[Q_];unfold NB
 rw[c,show Ae (0:Int) (r.length+1)=true from Ab (i:=0) (by omega),ct];rfl
theorem A20 {N n i:Nat} {w:List UInt8} {r:List (List UInt8)} {o o':Bool} {K:Int→O R} (h:i<8):Ay N K 8 yJ (Bg (w::r)) (r.length+1) o o' (n+1) 8 (i:Int)=cond (Ld.getD i []==w) (K (i:Int)) (Ay N K 8 yJ (Bg (w::r)) (r.length+1) o o' n 8 ((i+1:Nat):Int)):=by
 rw[Ay];unfold Ch
 rcases i with _ | _ | _ | _ | _ | _ | _ | _ | i
 ·exact(LX (row:=Ic 0) (fun _=>rfl)).trans rfl
 ·exact(LX (row:=Ic 1) (fun _=>rfl)).trans rfl
 ·exact(LX (row:=Ic 2) (fun _=>rfl)).trans rfl
 ·exact(LX (row:=Ic 3) (fun _=>rfl)).trans rfl
 ·exact(LX (row:=Ic 4) (fun _=>rfl)).trans rfl
 ·exact(LX (row:=Ic 5) (fun _=>rfl)).trans rfl
 ·exact(LX (row:=Ic 6) (fun _=>rfl)).trans rfl
 ·exact(LX (row:=Ic 7) (fun _=>rfl)).trans rfl
 ·omega
theorem Avd {N:Nat} {w:List UInt8} {r:List (List UInt8)} {o o':Bool} {K:Int→O R}:∀ (m i fuel:Nat),i+m=8→m<fuel →
  Ay N K 8 yJ (Bg (w::r)) (r.length+1) o o' fuel 8 (i:Int)=K (if Rt (Ld.drop i) w<0 then -1 else (i:Int)+Rt (Ld.drop i) w)
 | 0,i,fuel+1,hi,_=>by
  obtain rfl:i=8:=by omega
  rw[Ay];unfold Ch
  rfl
 | m+1,i,fuel+1,hi,c=>by
  have h:i<Ld.length:=by show i<8;omega
  have b:=qk (Ld.drop (i+1)) w
  rw[A20 (by omega),Avd m (i+1) fuel (by omega) (by omega),List.drop_eq_getElem_cons h,Rt,List.getD_eq_getElem?_getD,List.getElem?_eq_getElem h]
  by_cases e:w=Ld[i]
  ·rw[show((some Ld[i]).getD []==w)=true by rw[Option.getD_some,←e];simp,ct,if_pos e];simp
  ·rw[show((some Ld[i]).getD []==w)=false by rw[Option.getD_some];simpa using fun h=>e h.symm,cf,if_neg e]
   by_cases h0:Rt (Ld.drop (i+1)) w<0
   ·rw[if_pos h0,if_pos h0];rfl
   ·rw[if_neg h0,if_neg h0,if_neg (by omega)]
    congr 1;omega
theorem A21 {N:Nat} {w:List UInt8} {r:List (List UInt8)} {o o':Bool} {K:Int→O R} (hN:9≤N):Bn N 8 yJ (Bg (w::r)) (r.length+1) o o' K=K (Rt Ld w):=by
 rw[G1];unfold C0
 have b:=qk Ld w
 refine(Avd 8 0 N rfl (by omega)).trans ?_
 rw[List.drop_zero]
 congr 1
 split<;>omega
def ZI (c:CaseD) (f:Int) (G4:List (List UInt8)) (q r:Bool):Option (List (List UInt8)×Bool×Bool×Int) :=
 if f=0 then some (G4,q,r,0) else
 match G4 with
 | []=>none
 | w::rest'=>match Oj c f with
  | some l=>some (rest',q&&decide (Rt l w≥0),r,Rt l w)
  | none=>if hY w=true then some (rest',q,r&&(Ay0 w).2,(Ay0 w).1) else none
theorem Ako {c:CaseD} {f:Int} {G4 d:List (List UInt8)} {q r e t':Bool} {v:Int} (h:ZI c f G4 q r=some (d,e,t',v)):∀ x ∈ d,x ∈ G4:=by
 unfold ZI at h
 split at h
 ·cases h;exact fun x b=>b
 ·split at h
  ·cases h
  ·rename_i w rest'
   split at h
   ·cases h;exact fun x b=>List.mem_cons_of_mem _ b
   ·split at h
    ·cases h;exact fun x b=>List.mem_cons_of_mem _ b
    ·cases h
def A8t:LA:=[.int .i64 0,.int .i64 0,.int .i64 0,.int .i64 0]
theorem Ay3 (l:List Int) (j:Nat) (u:Int):(Ao l).set j (.int .i64 u)=Ao (l.set j u):=by unfold Ao;rw[List.map_set]
theorem A9d {n:Nat}:((decide ((0:Int)≤(1:Int)))&&((decide (1≤((n+1:Nat):Int)))&&((decide (((n+1:Nat):Int)≤((n+1:Nat):Int)))&&(decide (((n+1:Nat):Int)≤((n+1:Nat):Int))))))=true:=by simp;omega
theorem Akp {c:CaseD} {N:Nat} (hs:Small c N) {f:Int} {l:List (List UInt8)} (h:Oj c f=some l):l.length≤1000000∧l.length+1≤N:=by
 have t:=hs.top
 have b:=hs.bus.1;have d:=hs.uni.1;have e:=hs.lin.1
 unfold Oj at h
 split at h
 ·cases h;rw[List.length_map];omega
 ·split at h
  ·cases h;rw[List.length_map];omega
  ·split at h
   ·cases h;rw[List.length_map];omega
   ·cases h
theorem A5e {N n j:Nat} {c:CaseD} {l f:Int} {g i o q r:Bool} {G4:List (List UInt8)} {fl:LA} {vs:List Int} {K:LA→Int→O R} (C:j<3) (m:vs.length=3) (I:vs.set j 0=vs) (z:∀ F:Int→O R,As .i64 (List.drop (j*1) fl) F=F f) (hs:Small c N) (D:∀ w ∈ G4,w.length≤1100000) (G:fit 1200000 N) :
  Ke N K l g i o c.av yJ (n+1) q r (Bg G4) G4.length fl (j:Int) (Ao vs) =
   match ZI c f G4 q r with
   | none=>K A8t 2
   | some (rest',M,S,v)=>Ke N K l g i o c.av yJ n M S (Bg rest') rest'.length fl ((j+1:Nat):Int) (Ao (vs.set j v)):=by
 have hN:=G.1
 rw[Ke];unfold EW
 rw[show decide ((j:Int)<3)=true by simp;omega,ct,show Ae (j:Int) 3=true from Ab C,ct,Int.toNat_natCast,z,wS (by omega)]
 unfold ZI
 by_cases h0:f=0
 ·rw[show(f==0)=true by simpa using h0,ct,if_pos h0]
  dsimp only
  rw[I]
 rw[show(f==0)=false by simpa using h0,cf,if_neg h0]
 cases G4 with
 | nil=>rfl
 | cons w rest' =>
  have k:(Nat.beq 1 1&&(Nat.ble ((0+(j*1))+1) (Ao vs).length&&(!false)))=true:=by rw[Bq,Es,m];simp;omega
  have d:List.take ((rest'.length+1 - 1)*1) (List.drop 1 (Bg (w::rest')))=Bg rest':=by
   rw[Nat.add_sub_cancel,Nat.mul_one,FR,FQ];simp
  have b:List.take (rest'.length*1) (List.drop 1 (Bg (w::rest')))=Bg rest':=by
   rw[Nat.mul_one,FR,FQ];simp
  have e:∀ u:Int,(Ao vs).set (0+(j*1)) (.int .i64 u)=Ao (vs.set j u):=fun u=>by rw[Nat.zero_add,Nat.mul_one,Ay3]
  have A:∀ (u:Int) (F:Int→O R),As .i64 (List.drop (0+(j*1)) (Ao (vs.set j u))) F=F u:=fun u F=>by
   rw[Nat.zero_add,Nat.mul_one,m_ (by rw[List.length_set,m];omega)];simp
  have s:∀ F:List UInt8→O R,Wb (Bg (w::rest')) F=F w:=fun F=>rfl
  have t:Ae (0:Int) (rest'.length+1)=true:=Ab (i:=0) (by omega)
  have x:Ae (j:Int) 3=true:=Ab C
  dsimp only
  rw[List.length_cons,show(((rest'.length+1:Nat):Int)==0)=false by rw[beq_eq_false_iff_ne];omega,cf,Fb,ct,Ce,NH hs]
  cases hn:Oj c f with
  | some L =>
   have hL:=Akp hs hn
   dsimp only
   rw[ct,t,ct,s,Nat.mul_one,FQ,List.take_length,Ay2 (by omega) hL.2]
   simp only[x,ct,k,e,A,A9d,d,b,Nat.add_sub_cancel]
   cases q with
   | true=>rfl
   | false=>rfl
  | none =>
   dsimp only
   rw[cf,t,ct,s,Ae4 (by have:=D w (by simp);omega) (G.le (by have:=D w (by simp);omega))]
   by_cases y:hY w=true
   ·rw[if_pos y,if_pos y]
    simp only[x,ct,cf,k,e,A9d,d,b,Nat.add_sub_cancel,show((0:Int) != 0)=false from rfl]
    cases r with
    | true=>rfl
    | false=>rfl
   ·rw[if_neg y,if_neg y];rfl
def Wc (i j:Nat):Int:=([[1,4,7],[2,5,0],[3,5,0],[2,6,8],[0,0,0],[0,0,9],[0,0,0],[0,4,0]].getD i []).getD j 0
structure EvD where
 k:Int
 a:Int
 b:Int
 v:Int
def EvD.av (e:EvD):LA:=A5u e.k e.a e.b e.v
def fK (c:CaseD) (i:Nat) (G4:List (List UInt8)) (q r:Bool) (a b v:Int):EvD×Int :=
 if G4≠[] then (⟨0,0,0,0⟩,2) else if q=false then (⟨0,0,0,0⟩,12) else if r=false then (⟨0,0,0,0⟩,3) else if BQ c ((i:Int)+1) a b v=true then (⟨(i:Int)+1,a,b,v⟩,0) else (⟨0,0,0,0⟩,3)
def Ae5 (c:CaseD) (i:Nat) (G4:List (List UInt8)):EvD×Int :=
 match ZI c (Wc i 0) G4 true true with
 | none=>(⟨0,0,0,0⟩,2)
 | some (r0,q0,t0,a)=>match ZI c (Wc i 1) r0 q0 t0 with
  | none=>(⟨0,0,0,0⟩,2)
  | some (r1,q1,t1,b)=>match ZI c (Wc i 2) r1 q1 t1 with
   | none=>(⟨0,0,0,0⟩,2)
   | some (r2,q2,t2,v)=>fK c i r2 q2 t2 a b v
def Hw (c:CaseD) (W:List (List UInt8)):EvD×Int:=match W with
 | []=>(⟨0,0,0,0⟩,2)
 | w::r=>if Rt Ld w<0 then (⟨0,0,0,0⟩,2) else Ae5 c (Rt Ld w).toNat r
theorem fL {c:CaseD} {w:List UInt8} {r:List (List UInt8)}:Hw c (w::r)=if Rt Ld w<0 then (⟨0,0,0,0⟩,2) else Ae5 c (Rt Ld w).toNat r:=rfl
theorem A9e {N n i:Nat} {c:CaseD} {g i1 o q r:Bool} {G4:List (List UInt8)} {fl:LA} {a b v:Int} {K:LA→Int→O R} (hi:i<8) (hs:Small c N) (hH:1≤c.hours∧c.hours≤24) :
  Ke N K (i:Int) g i1 o c.av yJ (n+1) q r (Bg G4) G4.length fl 3 (Ao [a,b,v])=K (fK c i G4 q r a b v).1.av (fK c i G4 q r a b v).2:=by
 have d:∀ F:Int→O R,As .i64 (List.drop (0+(i*5)) yJ) F=F ((i:Int)+1):=fun F=>by
  rcases i with _ | _ | _ | _ | _ | _ | _ | _ | i
  ·rfl
  ·rfl
  ·rfl
  ·rfl
  ·rfl
  ·rfl
  ·rfl
  ·rfl
  ·omega
 have h0:∀ F:Int→O R,As .i64 (Ao [a,b,v]) F=F a:=fun F=>rfl
 have e:∀ F:Int→O R,As .i64 (List.drop 1 (Ao [a,b,v])) F=F b:=fun F=>rfl
 have f:∀ F:Int→O R,As .i64 (List.drop 2 (Ao [a,b,v])) F=F v:=fun F=>rfl
 rw[Ke];unfold EW
 rw[show decide ((3:Int)<3)=false by decide,cf,show Ae (i:Int) 8=true from Ab hi,ct,Int.toNat_natCast,d,h0,e,f]
 unfold fK
 cases G4 with
 | cons w rest' =>
  rw[if_pos (by simp),show decide ((((w::rest').length:Nat):Int)>0)=true by simp,ct];rfl
 | nil =>
  rw[if_neg (by simp),show decide (((([]:List (List UInt8)).length:Nat):Int)>0)=false by decide,cf]
  cases q with
  | false=>rfl
  | true =>
   rw[show(!true)=false by rfl,cf,if_neg (by decide)]
   cases r with
   | false=>rfl
   | true =>
    rw[show((!true)==false)=true by rfl,ct,Fb,ct,Ce,if_neg (by decide)]
    refine(NF hs hH).trans ?_
    cases j:BQ c ((i:Int)+1) a b v with
    | true=>rw[if_pos rfl];rfl
    | false=>rw[if_neg (by decide)];rfl
theorem Ah5 {N:Nat} {c:CaseD} {o o1 o2:Bool} {w:List UInt8} {r:List (List UInt8)} {K:LA→Int→O R} (hs:Small c N) (hH:1≤c.hours∧c.hours≤24) (D:∀ x ∈ r,x.length≤1100000) (m:fit 1200000 N) :
  RB N c.av o (Bg (w::r)) (r.length+1) o1 o2 K=K (Hw c (w::r)).1.av (Hw c (w::r)).2:=by
 have hN:=m.1
 have I:=qk Ld w
 obtain⟨n,rfl⟩:∃ n,N=n+4:=⟨N - 4,by omega⟩
 have s:Rt Ld w<8:=by
  have:∀ (l:List (List UInt8)),Rt l w<(l.length:Int)∨Rt l w=-1:=by
   intro l
   induction l with
   | nil=>right;rfl
   | cons x l L =>
    rw[Rt,List.length_cons]
    split
    ·left;omega
    ·split
     ·right;rfl
     ·left;rcases L with h | h<;>omega
  rcases this Ld with h | h
  ·exact h
  ·omega
 rw[qV];unfold gV
 rw[kZ,A21 (by omega)]
 rw[fL]
 by_cases h0:Rt Ld w<0
 ·rw[decide_eq_true h0,ct,if_pos h0];rfl
 rw[decide_eq_false h0,cf,if_neg h0]
 obtain⟨i,hi⟩:∃ i:Nat,Rt Ld w=i:=⟨(Rt Ld w).toNat,by omega⟩
 rw[hi] at s ⊢
 have e:i<8:=by omega
 have d:List.take ((r.length+1 - 1)*1) (List.drop 1 (Bg (w::r)))=Bg r:=by
  rw[Nat.add_sub_cancel,Nat.mul_one,FR,FQ];simp
 rw[A9d,ct,show Ae (i:Int) 8=true from Ab e,ct,d,Nat.add_sub_cancel,Int.toNat_natCast]
 obtain⟨t,u⟩:Nat.ble 3 ((yJ.drop ((0+(i*5))+2)).length)=true∧(yJ.drop ((0+(i*5))+2)).take 3=Ao [Wc i 0,Wc i 1,Wc i 2]:=by
  rcases i with _ | _ | _ | _ | _ | _ | _ | _ | i
  ·exact⟨rfl,rfl⟩
  ·exact⟨rfl,rfl⟩
  ·exact⟨rfl,rfl⟩
  ·exact⟨rfl,rfl⟩
  ·exact⟨rfl,rfl⟩
  ·exact⟨rfl,rfl⟩
  ·exact⟨rfl,rfl⟩
  ·exact⟨rfl,rfl⟩
  ·omega
 rw[t,ct,u]
 unfold Ae5
 have M:=A5e (R:=R) (N:=n+4) (n:=n+3) (j:=0) (c:=c) (l:=(i:Int)) (f:=Wc i 0) (g:=o1) (i:=o2) (o:=o) (q:=true) (r:=true) (G4:=r) (fl:=Ao [Wc i 0,Wc i 1,Wc i 2]) (vs:=[0,0,0]) (K:=K) (by omega) rfl rfl (fun _=>rfl) hs D m
 refine M.trans ?_
 cases S:ZI c (Wc i 0) r true true with
 | none=>rfl
 | some x0 =>
  obtain⟨y,F,t0,a⟩:=x0
  dsimp only
  have k:∀ x ∈ y,x.length≤1100000:=fun x z=>D x (Ako S x z)
  have s1:=A5e (R:=R) (N:=n+4) (n:=n+2) (j:=1) (c:=c) (l:=(i:Int)) (f:=Wc i 1) (g:=o1) (i:=o2) (o:=o) (q:=F) (r:=t0) (G4:=y) (fl:=Ao [Wc i 0,Wc i 1,Wc i 2]) (vs:=[a,0,0]) (K:=K) (by omega) rfl rfl (fun _=>rfl) hs k m
  refine s1.trans ?_
  cases e1:ZI c (Wc i 1) y F t0 with
  | none=>rfl
  | some x1 =>
   obtain⟨A,G,t1,b⟩:=x1
   dsimp only
   have C:∀ x ∈ A,x.length≤1100000:=fun x z=>k x (Ako e1 x z)
   have s2:=A5e (R:=R) (N:=n+4) (n:=n+1) (j:=2) (c:=c) (l:=(i:Int)) (f:=Wc i 2) (g:=o1) (i:=o2) (o:=o) (q:=G) (r:=t1) (G4:=A) (fl:=Ao [Wc i 0,Wc i 1,Wc i 2]) (vs:=[a,b,0]) (K:=K) (by omega) rfl rfl (fun _=>rfl) hs C m
   refine s2.trans ?_
   cases T:ZI c (Wc i 2) A G t1 with
   | none=>rfl
   | some x2 =>
    obtain⟨U,V,t2,v⟩:=x2
    dsimp only
    exact A9e e hs hH
end
end Gx.Cf

namespace Gx.Cf
open Go Go.Proofs
section
variable {R:Type}
def C8 (c:CaseD):List (List UInt8)→Nat→List EvD→List EvD×Int×Int
 | [],_,acc=>(acc,0,0)
 | x::ls,at_,acc=>match Oi x with
  | []=>C8 c ls (at_+1) acc
  | w::r=>if (Hw c (w::r)).2=0 then (if acc.length=256 then ([],(at_:Int),8) else C8 c ls (at_+1) (acc++[(Hw c (w::r)).1])) else ([],(at_:Int),(Hw c (w::r)).2)
theorem Apa (l:List EvD):(l.flatMap EvD.av).length=l.length*4:=by
 induction l with
 | nil=>rfl
 | cons e l b=>rw[List.flatMap_cons,List.length_append,b,show e.av.length=4 from rfl,List.length_cons];omega
theorem ya {c:UInt8}:∀ {s w:List UInt8},w ∈ LW c s→w.length≤s.length
 | [],w,h=>by simp[LW] at h;subst h;exact Nat.le_refl _
 | b::r,w,h=>by
  rw[LW] at h
  split at h
  ·rcases List.mem_cons.1 h with rfl | h
   ·simp
   ·have:=ya h;simp;omega
  ·split at h
   ·simp at h;subst h;simp
   ·rename_i w0 ws d
    rcases List.mem_cons.1 h with rfl | h
    ·have:=ya (c:=c) (s:=r) (w:=w0) (by rw[d];simp);simp;omega
    ·have:=ya (c:=c) (s:=r) (w:=w) (by rw[d];exact List.mem_cons_of_mem _ h);simp;omega
theorem A22 {x w:List UInt8} (h:w ∈ Oi x):w.length≤x.length:=by
 have b:=ya (List.mem_filter.1 h).1
 exact Nat.le_trans b (Ao8 _ _)
theorem A5f (e:EvD):((Nat.beq (List.length e.av) 4)&&((Nat.ble 4 4)&&(!false)))=true:=rfl
theorem Ay4 {N:Nat} {c:CaseD} {o:Bool} {K:Nat→Int→Int→LA→O R} (hs:Small c N) (hH:1≤c.hours∧c.hours≤24) (F:fit 1200000 N):∀ (ls:List (List UInt8)) (g:List UInt8) (i:Bool) (at_ fuel:Nat) (acc:List EvD),((i=true∧LW 10 g=ls)∨(i=false∧ls=[]))→g.length≤1048576→ls.length<fuel→at_+ls.length≤100000000→acc.length≤256 →
  Me N K o c.av fuel g acc.length (at_:Int) i (acc.flatMap EvD.av)=K (C8 c ls at_ acc).1.length (C8 c ls at_ acc).2.1 (C8 c ls at_ acc).2.2 ((C8 c ls at_ acc).1.flatMap EvD.av):=by
 have hN:=F.1
 intro ls
 induction ls with
 | nil =>
  intro g i at_ fuel acc hi A f n j
  rcases hi with⟨rfl,hi⟩ | ⟨rfl,_⟩
  ·exact absurd hi (A7q _ _)
  ·cases fuel with
   | zero=>simp at f
   | succ fuel=>rw[Me];unfold EX;rfl
 | cons x ls G =>
  intro g i at_ fuel acc hi A f n j
  rw[List.length_cons] at f n
  rcases hi with⟨rfl,hi⟩ | ⟨_,hi⟩
  ·cases fuel with
   | zero=>simp at f
   | succ fuel =>
    obtain⟨g',m,q,d,s,S⟩:∃ g' m,Lib.cut g [10]=(x,g',m)∧((m=true∧LW 10 g'=ls)∨(m=false∧ls=[]))∧g'.length≤1048576∧x.length≤1048576:=by
     by_cases h:(10:UInt8) ∈ g
     ·obtain⟨a,b,rfl,I⟩:=sp h
      rw[sn I] at hi
      obtain⟨rfl,rfl⟩:=List.cons.inj hi
      rw[List.length_append,List.length_cons] at A
      exact⟨b,true,A7p I,.inl ⟨rfl,rfl⟩,by omega,by omega⟩
     ·rw[Ao7 h] at hi
      obtain⟨rfl,rfl⟩:=List.cons.inj hi
      exact⟨[],false,A5b h,.inr ⟨rfl,rfl⟩,by simp,A⟩
    have L:(Oi x).length≤x.length+1:=Nat.le_trans (List.length_filter_le _ _) (Nat.le_trans (y_ _) (by have:=Ao8 x [35];omega))
    rw[Me];unfold EX
    rw[ct,A8s (by omega),q]
    dsimp only
    rw[Ah4 (by omega) (by omega),wS (by omega)]
    have C:List.take ((Oi x).length*1) (Bg (Oi x)++mG ((LW 32 (Lib.cut x [35]).1).length - (Oi x).length))=Bg (Oi x):=by
     rw[Nat.mul_one,List.take_left' (Gr _)]
    rw[C,C8]
    cases hW:Oi x with
    | nil =>
     rw[show(((([]:List (List UInt8)).length:Nat):Int)==0)=true by rfl,ct]
     exact G g' m (at_+1) fuel acc d s (by omega) (by omega) j
    | cons w r =>
     have D:∀ y ∈ r,y.length≤1100000:=fun y M=>by
      have:=A22 (x:=x) (w:=y) (by rw[hW];exact List.mem_cons_of_mem _ M)
      omega
     dsimp only
     rw[show((((w::r).length:Nat):Int)==0)=false by rw[beq_eq_false_iff_ne,List.length_cons];omega,cf,Fb,ct,Ce,List.length_cons,Ah5 hs hH D F,A5f,ct]
     have k:setCells [(.int .i64 0),(.int .i64 0),(.int .i64 0),(.int .i64 0)] 0 (Hw c (w::r)).1.av=(Hw c (w::r)).1.av:=rfl
     rw[k]
     by_cases t:(Hw c (w::r)).2=0
     ·rw[if_pos t,t,show(((0:Int)==0)==true)=true by rfl,ct,A9c]
      by_cases e:acc.length=256
      ·rw[if_pos e,show(((acc.length:Nat):Int)==256)=true by rw[e];rfl,ct]
       unfold Uk
       rfl
      ·rw[if_neg e,show(((acc.length:Nat):Int)==256)=false by rw[beq_eq_false_iff_ne];omega,cf]
       unfold Uk
       rw[show((0:Int) != 0)=false by rfl,cf]
       have l:((Nat.ble (acc.length+1) 140737488355328)&&(Nat.ble ((acc.length+1)*32) 140737488355328))=true:=by rw[Bq,Bq];simp;omega
       have u:List.take (acc.length*4) (acc.flatMap EvD.av)=acc.flatMap EvD.av:=by rw[List.take_of_length_le (by rw[Apa];exact Nat.le_refl _)]
       have v:List.take 4 (Hw c (w::r)).1.av=(Hw c (w::r)).1.av:=rfl
       rw[v,show Nat.ble 4 (Hw c (w::r)).1.av.length=true by rfl,ct,show((Nat.beq (Hw c (w::r)).1.av.length 4)&&(Nat.ble 4 4))=true by rfl,ct,l,ct,u,k,v,wS (by omega)]
       have z:acc.flatMap EvD.av++(Hw c (w::r)).1.av=(acc++[(Hw c (w::r)).1]).flatMap EvD.av:=by rw[List.flatMap_append];simp
       have:=G g' m (at_+1) fuel (acc++[(Hw c (w::r)).1]) d s (by omega) (by omega) (by rw[List.length_append,List.length_singleton];omega)
       rw[List.length_append,List.length_singleton] at this
       rw[z]
       exact this
     ·rw[if_neg t,show((((Hw c (w::r)).2)==0)==true)=false by rw[A62,beq_eq_false_iff_ne];exact t,cf]
      unfold Uk
      rw[show(((Hw c (w::r)).2) != 0)=true by simpa using t,ct]
      rfl
  ·cases hi
theorem N9 {N:Nat} {c:CaseD} {o:Bool} {s:List UInt8} {K:Nat→Int→Int→LA→O R} (hs:Small c N) (b:Ca c=none) (e:s.length≤1048576) (d:fit 1200000 N) :
  Ho N c.av o s K=K (C8 c (LW 10 s) 1 []).1.length (C8 c (LW 10 s) 1 []).2.1 (C8 c (LW 10 s) 1 []).2.2 ((C8 c (LW 10 s) 1 []).1.flatMap EvD.av):=by
 have hN:=d.1
 have f:=y_ (c:=10) s
 have hH:1≤c.hours∧c.hours≤24:=by
  unfold Ca at b
  split at b
  ·cases b
  ·rename_i i;exact(gE i).hours
 rw[qX];unfold gW
 rw[Fb,ct,Ce,kP hs,b]
 show cond (decide (((s.length:Nat):Int)>1048576)) _ _=_
 rw[decide_eq_false (by omega),cf]
 exact Ay4 hs hH d (LW 10 s) s true 1 N [] (.inl ⟨rfl,rfl⟩) e (by omega) (by omega) (by simp)
end
end Gx.Cf

namespace Gx.Cf
open Go Go.Proofs
section
variable {R:Type}
theorem Akq {N:Nat} (hN:4096≤N) {c:CaseD} (g:XS c):Small c N:=by
 obtain⟨H,d,bs,ls,us,ss,ts,os,b,og,_,rfl⟩:=g
 exact Aj2 hN b og
theorem fM {N:Nat} {v n:Int} (b:1≤n) (c:n≤4611686018427387904):∃ r:Int,0≤r∧r<n∧∀ K:Int→O R,GX N v n K=K r:=by
 obtain⟨a1,a2,a3⟩:=Asr v n b c
 refine⟨_,a2,a3,fun K=>?_⟩
 rw[l8];unfold yU
 rw[a1,cf]
end
end Gx.Cf

namespace Gx.Cf
open Go Go.Proofs
section
variable {R:Type}
theorem Tg {ok:Bool} {w:Int×Int×Int} {e:{ e:Int // e≠0 }} (h:ok=true):nd none ok w e=none:=by rw[h];rfl
theorem IG {α:Type} {f:Nat→α→C6→C6}:∀ (l:List α) (j:Nat),(∀ i (h:i<l.length),f (j+i) l[i] none=none)→Bj f l j none=none
 | [],_,_=>rfl
 | a::r,j,h=>by
  rw[Bj]
  have h0:=h 0 (by simp)
  simp only[Nat.add_zero,List.getElem_cons_zero] at h0
  rw[h0]
  exact IG r (j+1) (fun i hi=>by have:=h (i+1) (by simpa using hi);rw[show j+1+i=j+(i+1) by omega];simpa using this)
theorem Apb:∀ i,i<16→∀ j,j<16→A86.getD i 0=A86.getD j 0→i=j:=by decide
theorem mH:∀ i,i<16→G7 [98,A86.getD i 0]=true∧G7 [108,A86.getD i 0]=true∧G7 [117,A86.getD i 0]=true∧G7 [111,A86.getD i 0]=true:=by decide
theorem RD {names:List (List UInt8)} {k:Int} {i:Nat} {s:List UInt8} (b:G7 s=true) (c:∀ x ∈ names.take i,x≠s):Hj (names.take i) k i s none=none:=by
 unfold Hj
 rw[Tg b,Tg]
 rw[List.all_eq_true]
 intro x d
 have:=c x d
 simpa using this
theorem ql {α β:Type} {f:α→β} {l:List α} {i:Nat} {x:β} (h:x ∈ (l.map f).take i):∃ j,∃ (b:j<l.length),j<i∧x=f l[j]:=by
 obtain⟨j,b,rfl⟩:=List.getElem_of_mem h
 have c:j<i∧j<l.length:=by simp at b;omega
 exact⟨j,c.2,c.1,by simp⟩
theorem qm {H:Nat} {l:List Int} {lo hi:Int} {w:Int×Int×Int} (b:l.length=H) (c:∀ x ∈ l,lo≤x∧x≤hi):jZ (H:Int) l lo hi w none=none:=by
 unfold jZ
 rw[Tg (by simp[b]),Tg]
 rw[List.all_eq_true];intro x d;exact Fw (c x d)
theorem A0o {H:Nat} {l:List Int} {w:Int×Int×Int} (hH:1≤H∧H≤3) (b:l.length≤1) (c:∀ x ∈ l,0≤x∧x<(H:Int)):dB (H:Int) l w none=none:=by
 unfold dB
 rw[Px (by omega),Tg,Tg]
 ·match l,b with
  | [],_=>exact oP
  | [a],_=>exact TC a
 ·rw[List.all_eq_true];intro x d;have:=c x d;exact Fw (by omega)
structure OutV (nl nu:Nat) (x:OutD):Prop where
 ll:x.lines.l.length=1∨x.lines.l.length=2
 lr:∀ y ∈ x.lines.l,0≤y∧y<(nl:Int)
 la:lh x.lines.l=true
 ml:x.moves.l.length≤16
 mc:((x.moves.l.length:Int)==0||x.corr)=true
 mr:∀ m ∈ x.moves.l,0≤m.unit∧m.unit<(nu:Int)
 ma:lh (x.moves.l.map (·.unit))=true
 mi:x.moves.l.all Agj=true
theorem Ae6 {c:CaseD} {b:Int} (h:0≤b∧b<(c.buses.l.length:Int)):XF c b=true:=by
 unfold XF;rw[decide_eq_true h.1,decide_eq_true h.2];rfl
theorem A6l {c:CaseD} {H:Nat} {s:List Int} {bs:List BusD} {ls:List LineD} {us:List UnitD} {ss:List StoreD} {ts:List TieD} {os:List OutD} (eH:c.hours=(H:Int)) (eR:c.reserve.l=s) (eB:c.buses.l=bs) (eL:c.lines.l=ls) (eU:c.units.l=us) (eS:c.stores.l=ss) (eT:c.ties.l=ts) (eO:c.outs.l=os)
  (b:BaseG H s bs ls us ss ts) (D:os.length≤4) (F:∀ x ∈ os,OutV ls.length us.length x)
  (hn:∀ i (h:i<os.length),G7 os[i].name=true∧∀ j (k:j<os.length),j<i→os[j].name≠os[i].name):HN c=none:=by
 have A:=b.h;have bl:=b.bl;have ll:=b.ll;have ul:=b.ul;have sl:=b.sl;have tl:=b.tl
 have G:dC c none=none:=by
  unfold dC
  simp only[eH,eR,eB,eL,eU,eS,eT,eO]
  rw[Tg (Fw (by omega)),qm b.rl (fun x d=>by have:=b.rr x d;omega),Tg (Fw (by omega)),Tg (decide_eq_true (by omega)),Tg (decide_eq_true (by omega)),Tg (decide_eq_true (by omega)),Tg (decide_eq_true (by omega)),Tg (decide_eq_true (by omega))]
 have I:Bj (sU c) bs 0 none=none:=by
  refine IG _ _ fun i hi=>?_
  have g:=b.bg i hi
  unfold sU
  simp only[eH,eB,eL,eU,eS,eT,eO,Nat.zero_add]
  rw[RD (by rw[g.name];exact(mH i (by omega)).1) (by
   intro x d
   obtain⟨j,k,f,rfl⟩:=ql d
   rw[(b.bg j k).name,g.name]
   intro e;simp at e;have:=Apb j (by omega) i (by omega) (by simpa using e);omega),qm g.dl (fun x d=>by have:=g.dr x d;omega),Tg (Fw (by have:=g.shed;omega))]
 have K:Bj (CN c) ls 0 none=none:=by
  refine IG _ _ fun i hi=>?_
  have g:=b.lg i hi
  unfold CN
  simp only[eH,eB,eL,eU,eS,eT,eO,Nat.zero_add]
  rw[RD (by rw[g.g.name];exact(mH i (by omega)).2.1) (by
   intro x d
   obtain⟨j,k,f,rfl⟩:=ql d
   rw[(b.lg j k).g.name,g.g.name]
   intro e;simp at e;have:=Apb j (by omega) i (by omega) (by simpa using e);omega)]
  have t:=g.fr;have q:=g.tx;have C:=g.ne
  rw[Tg (Ae6 (by rw[eB];omega)),Tg (Ae6 (by rw[eB];omega)),Tg (by simpa using fun e=>C e.symm),Tg g.g.re,Tg g.g.smin,Tg g.g.smax,Tg g.g.lim,Tg g.g.em,A0o A g.g.aw g.g.awr]
 have L:Bj (HG c) us 0 none=none:=by
  refine IG _ _ fun i hi=>?_
  have g:=b.ug i hi
  unfold HG Am8
  simp only[eH,eB,eL,eU,eS,eT,eO,Nat.zero_add]
  have t:=g.bus
  have e1:Hj ((us.map (·.name)).take i) 3 (i:Int) us[i].name none=none:=RD (by rw[g.name];exact(mH i (by omega)).2.2.1) (by
   intro x d
   obtain⟨j,k,f,rfl⟩:=ql d
   rw[(b.ug j k).name,g.name]
   intro e;simp at e;have:=Apb j (by omega) i (by omega) (by simpa using e);omega)
  rw[e1,Tg (Ae6 (by rw[eB];omega)),Tg g.min,Tg g.max,Tg (decide_eq_true (by have:=g.sl;omega)),Tg g.sok,Tg g.sord,Tg g.ssum,Tg g.noLoad,Tg g.rampUp,Tg g.rampDown,Tg g.startRamp,Tg g.stopRamp,Tg g.upTime,Tg g.downTime,Tg g.startTime,Tg g.hotCost,Tg g.coldCost,Tg g.hotHours,Tg g.reserve,Tg g.reservePrice,A0o A g.aw g.awr,Tg g.state,Tg g.starting,Tg g.hours,Tg g.started]
  have q:=g.output
  cases d:us[i].state==2 with
  | true=>rw[d] at q;exact Tg q
  | false=>rw[d] at q;exact Tg q
 have u:Bj (BL c) ss 0 none=none:=by
  refine IG _ _ fun i hi=>?_
  have g:=b.sg _ (List.getElem_mem hi)
  have n:i=0:=by omega
  unfold BL Jm
  simp only[eH,eB,eL,eU,eS,eT,eO,Nat.zero_add]
  have t:=g.bus;have q:=g.cap;have C:=g.ini;have S:=g.fin;have T:=g.ch;have U:=g.dis;have V:=g.eff
  have e1:Hj ((ss.map (·.name)).take i) 4 (i:Int) ss[i].name none=none:=RD (by rw[g.name];decide) (by subst n;simp)
  rw[e1,Tg (Ae6 (by rw[eB];omega)),Tg (Fw (by omega)),Tg (Fw (by omega)),Tg (Fw (by omega)),Tg (Fw (by omega)),Tg (Fw (by omega)),Tg]
  rw[Fw (by omega),Fw (by omega)];simp;omega
 have v:Bj (Agi c) ts 0 none=none:=by
  refine IG _ _ fun i hi=>?_
  have g:=b.tg _ (List.getElem_mem hi)
  have n:i=0:=by omega
  unfold Agi
  simp only[eH,eB,eL,eU,eS,eT,eO,Nat.zero_add]
  have t:=g.bus
  have e1:Hj ((ts.map (·.name)).take i) 5 (i:Int) ts[i].name none=none:=RD (by rw[g.name];decide) (by subst n;simp)
  rw[e1,Tg (Ae6 (by rw[eB];omega)),qm g.il (fun x d=>by have:=g.ir x d;omega),qm g.el (fun x d=>by have:=g.er x d;omega),qm g.pl (fun x d=>by have:=g.pr x d;omega)]
 have z:Bj (lj c) os 0 none=none:=by
  refine IG _ _ fun i hi=>?_
  have g:=F _ (List.getElem_mem hi)
  obtain⟨n1,n2⟩:=hn i hi
  unfold lj li
  simp only[eH,eB,eL,eU,eS,eT,eO,Nat.zero_add]
  have e1:Hj ((os.map (·.name)).take i) 6 (i:Int) os[i].name none=none:=RD n1 (by
   intro x d
   obtain⟨j,k,f,rfl⟩:=ql d
   exact n2 j k f)
  rw[e1,Tg (by have:=g.ll;simp;omega),Tg,Tg g.la,Tg g.mc,Tg (decide_eq_true (by have:=g.ml;omega)),Tg,Tg g.ma,Tg g.mi]
  ·rw[List.all_eq_true];intro m M;have:=g.mr m M;unfold Ask;rw[eU];simp;omega
  ·rw[List.all_eq_true];intro y O;have:=g.lr y O;simp;omega
 unfold HN
 simp only[eB,eL,eU,eS,eT,eO]
 rw[G,I,K,L,u,v,z]
theorem A7s {f:Bool} {H:Nat} {c:List Int} {bs:List BusD} {ls:List LineD} {us:List UnitD} {ss:List StoreD} {ts:List TieD} {os:List OutD} (b:BaseG H c bs ls us ss ts) (d:os.length≤4) (e:∀ x ∈ os,OutV ls.length us.length x)
  (hn:∀ i (h:i<os.length),G7 os[i].name=true∧∀ j (k:j<os.length),j<i→os[j].name≠os[i].name):HN (Ade f H c bs ls us ss ts os)=none :=
 A6l rfl rfl rfl rfl rfl rfl rfl rfl b d e hn
end
end Gx.Cf

namespace Gx.Cf
open Go Go.Proofs
section
variable {R:Type}
theorem sr {c:CaseD} (h:c.outs.l=[]):∀ m j,M5 c m j none=none
 | 0,_=>rfl
 | m+1,j=>by rw[M5,h];exact sr h m (j+1)
theorem Akr {c:CaseD} (g:XS c):Ca c=none:=by
 obtain⟨H,d,bs,ls,us,ss,ts,os,b,og,e,rfl⟩:=g
 rcases e with rfl | e
 ·unfold Ca
  rw[A7s b (by simp) (by simp) (by simp)]
  exact sr rfl _ _
 ·have e1:HN (Ade false H d bs ls us ss ts os)=HN (Ade true H d bs ls us ss ts os):=rfl
  have f:∀ m j p,M5 (Ade false H d bs ls us ss ts os) m j p=M5 (Ade true H d bs ls us ss ts os) m j p:=by
   intro m
   induction m with
   | zero=>intro j p;rfl
   | succ m i =>
    intro j p
    rw[M5,M5]
    refine(i _ _).trans ?_
    rfl
  unfold Ca at e ⊢
  rw[e1,f]
  exact e
theorem Ul {c:CaseD} (b:Ca c=none):1≤c.hours∧c.hours≤24:=by
 unfold Ca at b
 split at b
 ·cases b
 ·rename_i d;exact(gE d).hours
def A9n:BusD:=⟨[97],.of [15] false false,0⟩
def A9o:UnitD:=⟨[103],0,10,20,.of [⟨10,2⟩] false false,7,20,20,20,20,1,1,0,0,0,1,0,0,.nil,2,1,15⟩
def Ay5:CaseD:=⟨1,.of [0] false false,.of [A9n] false false,.nil,.of [A9o] false false,.nil,.nil,.nil⟩
theorem A7t:HN Ay5=none:=by kernel_rfl
theorem Ae7:Ca Ay5=none:=by
 unfold Ca
 rw[A7t]
 exact sr rfl _ _
theorem A5g {N:Nat} (hN:4096≤N):Small Ay5 N:=by
 have fit:∀ n:Nat,n≤100→Fq n N:=fun n hn=>⟨by omega,by omega⟩
 refine⟨by omega,fit _ (by simp[Ay5,Sl.l]),fit _ (by simp[Ay5,Sl.l]),fit _ (by simp[Ay5,Sl.l]),fit _ (by simp[Ay5,Sl.l]),fit _ (by simp[Ay5,Sl.l]),fit _ (by simp[Ay5,Sl.l]),fit _ (by simp[Ay5,Sl.l]),
  fun x b=>?_,fun x b=>?_,fun x b=>?_,fun x b=>?_,fun x b=>?_,fun x b=>?_,fun x b=>?_,fun x b=>?_,fun x b=>?_,fun x b=>?_,by simp[Ay5,Sl.l]⟩
 all_goals simp[Ay5,Sl.l] at b
 all_goals subst b
 all_goals exact fit _ (by simp[A9n,A9o,Sl.l])
def A64:LA:=[(.int .i64 1),(.imm [(.int .i64 0)] 1 1 false true),(.imm [(.str ([97]:List UInt8)),(.imm [(.int .i64 15)] 1 1 false false),(.int .i64 0)] 1 3 false true),.nsl,(.imm [(.str ([103]:List UInt8)),(.int .i64 0),(.int .i64 10),(.int .i64 20),(.imm [(.int .i64 10),(.int .i64 2)] 1 2 false false),(.int .i64 7),(.int .i64 20),(.int .i64 20),(.int .i64 20),(.int .i64 20),(.int .i64 1),(.int .i64 1),(.int .i64 0),(.int .i64 0),(.int .i64 0),(.int .i64 1),(.int .i64 0),(.int .i64 0),.nsl,(.int .i64 2),(.int .i64 1),(.int .i64 15)] 1 22 false true),.nsl,.nsl,.nsl]
theorem A7u {N:Nat} (hN:2≤N):∃ z:LA,z.length=3∧∀ K:Nat→LA→O R,Fo N 1 K=K 1 z:=by
 refine⟨setCells [(.bool false),.nsl,.nsl] 0 (cq 0),rfl,fun K=>?_⟩
 obtain⟨n,hn⟩:∃ n,N=n+2:=⟨N - 2,by omega⟩
 have k:Kf N K 1 (n+2) 1 0 [(.bool false),.nsl,.nsl]=K 1 (setCells [(.bool false),.nsl,.nsl] 0 (cq 0)):=by
  rw[Kf];unfold Y9
  rw[mA]
  show Kf N K 1 (n+1) 1 1 (setCells [(.bool false),.nsl,.nsl] 0 (cq 0))=_
  rw[Kf];unfold Y9
  rfl
 rw[←hn] at k
 rw[k8];unfold UO
 exact k
theorem A5h {N:Nat} (hN:4096≤N):∃ e s:LA,e.length=3∧∀ K:Nat→Nat→Nat→Nat→Nat→Nat→Nat→LA→LA→LA→LA→LA→LA→LA→LA→O R,FP N A64 true K=K 1 0 0 0 0 1 0 e [] [] [] [] s [] []:=by
 obtain⟨z,l,c⟩:=A7u (R:=R) (N:=N) (by omega)
 obtain⟨n,hn⟩:∃ n,N=n+2:=⟨N - 2,by omega⟩
 refine⟨[(.imm [.int .i64 0] 1 1 false false),(.imm (z.take 3) 1 3 false false),(.imm (z.take 3) 1 3 false false)],[(.imm (z.take 3) 1 3 false false)],rfl,fun K=>?_⟩
 have d:∀ s,V4 N K true A64 1 0 0 0 0 1 [(.imm [.int .i64 0] 1 1 false false),(.imm (z.take 3) 1 3 false false),(.imm (z.take 3) 1 3 false false)] [] [] [] [] s (n+2) 0 0 []=K 1 0 0 0 0 1 0 [(.imm [.int .i64 0] 1 1 false false),(.imm (z.take 3) 1 3 false false),(.imm (z.take 3) 1 3 false false)] [] [] [] [] s [] []:=fun s=>by
  rw[V4];unfold NC;rfl
 rw[←hn] at d
 have f:Ni N K true A64 1 0 0 0 0 [(.imm [.int .i64 0] 1 1 false false),(.imm (z.take 3) 1 3 false false),(.imm (z.take 3) 1 3 false false)] [] [] [] [] (n+2) 0 0 []=K 1 0 0 0 0 1 0 [(.imm [.int .i64 0] 1 1 false false),(.imm (z.take 3) 1 3 false false),(.imm (z.take 3) 1 3 false false)] [] [] [] [] [(.imm (z.take 3) 1 3 false false)] [] []:=by
  rw[Ni];unfold Za
  show Fo N 1 _=_
  rw[c]
  refine Eq.trans (b:=Ni N K true A64 1 0 0 0 0 [(.imm [.int .i64 0] 1 1 false false),(.imm (z.take 3) 1 3 false false),(.imm (z.take 3) 1 3 false false)] [] [] [] [] (n+1) 1 1 [(.imm (z.take 3) 1 3 false false)]) rfl ?_
  rw[Ni];unfold Za
  exact d _
 rw[←hn] at f
 have i:V5 N K true A64 1 0 0 0 [(.imm [.int .i64 0] 1 1 false false),(.imm (z.take 3) 1 3 false false),(.imm (z.take 3) 1 3 false false)] [] [] [] (n+2) 0 0 []=K 1 0 0 0 0 1 0 [(.imm [.int .i64 0] 1 1 false false),(.imm (z.take 3) 1 3 false false),(.imm (z.take 3) 1 3 false false)] [] [] [] [] [(.imm (z.take 3) 1 3 false false)] [] []:=by
  rw[V5];unfold ND
  exact f
 rw[←hn] at i
 have j:V6 N K true A64 1 [(.imm [.int .i64 0] 1 1 false false),(.imm (z.take 3) 1 3 false false),(.imm (z.take 3) 1 3 false false)] (n+2) 0 0 0 0 [] [] []=K 1 0 0 0 0 1 0 [(.imm [.int .i64 0] 1 1 false false),(.imm (z.take 3) 1 3 false false),(.imm (z.take 3) 1 3 false false)] [] [] [] [] [(.imm (z.take 3) 1 3 false false)] [] []:=by
  rw[V6];unfold NE
  exact i
 rw[←hn] at j
 have k:Kg N K true A64 (n+2) 0 0 []=K 1 0 0 0 0 1 0 [(.imm [.int .i64 0] 1 1 false false),(.imm (z.take 3) 1 3 false false),(.imm (z.take 3) 1 3 false false)] [] [] [] [] [(.imm (z.take 3) 1 3 false false)] [] []:=by
  rw[Kg];unfold Zb
  show Fo N 1 _=_
  rw[c]
  show Fo N 1 _=_
  rw[c]
  refine Eq.trans (b:=Kg N K true A64 (n+1) 1 1 [(.imm [.int .i64 0] 1 1 false false),(.imm (z.take 3) 1 3 false false),(.imm (z.take 3) 1 3 false false)]) rfl ?_
  rw[Kg];unfold Zb
  exact j
 rw[←hn] at k
 rw[kc];unfold UP
 exact k
theorem Apc {N:Nat} (hN:4096≤N):∃ P:LA,P.length=8∧∀ K:LA→LA→O R,IE N K=K Ay5.av P:=by
 obtain⟨e,s,c,d⟩:=A5h (R:=R) hN
 refine⟨[(.imm ((Cx e 0 [(.imm [(.int .i64 2)] 1 1 false false),(.imm ((setCells [(.bool false),.nsl,.nsl] 0 (cq ((15:Int):Rat))).take 3) 1 3 false false),(.imm ((setCells [(.bool false),.nsl,.nsl] 0 (cq 0)).take 3) 1 3 false false)]).take (1*3)) 1 3 false false),(.imm [] 0 1 false false),(.imm [] 0 1 false false),(.imm [] 0 1 false false),(.imm [] 0 1 false false),(.imm (s.take (1*1)) 1 1 false false),(.imm [] 0 1 false false),(.imm [] 0 4 false false)],rfl,fun K=>?_⟩
 rw[fB];unfold fA
 refine(d _).trans ?_
 rw[Aet (by omega) (by omega)]
 refine Eq.trans (b:=Zh N _) rfl ?_
 rw[mA,c]
 exact rfl
end
end Gx.Cf

namespace Gx.Cf
open Go Go.Proofs
section
variable {R:Type}
theorem qn:∀ (l:List EvD) (j:Nat) (h:j<l.length),((l.flatMap EvD.av).drop (j*4)).take 4=l[j].av∧Nat.ble 4 ((l.flatMap EvD.av).drop (j*4)).length=true
 | e::l,0,_=>⟨rfl,rfl⟩
 | e::l,j+1,h=>by
  have b:((e::l).flatMap EvD.av).drop ((j+1)*4)=(l.flatMap EvD.av).drop (j*4):=by
   rw[show(j+1)*4=4+j*4 by omega,←List.drop_drop];rfl
  rw[b]
  exact qn l j (by simpa using h)
theorem su {N:Nat} {l:List EvD} {a b c d:Bool} {K:Bool→O R} (e:l.length<N) (C:l.length≤1000000):Su N (l.flatMap EvD.av) l.length a b (l.flatMap EvD.av) l.length c d K=K true:=by
 have go:∀ (m j fuel:Nat),j+m=l.length→m<fuel→Ql N K (l.flatMap EvD.av) l.length a b (l.flatMap EvD.av) l.length c d fuel (j:Int)=K true:=by
  intro m
  induction m with
  | zero =>
   intro j fuel i n
   obtain⟨f,rfl⟩:∃ f,fuel=f+1:=⟨fuel - 1,by omega⟩
   rw[Ql];unfold EY
   rw[Iz (by omega),cf]
  | succ m q =>
   intro j fuel i n
   obtain⟨f,rfl⟩:∃ f,fuel=f+1:=⟨fuel - 1,by omega⟩
   have h:j<l.length:=by omega
   obtain⟨s,t⟩:=qn l j h
   have u:∀ g:Bool,((!g)||A0 l[j].av)=true:=fun g=>by cases g<;>rfl
   have x:∀ F:Int→O R,As .i64 l[j].av F=F l[j].k:=fun F=>rfl
   have y:∀ F:Int→O R,As .i64 (l[j].av.drop 1) F=F l[j].a:=fun F=>rfl
   have z:∀ F:Int→O R,As .i64 (l[j].av.drop 2) F=F l[j].b:=fun F=>rfl
   have A:∀ F:Int→O R,As .i64 (l[j].av.drop 3) F=F l[j].v:=fun F=>rfl
   rw[Ql];unfold EY
   rw[Hh h,ct,Ab h,ct]
   simp only[Int.toNat_natCast,s,t,u,ct,x,y,z,A]
   rw[show((Nat.ble 1 4)&&((Nat.beq (l[j].av.length) 4)&&((Nat.beq (l[j].av.length) 4)&&(true&&(!false)))))=true from rfl,ct]
   simp only[beq_self_eq_true,Bool.and_self,Bool.not_true]
   rw[cf,wS (by omega)]
   exact q (j+1) f (by omega) (by omega)
 rw[qe];unfold gX
 rw[show(((l.length:Nat):Int) != ((l.length:Nat):Int))=false by simp,cf]
 exact go l.length 0 N (by omega) e
theorem A6m:C8 Ay5 (LW 10 ([116,114,105,112,32,103,32,49,32,35,32,98,111,105,108,101,114,10,10,115,116,101,112]:List UInt8)) 1 []=([⟨2,0,1,0⟩,⟨5,0,0,0⟩],0,0):=by kernel_rfl
theorem A6n:C8 Ay5 (LW 10 ([115,116,101,112,32,110,111,119]:List UInt8)) 1 []=([],1,2):=by kernel_rfl
theorem A6o:C8 Ay5 (LW 10 ([100,101,109,97,110,100,32,97,32,57,57,32,53]:List UInt8)) 1 []=([],1,3):=by kernel_rfl
theorem Apd {N:Nat} (c:fit 1200000 N) {K:Bool→O R}:Qm N K=K true:=by
 have hN:=c.1
 obtain⟨P,hP,d⟩:=Apc (R:=R) (N:=N) (by omega)
 have hs:=A5g (N:=N) (by omega)
 rw[ZD];unfold UQ
 refine(d _).trans ?_
 rw[hP]
 simp only[Ce,Fb]
 refine Eq.trans (b:=Ho N Ay5.av false _ _) rfl ?_
 rw[N9 hs Ae7 (by decide) c,A6m]
 refine Eq.trans (b:=Ho N Ay5.av false _ _) rfl ?_
 rw[N9 hs Ae7 (by decide) c,A6n]
 refine Eq.trans (b:=Ho N Ay5.av false _ _) rfl ?_
 rw[N9 hs Ae7 (by decide) c,A6o]
 refine Eq.trans (b:=Su N (([⟨2,0,1,0⟩,⟨5,0,0,0⟩]:List EvD).flatMap EvD.av) ([⟨2,0,1,0⟩,⟨5,0,0,0⟩]:List EvD).length false true (([⟨2,0,1,0⟩,⟨5,0,0,0⟩]:List EvD).flatMap EvD.av) ([⟨2,0,1,0⟩,⟨5,0,0,0⟩]:List EvD).length false true _) rfl ?_
 rw[su (by simp;omega) (by simp)]
 rfl
end
end Gx.Cf

namespace Gx.Cf
open Go Go.Proofs
section
variable {R:Type}
def DA:Nat→List UInt8
 | 0=>[]
 | n+1=>[115,116,101,112,10]++DA n
def A5i:EvD:=⟨5,0,0,0⟩
theorem Ae8:∀ n,DA n++[115,116,101,112,10]=DA (n+1)
 | 0=>rfl
 | n+1=>by rw[DA,List.append_assoc,Ae8 n,DA];rfl
theorem sv:∀ n,(DA n).length=n*5
 | 0=>rfl
 | n+1=>by rw[DA,List.length_append,sv n,List.length_cons];simp;omega
theorem Ay6:Oi [115,116,101,112]=[[115,116,101,112]]:=by kernel_rfl
theorem Ay7 {c:CaseD}:Hw c [[115,116,101,112]]=(A5i,0):=by kernel_rfl
theorem Ay8 {c:CaseD} {ls:List (List UInt8)} {at_:Nat} {acc:List EvD}:C8 c ([115,116,101,112]::ls) at_ acc=if acc.length=256 then ([],(at_:Int),8) else C8 c ls (at_+1) (acc++[A5i]):=by
 rw[C8,Ay6]
 dsimp only
 rw[Ay7,if_pos rfl]
theorem Aks {c:CaseD} {ls:List (List UInt8)} {at_:Nat} {acc:List EvD}:C8 c ([]::ls) at_ acc=C8 c ls (at_+1) acc:=by
 rw[C8,show Oi []=[] from rfl]
theorem xR {c:CaseD}:∀ (n at_:Nat) (acc:List EvD),acc.length≤256→C8 c (LW 10 (DA n)) at_ acc=if acc.length+n≤256 then (acc++List.replicate n A5i,0,0) else ([],((at_+(256 - acc.length):Nat):Int),8)
 | 0,at_,acc,h=>by
  rw[DA,show LW 10 []=[[]] from rfl,Aks,C8,if_pos (by omega)]
  simp
 | n+1,at_,acc,h=>by
  rw[DA,show([115,116,101,112,10]:List UInt8)++DA n=[115,116,101,112]++10::DA n from rfl,sn (by decide),Ay8]
  by_cases b:acc.length=256
  ·rw[if_pos b,if_neg (by omega),b];simp
  ·rw[if_neg b,xR n (at_+1) _ (by rw[List.length_append,List.length_singleton];omega),List.length_append,List.length_singleton]
   by_cases d:acc.length+1+n≤256
   ·rw[if_pos d,if_pos (by omega),List.append_assoc,List.replicate_succ];rfl
   ·rw[if_neg d,if_neg (by omega),show at_+1+(256 - (acc.length+1))=at_+(256 - acc.length) by omega]
theorem qo {c:CaseD} {s:List UInt8} {acc:List EvD}:∀ (f at_:Nat),C8 c (LW 10 (List.replicate f 10++s)) at_ acc=C8 c (LW 10 s) (at_+f) acc
 | 0,_=>rfl
 | f+1,at_=>by
  rw[List.replicate_succ,List.cons_append,LW,if_pos rfl,Aks,qo f (at_+1),show at_+1+f=at_+(f+1) by omega]
theorem A23 {N:Nat} {l:List Int} {n:Nat} {t o:Bool} {p b:Int} (hn:n=l.length) (j:fit 1200000 N) (z:l.length≤9223372036854775807) {K:Bool→O R}:L3 N (Ao l) n t o p b K=K true:=by
 have hN:=j.1
 rw[A_];unfold O7
 by_cases d:((n:Nat):Int)>200
 ·rw[decide_eq_true d,ct]
 rw[decide_eq_false d,cf]
 obtain⟨c,g,A⟩:=pB (R:=R) (N:=N) (l:=l) (n:=n) (t:=false) (o:=o) hn (by omega) z
 have hs:=Akq (N:=N) (by omega) g
 have D:=Akr g
 obtain⟨y,y0,y1,F⟩:=fM (R:=R) (N:=N) (v:=p) (n:=5) (by omega) (by omega)
 obtain⟨x',x0,x1,k⟩:=fM (R:=R) (N:=N) (v:=b) (n:=4) (by omega) (by omega)
 obtain⟨x,rfl⟩:∃ x:Nat,x'=x:=⟨x'.toNat,by omega⟩
 rw[A,show((Nat.beq 0 0)&&((Nat.beq (List.length c.av) 8)&&(Nat.beq 8 8)))=true from rfl,ct,F]
 obtain⟨C,hC⟩:∃ C:Nat,254+y=C:=⟨(254+y).toNat,by omega⟩
 rw[i64 (by omega),hC]
 have two:∀ (m i fuel:Nat),i+m=C→m<fuel→Fp N K b (C:Int) c.av fuel (List.replicate x 10++DA i) (i:Int)=K true:=by
  intro m
  induction m with
  | zero =>
   intro i fuel hi e
   obtain⟨f,rfl⟩:∃ f,fuel=f+1:=⟨fuel - 1,by omega⟩
   obtain rfl:i=C:=by omega
   rw[Fp];unfold Kh
   rw[Iz (by omega),cf,Fb,ct,Ce,N9 hs D (by rw[List.length_append,sv,List.length_replicate];omega) j,qo,xR _ _ _ (by simp)]
   by_cases h:i≤256
   ·rw[if_pos (by simp;omega),decide_eq_false (by omega),cf,Apd j]
    simp
   ·rw[if_neg (by simp;omega),decide_eq_true (by omega),ct,Apd j,k,i64 (a:=(x:Int)+256) (by omega),i64 (a:=(x:Int)+256+1) (by omega)]
    simp
    congr 1
    simp
    omega
  | succ m q =>
   intro i fuel hi e
   obtain⟨f,rfl⟩:∃ f,fuel=f+1:=⟨fuel - 1,by omega⟩
   have s:(List.replicate x (10:UInt8)++DA i).length≤5000:=by rw[List.length_append,sv,List.length_replicate];omega
   rw[Fp];unfold Kh
   rw[Hh (by omega),ct,show Nat.ble ((List.replicate x (10:UInt8)++DA i).length+5) 140737488355328=true by rw[Bq];exact decide_eq_true (by omega),ct,wS (by omega),List.append_assoc,Ae8]
   exact q (i+1) f (by omega) (by omega)
 have one:∀ (m f fuel:Nat),f+m=x→m<fuel→D7 N K b c.av fuel (C:Int) (List.replicate f 10) (f:Int)=K true:=by
  intro m
  induction m with
  | zero =>
   intro f fuel hi e
   obtain⟨u,rfl⟩:∃ u,fuel=u+1:=⟨fuel - 1,by omega⟩
   obtain rfl:f=x:=by omega
   rw[D7];unfold Ki
   rw[k,Iz (by omega),cf]
   have:=two C 0 N (by omega) (by omega)
   rw[DA,List.append_nil] at this
   exact this
  | succ m q =>
   intro f fuel hi e
   obtain⟨u,rfl⟩:∃ u,fuel=u+1:=⟨fuel - 1,by omega⟩
   rw[D7];unfold Ki
   rw[k,Hh (by omega),ct,show Nat.ble ((List.replicate f (10:UInt8)).length+1) 140737488355328=true by rw[Bq,List.length_replicate];simp;omega,ct,wS (by omega),←List.replicate_succ']
   exact q (f+1) u (by omega) (by omega)
 exact one x 0 N (by omega) (by omega)
end
end Gx.Cf

namespace Gx
open Go Go.Proofs
section
variable {R:Type}
def A5j (c:UInt8):Bool:=decide (c.toNat≠42)&&(decide (c.toNat≠47)&&(decide (c.toNat=37)||((decide (97≤c.toNat)&&decide (c.toNat≤122))||(decide (65≤c.toNat)&&decide (c.toNat≤90)))))
end
end Gx

namespace Gx.Cf
open Go Go.Proofs
section
variable {R:Type}
structure NamesOk (l:List (List UInt8)):Prop where
 ok:∀ w ∈ l,G7 w=true
 nd:l.Nodup
theorem Ae9 {l:List (List UInt8)} (h:∀ i (hi:i<l.length),∃ k:Int,Hj (l.take i) k i l[i] none=none):NamesOk l:=by
 have e:∀ i (hi:i<l.length),G7 l[i]=true∧∀ x ∈ l.take i,x≠l[i]:=fun i hi=>by
  obtain⟨k,b⟩:=h i hi
  unfold Hj at b
  obtain⟨d,c⟩:=Dh b
  obtain⟨_,f⟩:=Dh d
  refine⟨f,fun x m=>?_⟩
  rw[List.all_eq_true] at c
  simpa using c x m
 refine⟨fun w n=>?_,?_⟩
 ·obtain⟨i,hi,rfl⟩:=List.getElem_of_mem n
  exact(e i hi).1
 ·rw[List.nodup_iff_pairwise_ne,List.pairwise_iff_getElem]
  intro i j hi q s
  exact(e j q).2 _ (by rw[List.mem_take_iff_getElem];exact⟨i,by omega,rfl⟩)
theorem qp {c:CaseD} (d:Ca c=none) {f:Int} {l:List (List UInt8)} (b:Oj c f=some l):NamesOk l:=by
 have h:HN c=none:=by
  unfold Ca at d
  split at d
  ·cases d
  ·rename_i k;exact k
 unfold HN at h
 obtain⟨m,_⟩:=Gb (fun _ _ _=>Lr) _ _ _ h
 obtain⟨n,_⟩:=Gb (fun j a x=>Ra j a x) _ _ _ m
 obtain⟨q,_⟩:=Gb (fun j a x=>Ma j a x) _ _ _ n
 obtain⟨s,o3⟩:=Gb (fun j a x=>Pw j a x) _ _ _ q
 obtain⟨t,o2⟩:=Gb (fun j a x=>Tp j a x) _ _ _ s
 obtain⟨_,o1⟩:=Gb (fun j a x=>FK j a x) _ _ _ t
 unfold Oj at b
 split at b
 ·cases b
  refine Ae9 fun i hi=>⟨1,?_⟩
  rw[List.length_map] at hi
  have:=o1 i hi
  rw[Nat.zero_add] at this
  cases hn:Hj ((c.buses.l.map (·.name)).take i) 1 (i:Int) c.buses.l[i].name none with
  | none=>rw[List.getElem_map];exact hn
  | some x =>
   have e:sU c i c.buses.l[i] none=sU c i c.buses.l[i] (some x):=by unfold sU;rw[hn];rfl
   rw[this,FK] at e
   cases e
 ·split at b
  ·cases b
   refine Ae9 fun i hi=>⟨3,?_⟩
   rw[List.length_map] at hi
   have:=o3 i hi
   rw[Nat.zero_add] at this
   cases hn:Hj ((c.units.l.map (·.name)).take i) 3 (i:Int) c.units.l[i].name none with
   | none=>rw[List.getElem_map];exact hn
   | some x =>
    have e:HG c i c.units.l[i] none=HG c i c.units.l[i] (some x):=by unfold HG;rw[hn];rfl
    rw[this,Pw] at e
    cases e
  ·split at b
   ·cases b
    refine Ae9 fun i hi=>⟨2,?_⟩
    rw[List.length_map] at hi
    have:=o2 i hi
    rw[Nat.zero_add] at this
    cases hn:Hj ((c.lines.l.map (·.name)).take i) 2 (i:Int) c.lines.l[i].name none with
    | none=>rw[List.getElem_map];exact hn
    | some x =>
     have e:CN c i c.lines.l[i] none=CN c i c.lines.l[i] (some x):=by unfold CN;rw[hn];rfl
     rw[this,Tp] at e
     cases e
   ·cases b
def A5j (b:UInt8):Bool:=!(b==32)&&(!(b==35)&&!(b==10))
def Ru (w:List UInt8):Prop:=w≠[]∧w.all A5j=true
theorem qq {w:List UInt8} (h:w.all A5j=true):(32:UInt8) ∉ w∧(35:UInt8) ∉ w∧(10:UInt8) ∉ w:=by
 rw[List.all_eq_true] at h
 refine⟨fun b=>?_,fun b=>?_,fun b=>?_⟩
 ·have:=h _ b;simp[A5j] at this
 ·have:=h _ b;simp[A5j] at this
 ·have:=h _ b;simp[A5j] at this
def RE:List (List UInt8)→List UInt8
 | []=>[]
 | [w]=>w
 | w::r=>w++32::RE r
theorem Afa {b:UInt8}:∀ {l:List (List UInt8)},b ∈ RE l→b=32∨∃ w ∈ l,b ∈ w
 | [w],h=>.inr ⟨w,by simp,h⟩
 | w::v::r,h=>by
  rw[RE,List.mem_append,List.mem_cons] at h
  ·rcases h with h | rfl | h
   ·exact .inr ⟨w,by simp,h⟩
   ·exact .inl rfl
   ·rcases Afa h with h | ⟨x,c,d⟩
    ·exact .inl h
    ·exact .inr ⟨x,List.mem_cons_of_mem _ c,d⟩
  ·simp
theorem Ave:∀ {l:List (List UInt8)},l≠[]→(∀ w ∈ l,Ru w)→LW 32 (RE l)=l
 | [w],_,h=>Ao7 (qq (h w (by simp)).2).1
 | w::v::r,_,h=>by
  rw[RE,sn (qq (h w (by simp)).2).1,Ave (by simp) (fun x b=>h x (List.mem_cons_of_mem _ b))]
  simp
theorem A0p {l:List (List UInt8)} (h:∀ w ∈ l,Ru w):(35:UInt8) ∉ RE l∧(10:UInt8) ∉ RE l:=by
 refine⟨fun b=>?_,fun b=>?_⟩
 ·rcases Afa b with h0 | ⟨w,c,d⟩
  ·cases h0
  ·exact(qq (h w c).2).2.1 d
 ·rcases Afa b with h0 | ⟨w,c,d⟩
  ·cases h0
  ·exact(qq (h w c).2).2.2 d
theorem Azc {l:List (List UInt8)} (h0:l≠[]) (h:∀ w ∈ l,Ru w):Oi (RE l)=l:=by
 unfold Oi
 rw[A5b (A0p h).1]
 show(LW 32 (RE l)).filter Kx=l
 rw[Ave h0 h,List.filter_eq_self]
 intro w b
 have:=(h w b).1
 unfold Kx;simpa using this
theorem A5k {p:UInt8→Bool} (h:(List.range 256).all (fun n=>p (UInt8.ofNat n))=true) (b:UInt8):p b=true:=by
 rw[List.all_eq_true] at h
 have:=h b.toNat (List.mem_range.2 b.toNat_lt)
 rwa [UInt8.ofNat_toNat] at this
theorem A5l {x y:Bool} (h:(!x||y)=true) (b:x=true):y=true:=by rw[b] at h;exact h
theorem A5m (b:UInt8) (h:Axh b=true):A5j b=true:=A5l (A5k (p:=fun b=>!Axh b||A5j b) (by kernel_rfl) b) h
theorem Azd {w:List UInt8} (h:G7 w=true):Ru w:=by
 unfold G7 at h
 simp only[Bool.and_eq_true] at h
 obtain⟨d,_,_,_,c⟩:=h
 refine⟨fun e=>by subst e;simp at d,?_⟩
 rw[List.all_eq_true] at c ⊢
 exact fun b f=>A5m b (c b f)
theorem A24 (b:UInt8) (h:Eh b=true):A5j b=true:=A5l (A5k (p:=fun b=>!Eh b||A5j b) (by kernel_rfl) b) h
theorem Akt (u:Nat):(sa u).all A5j=true:=by
 have:=eZ u
 rw[List.all_eq_true] at this ⊢
 exact fun b c=>A24 b (this b c)
theorem Aze (z:Int):Ru (hZ z):=by
 have h0:hY (hZ z)=true:=Akm z
 refine⟨fun e=>by rw[e] at h0;exact absurd h0 (by decide),?_⟩
 unfold hZ Ays
 split
 ·rw[List.all_cons,Akt];rfl
 ·exact Akt _
def X8 (c:CaseD) (f v:Int):List (List UInt8):=if f=0 then [] else match Oj c f with | some l=>[l.getD v.toNat []] | none=>[hZ v]
def ku (c:CaseD) (i:Nat) (a b v:Int):List (List UInt8):=Ld.getD i []::(X8 c (Wc i 0) a++(X8 c (Wc i 1) b++X8 c (Wc i 2) v))
def D3 (c:CaseD) (f v:Int):Prop:=if f=0 then v=0 else match Oj c f with | some l=>0≤v∧v<(l.length:Int) | none=>-9223372036854775808≤v∧v≤9223372036854775807
theorem fN {c:CaseD} (d:Ca c=none) {f v:Int} (h:D3 c f v):∀ w ∈ X8 c f v,Ru w:=by
 unfold D3 at h
 unfold X8
 by_cases h0:f=0
 ·rw[if_pos h0];simp
 rw[if_neg h0] at h ⊢
 cases hn:Oj c f with
 | some l =>
  rw[hn] at h
  dsimp only at h ⊢
  intro w b
  rw[List.mem_singleton] at b
  subst b
  have hi:v.toNat<l.length:=by omega
  rw[List.getD_eq_getElem?_getD,List.getElem?_eq_getElem hi]
  exact Azd ((qp d hn).ok _ (List.getElem_mem hi))
 | none =>
  dsimp only
  intro w b
  rw[List.mem_singleton] at b
  subst b
  exact Aze v
theorem Aku {z:Int} (h:-9223372036854775808≤z∧z≤9223372036854775807):(sa z.natAbs).length≤20:=by
 rw[A59 (by omega)]
 have:z.natAbs≤9223372036854775808:=by omega
 exact Nat.lt_of_le_of_lt this (by decide)
theorem fO {c:CaseD} (b:Ca c=none) {f v:Int} (h:D3 c f v) (G4:List (List UInt8)):ZI c f (X8 c f v++G4) true true=some (G4,true,true,v):=by
 unfold D3 at h
 unfold X8 ZI
 by_cases h0:f=0
 ·rw[if_pos h0] at h;rw[if_pos h0,if_pos h0,h];rfl
 rw[if_neg h0] at h;rw[if_neg h0,if_neg h0]
 cases hn:Oj c f with
 | some l =>
  rw[hn] at h
  dsimp only at h ⊢
  have hi:v.toNat<l.length:=by omega
  have e:Rt l (l.getD v.toNat [])=v:=by
   rw[List.getD_eq_getElem?_getD,List.getElem?_eq_getElem hi,Option.getD_some,A6k (qp b hn).nd hi];omega
  rw[List.cons_append,List.nil_append]
  dsimp only
  rw[e,decide_eq_true (show v≥0 by omega)];rfl
 | none =>
  rw[hn] at h
  dsimp only at h ⊢
  rw[List.cons_append,List.nil_append]
  dsimp only
  have e:Ay0 (hZ v)=(v,true):=by
   unfold Ay0
   rw[A2v,if_neg (by have:=Aku h;omega),Avc,if_pos]
   unfold A7r;simp;omega
  rw[if_pos (Akm v),e];rfl
theorem gZ {N:Nat} {c:CaseD} (hs:Small c N) (hH:1≤c.hours∧c.hours≤24) {k a b v:Int} (h:BQ c k a b v=true):∃ i:Nat,i<8∧k=(i:Int)+1∧D3 c (Wc i 0) a∧D3 c (Wc i 1) b∧D3 c (Wc i 2) v:=by
 have D:=hs.bus.2;have F:=hs.uni.2;have G:=hs.lin.2
 have d:∀ {lo hi x:Int},IL lo hi x=true→lo≤x∧x≤hi:=fun {lo hi x} h=>by unfold IL at h;simpa using h
 have z:∀ x:Int,IL 0 0 x=true→D3 c 0 x:=fun x j=>by have:=d j;unfold D3;rw[if_pos rfl];omega
 have n1:∀ x:Int,IL 0 ((c.buses.l.length:Int) - 1) x=true→D3 c 1 x:=fun x j=>by have:=d j;unfold D3 Oj;rw[if_neg (by decide),if_pos rfl];show 0≤x∧x<((c.buses.l.map (·.name)).length:Int);rw[List.length_map];omega
 have n2:∀ x:Int,IL 0 ((c.units.l.length:Int) - 1) x=true→D3 c 2 x:=fun x j=>by have:=d j;unfold D3 Oj;rw[if_neg (by decide),if_neg (by decide),if_pos rfl];show 0≤x∧x<((c.units.l.map (·.name)).length:Int);rw[List.length_map];omega
 have n3:∀ x:Int,IL 0 ((c.lines.l.length:Int) - 1) x=true→D3 c 3 x:=fun x j=>by have:=d j;unfold D3 Oj;rw[if_neg (by decide),if_neg (by decide),if_neg (by decide),if_pos rfl];show 0≤x∧x<((c.lines.l.map (·.name)).length:Int);rw[List.length_map];omega
 have nn:∀ f x:Int,3<f→-9223372036854775808≤x∧x≤9223372036854775807→D3 c f x:=fun f x I j=>by unfold D3 Oj;rw[if_neg (by omega),if_neg (by omega),if_neg (by omega),if_neg (by omega)];exact j
 have sg:∀ a:Int,(Ayu c a:Int)≤4611686018427387904:=fun a=>by
  unfold Ayu
  cases hq:c.units.l[a.toNat]? with
  | none=>simp
  | some u=>have:=(hs.seg u (List.mem_of_getElem? hq)).2;simp;omega
 unfold BQ at h
 by_cases m:k=1
 ·rw[if_pos m] at h;simp only[Bool.and_eq_true] at h;obtain⟨e1,e,e3⟩:=h
  exact⟨0,by omega,by omega,n1 _ e1,nn 4 _ (by decide) (by have:=d e;omega),nn 7 _ (by decide) (by have:=d e3;omega)⟩
 rw[if_neg m] at h
 by_cases n:k=2
 ·rw[if_pos n] at h;simp only[Bool.and_eq_true] at h;obtain⟨e1,e,e3⟩:=h
  exact⟨1,by omega,by omega,n2 _ e1,nn 5 _ (by decide) (by have:=d e;omega),z _ e3⟩
 rw[if_neg n] at h
 by_cases q:k=3
 ·rw[if_pos q] at h;simp only[Bool.and_eq_true] at h;obtain⟨e1,e,e3⟩:=h
  exact⟨2,by omega,by omega,n3 _ e1,nn 5 _ (by decide) (by have:=d e;omega),z _ e3⟩
 rw[if_neg q] at h
 by_cases s:k=4
 ·rw[if_pos s] at h;simp only[Bool.and_eq_true] at h;obtain⟨e1,e,e3⟩:=h
  exact⟨3,by omega,by omega,n2 _ e1,nn 6 _ (by decide) (by have:=d e;have:=sg a;omega),nn 8 _ (by decide) (by have:=d e3;omega)⟩
 rw[if_neg s] at h
 by_cases t:k=5
 ·rw[if_pos t] at h;simp only[Bool.and_eq_true] at h;obtain⟨e1,e,e3⟩:=h
  exact⟨4,by omega,by omega,z _ e1,z _ e,z _ e3⟩
 rw[if_neg t] at h
 by_cases y:k=6
 ·rw[if_pos y] at h;simp only[Bool.and_eq_true] at h;obtain⟨e1,e,e3⟩:=h
  exact⟨5,by omega,by omega,z _ e1,z _ e,nn 9 _ (by decide) (by have:=d e3;omega)⟩
 rw[if_neg y] at h
 by_cases A:k=7
 ·rw[if_pos A] at h;simp only[Bool.and_eq_true] at h;obtain⟨e1,e,e3⟩:=h
  exact⟨6,by omega,by omega,z _ e1,z _ e,z _ e3⟩
 rw[if_neg A] at h
 by_cases C:k=8
 ·rw[if_pos C] at h;simp only[Bool.and_eq_true] at h;obtain⟨e1,e,e3⟩:=h
  exact⟨7,by omega,by omega,z _ e1,nn 4 _ (by decide) (by have:=d e;omega),z _ e3⟩
 rw[if_neg C] at h
 cases h
theorem A5n:∀ i,i<8→Rt Ld (Ld.getD i [])=(i:Int)∧Ru (Ld.getD i []):=by
 intro i hi
 rcases i with _ | _ | _ | _ | _ | _ | _ | _ | i
 ·exact⟨rfl,by unfold Ru;decide⟩
 ·exact⟨rfl,by unfold Ru;decide⟩
 ·exact⟨rfl,by unfold Ru;decide⟩
 ·exact⟨rfl,by unfold Ru;decide⟩
 ·exact⟨rfl,by unfold Ru;decide⟩
 ·exact⟨rfl,by unfold Ru;decide⟩
 ·exact⟨rfl,by unfold Ru;decide⟩
 ·exact⟨rfl,by unfold Ru;decide⟩
 ·omega
theorem Azf {c:CaseD} (d:Ca c=none) {i:Nat} (hi:i<8) {a b v:Int} (h0:D3 c (Wc i 0) a) (e:D3 c (Wc i 1) b) (f:D3 c (Wc i 2) v) (j:BQ c ((i:Int)+1) a b v=true):Hw c (ku c i a b v)=(⟨(i:Int)+1,a,b,v⟩,0):=by
 unfold ku
 rw[fL,(A5n i hi).1,if_neg (by omega),Int.toNat_natCast]
 unfold Ae5
 rw[fO d h0]
 dsimp only
 rw[fO d e]
 dsimp only
 have:=fO d f []
 rw[List.append_nil] at this
 rw[this]
 dsimp only
 unfold fK
 rw[if_neg (by simp),if_neg (by decide),if_neg (by decide),if_pos j]
def LY (c:CaseD) (e:EvD):List UInt8:=RE (ku c (e.k - 1).toNat e.a e.b e.v)
def X9 (c:CaseD) (l:List EvD):List UInt8:=l.flatMap fun e=>LY c e++[10]
def mI (c:CaseD) (e:EvD):Bool:=BQ c e.k e.a e.b e.v
theorem Azg {N:Nat} {c:CaseD} (hs:Small c N) (f:Ca c=none) {e:EvD} (h:mI c e=true):(∀ w ∈ ku c (e.k - 1).toNat e.a e.b e.v,Ru w)∧Hw c (ku c (e.k - 1).toNat e.a e.b e.v)=(e,0):=by
 obtain⟨i,hi,j,m,n,q⟩:=gZ hs (Ul f) h
 have l:(e.k - 1).toNat=i:=by omega
 rw[l]
 unfold mI at h
 rw[j] at h
 refine⟨fun w d=>?_,?_⟩
 ·unfold ku at d
  rw[List.mem_cons,List.mem_append,List.mem_append] at d
  rcases d with rfl | d | d | d
  ·exact(A5n i hi).2
  ·exact fN f m _ d
  ·exact fN f n _ d
  ·exact fN f q _ d
 ·rw[Azf f hi m n q h]
  obtain⟨k,a,b,v⟩:=e
  simp only at j
  rw[j]
theorem Akv {N:Nat} {c:CaseD} (hs:Small c N) (d:Ca c=none):∀ (l:List EvD) (at_:Nat) (acc:List EvD),(∀ e ∈ l,mI c e=true)→acc.length+l.length≤256→C8 c (LW 10 (X9 c l)) at_ acc=(acc++l,0,0)
 | [],at_,acc,_,_=>by
  show C8 c [[]] at_ acc=_
  rw[C8,show Oi []=[] from rfl]
  dsimp only
  rw[C8,List.append_nil]
 | e::r,at_,acc,h,j=>by
  obtain⟨f,m⟩:=Azg hs d (h e (by simp))
  rw[List.length_cons] at j
  have e1:X9 c (e::r)=LY c e++10::X9 c r:=by unfold X9;rw[List.flatMap_cons,List.append_assoc];rfl
  have n:Oi (LY c e)=ku c (e.k - 1).toNat e.a e.b e.v:=Azc (by unfold ku;simp) f
  have i:ku c (e.k - 1).toNat e.a e.b e.v=Ld.getD (e.k - 1).toNat []::(X8 c (Wc (e.k - 1).toNat 0) e.a++(X8 c (Wc (e.k - 1).toNat 1) e.b++X8 c (Wc (e.k - 1).toNat 2) e.v)):=rfl
  rw[e1,sn (show(10:UInt8) ∉ LY c e from(A0p f).2),C8,n,i]
  dsimp only
  rw[←i,m,if_pos rfl,if_neg (by omega)]
  dsimp only
  rw[Akv hs d r (at_+1) (acc++[e]) (fun x q=>h x (List.mem_cons_of_mem _ q)) (by rw[List.length_append,List.length_singleton];omega),List.append_assoc]
  rfl
theorem A25 {c:CaseD} {W:List (List UInt8)} (h:(Hw c W).2=0):mI c (Hw c W).1=true:=by
 have key:∀ i G4 q r a b v,(fK c i G4 q r a b v).2=0→mI c (fK c i G4 q r a b v).1=true:=by
  intro i G4 q r a b v h
  unfold fK at h ⊢
  split at h
  ·cases h
  ·split at h
   ·cases h
   ·split at h
    ·cases h
    ·split at h
     ·rename_i e f j d
      rw[if_neg e,if_neg f,if_neg j,if_pos d];exact d
     ·cases h
 cases W with
 | nil=>cases h
 | cons w r =>
  rw[fL] at h ⊢
  split at h
  ·cases h
  ·rename_i h0
   rw[if_neg h0]
   unfold Ae5 at h ⊢
   split at h
   ·cases h
   ·rename_i m n t0 a k
    try rw[k]
    try dsimp only
    split at h
    ·cases h
    ·rename_i s t t1 b e1
     try rw[e1]
     try dsimp only
     split at h
     ·cases h
     ·rename_i u x t2 v l
      try rw[l]
      try dsimp only
      exact key _ _ _ _ _ _ _ h
theorem sw {c:CaseD}:∀ (ls:List (List UInt8)) (at_:Nat) (acc:List EvD),(∀ e ∈ acc,mI c e=true)→acc.length≤256 →
  ((C8 c ls at_ acc).2.2=0→(∀ e ∈ (C8 c ls at_ acc).1,mI c e=true)∧(C8 c ls at_ acc).1.length≤256)∧((C8 c ls at_ acc).2.2≠0→(C8 c ls at_ acc).1=[])
 | [],at_,acc,h,d=>⟨fun _=>⟨h,d⟩,fun e=>absurd rfl e⟩
 | x::ls,at_,acc,h,d=>by
  rw[C8]
  cases Oi x with
  | nil=>exact sw ls (at_+1) acc h d
  | cons w r =>
   dsimp only
   by_cases h0:(Hw c (w::r)).2=0
   ·rw[if_pos h0]
    by_cases f:acc.length=256
    ·rw[if_pos f];exact⟨fun e=>(by cases e),fun _=>rfl⟩
    ·rw[if_neg f]
     exact sw ls (at_+1) _ (fun e b=>by
      rw[List.mem_append,List.mem_singleton] at b
      rcases b with b | rfl
      ·exact h e b
      ·exact A25 h0) (by rw[List.length_append,List.length_singleton];omega)
   ·rw[if_neg h0];exact⟨fun e=>absurd e h0,fun _=>rfl⟩
end
end Gx.Cf

namespace Gx
open Go Go.Proofs
open IntKind (wrap)
set_option maxRecDepth 100000
noncomputable section
variable {R:Type} (N:Nat)
def Dm (k0:Nat→Int→LA→O R) (r0:Nat→LA→O R) (g:Int) (i:Bool) (e b:LA) (c:Nat) (d:Bool) (f:Nat) (r:Int) (p:LA):O R :=
 (Ac N 10 b c false d r (fun v t=>(cond (Ae v 10) (As .i64 (List.drop (0+((v.toNat)*1)) [(.int .i64 5),(.int .i64 1),(.int .i64 2),(.int .i64 4),(.int .i64 3),(.int .i64 5),(.int .i64 8),(.int .i64 6),(.int .i64 7),(.int .i64 5)]) fun q=>(cond (q==1) (B4 3 (e.drop 2) fun bn x=>(Ac N ((x:Nat):Int) b c false d t (fun y z=>(As .i64 e fun aa=>(Ac N aa b c false d z (fun ab ac=>(Ac N 20 b c false d ac (fun ad ae=>(cond ((Nat.ble (f+1) 140737488355328)&&(Nat.ble ((f+1)*32) 140737488355328)) (k0 (f+1) ae ((p.take (f*4))++[(.int .i64 q),(.int .i64 y),(.int .i64 ab),(.int .i64 ad)])) none))))))))) (cond (q==2) (B4 22 (e.drop 4) fun bo af=>(Ac N ((af:Nat):Int) b c false d t (fun ag ah=>(As .i64 e fun ai=>(Ac N ai b c false d ah (fun aj ak=>(cond ((Nat.ble (f+1) 140737488355328)&&(Nat.ble ((f+1)*32) 140737488355328)) (k0 (f+1) ak ((p.take (f*4))++[(.int .i64 q),(.int .i64 ag),(.int .i64 (wrap .i64 (1+aj))),(.int .i64 0)])) none))))))) (cond (q==4) (B4 22 (e.drop 4) fun bp al=>(Ac N ((al:Nat):Int) b c false d t (fun u w=>(B4 22 (e.drop 4) fun am an=>(cond (Ae u an) (B4 2 ((am.drop ((u.toNat)*22)).drop 4) fun bq ao=>(cond (((ao:Nat):Int)==0) (cond ((Nat.ble (f+1) 140737488355328)&&(Nat.ble ((f+1)*32) 140737488355328)) (k0 (f+1) w ((p.take (f*4))++[(.int .i64 5),(.int .i64 0),(.int .i64 0),(.int .i64 0)])) none) (B4 22 (e.drop 4) fun ap aq=>(cond (Ae u aq) (B4 2 ((ap.drop ((u.toNat)*22)).drop 4) fun br ar=>(Ac N ((ar:Nat):Int) b c false d w (fun au av=>(Ac N 60 b c false d av (fun aw ax=>(cond ((Nat.ble (f+1) 140737488355328)&&(Nat.ble ((f+1)*32) 140737488355328)) (k0 (f+1) ax ((p.take (f*4))++[(.int .i64 q),(.int .i64 u),(.int .i64 au),(.int .i64 (wrap .i64 (aw - 10)))])) none)))))) none)))) none))))) (cond (q==3) (B4 12 (e.drop 3) fun bs ay=>(cond (((ay:Nat):Int)==0) (cond ((Nat.ble (f+1) 140737488355328)&&(Nat.ble ((f+1)*32) 140737488355328)) (k0 (f+1) t ((p.take (f*4))++[(.int .i64 5),(.int .i64 0),(.int .i64 0),(.int .i64 0)])) none) (B4 12 (e.drop 3) fun bt az=>(Ac N ((az:Nat):Int) b c false d t (fun ba bb=>(As .i64 e fun bc=>(Ac N bc b c false d bb (fun bd be=>(cond ((Nat.ble (f+1) 140737488355328)&&(Nat.ble ((f+1)*32) 140737488355328)) (k0 (f+1) be ((p.take (f*4))++[(.int .i64 q),(.int .i64 ba),(.int .i64 (wrap .i64 (1+bd))),(.int .i64 0)])) none))))))))) (cond (q==8) (As .i64 e fun bf=>(Ac N bf b c false d t (fun bg bh=>(cond ((Nat.ble (f+1) 140737488355328)&&(Nat.ble ((f+1)*32) 140737488355328)) (k0 (f+1) bh ((p.take (f*4))++[(.int .i64 q),(.int .i64 0),(.int .i64 bg),(.int .i64 0)])) none)))) (cond (q==6) (Ac N 200 b c false d t (fun bi bj=>(cond ((Nat.ble (f+1) 140737488355328)&&(Nat.ble ((f+1)*32) 140737488355328)) (k0 (f+1) bj ((p.take (f*4))++[(.int .i64 q),(.int .i64 0),(.int .i64 0),(.int .i64 bi)])) none))) (cond ((Nat.ble (f+1) 140737488355328)&&(Nat.ble ((f+1)*32) 140737488355328)) (k0 (f+1) t ((p.take (f*4))++[(.int .i64 q),(.int .i64 0),(.int .i64 0),(.int .i64 0)])) none)))))))) none)))
def Sw (r0:Nat→LA→O R) (g:Int) (i:Bool) (e b:LA) (c:Nat) (d:Bool) (k0:Nat→Int→LA→O R) (q1:Nat→Int→LA→O R) (l:Nat) (o:Int) (m:LA):O R :=
 (EZ N b c false d o (fun bk=>(cond (bk==true) (cond (cond true (decide (((l:Nat):Int)<g)) false) (q1 l o m) (r0 l m)) (r0 l m))))
def D4 (r0:Nat→LA→O R) (g:Int) (i:Bool) (e b:LA) (c:Nat) (d:Bool):Nat→Nat→Int→LA→O R
 | 0,_,_,_=>none
 | n+1,l,o,m=>(Sw N r0 g i e b c d (D4 r0 g i e b c d n) (fun f r p=>(Dm N (D4 r0 g i e b c d n) r0 g i e b c d f r p)) l o m)
def UR (r0:Nat→LA→O R) (q0:Nat→Int→LA→O R) (e:LA) (i:Bool) (b:LA) (c:Nat) (s d:Bool) (g:Int):O R :=
 (Abt N b c false d (q0 0 0 []))
def FS:=(Ah (fun (N:Nat) (e:LA) (i:Bool) (b:LA) (c:Nat) (s d:Bool) (g:Int) (r0:Nat→LA→O R)=>(UR N r0 (fun l o m=>(D4 N r0 g i e b c d N l o m)) e i b c s d g))).1
theorem kv (e i b c s d g r0):(@FS R N e i b c s d g r0)=(UR N r0 (fun l o m=>(D4 N r0 g i e b c d N l o m)) e i b c s d g):=by rw[FS,(Ah _).2]
def qr:Hints:={ H:=(hS hL (hS hL (hS hL (hS (hS (hP [2,3,7,8] (hJ [2,3,7,8] hL hL)) hL) hL)))),nils:=[(6,4),(8,4)],modes:=[(2,4)] }
def xS:Gm:=[(96,Ajo N),(111,yK N),(97,G5 N)]
def qs (F:KF R):=Ko Tryz.f50 qr (xS N) [] N F
def Nj (F:KF R):Nat→LA→O R:=(fun bl bm=>F (.own 300000 0 bl) (hq [(bQ 4 bm)]))
def Apf (g:Int) (i:Bool) (e b:LA) (c:Nat) (d:Bool) (f:Nat) (r:Int) (p:LA):St:=⟨[(2,(iv g)),(3,(op 0)),(7,(op 1)),(8,(.own 300002 0 f))],(hq [(bP i 0 e),(bN 0 [(.imm b c 1 false d),(iv r)]),(bQ 4 p)])⟩
def Apg (F:KF R) (Q0:St→O R):=qs N F [1,1,1,0,0,0,1] [Q0]
def qt (g:Int) (i:Bool) (e b:LA) (c:Nat) (d:Bool) (l:Nat) (o:Int) (m:LA):St:=⟨[(2,(iv g)),(3,(op 0)),(7,(op 1)),(8,(.own 300002 0 l))],(hq [(bP i 0 e),(bN 0 [(.imm b c 1 false d),(iv o)]),(bQ 4 m)])⟩
def qu (F:KF R):=qs N F [1,1,1,0,0] []
theorem yM (Q0:St→O R) (F:KF R) (g:Int) (i:Bool) (e b:LA) (c:Nat) (d:Bool):∀ (f:Nat) (r:Int) (p:LA),B9 (Apg N F Q0) (Apf g i e b c d f r p)=(Dm N (fun l o m=>Q0 (qt g i e b c d l o m)) (Nj F) g i e b c d f r p):=by
 intro f r p
 kernel_rfl
theorem ZJ (F:KF R) (g:Int) (i:Bool) (e b:LA) (c:Nat) (d:Bool):∀ (n l:Nat) (o:Int) (m:LA),Aj (qu N F) n (qt g i e b c d l o m)=(D4 N (Nj F) g i e b c d n l o m)
 | 0,_,_,_=>by kernel_rfl
 | n+1,l,o,m=>have e0:=(funext fun l=>funext fun o=>funext fun m=>(ZJ F g i e b c d n l o m))
  Eq.trans (by kernel_rfl) (NY (Sw N (Nj F) g i e b c d · · l o m) e0 (funext fun f=>funext fun r=>funext fun p=>(A4 ..).trans ((yM N (Aj (qu N F) n) F g i e b c d f r p).trans (Bu (Dm N · (Nj F) g i e b c d f r p) e0))):_)
theorem qv (e:LA) (i:Bool) (b:LA) (c:Nat) (s d:Bool) (g:Int) (F:KF R):C2 (xS N) qr N 50 [(.pagg e i),(.imm b c 1 s d),(iv g)] [] F=(FS N e i b c s d g (Nj F)):=by
 rw[kv]
 exact Eq.trans (by kernel_rfl) (Bu (UR N (Nj F) · e i b c s d g) (funext fun l=>funext fun o=>funext fun m=>(Ad ..).trans (ZJ N F g i e b c d N l o m)):_)
def kw (a:LA) (h:Ai) (k:KF R):O R :=
 match a,h with
 | [(.pagg e i),(.imm b c 1 s d),(.int .i64 g)],[]=>(FS N e i b c s d g (Nj k))
 | _,_=>none
theorem qw:Am N 50 @kw:=by
 intro R Q a h k j;unfold kw;split;exact Az (qv ..) (qv ..) ⟨Ajp N,yL N,G6 N,trivial⟩;exact A2
def Aph:=A1 (qw N)
def Api:=C5 (qw N)
def Oa (k2:Int→Int→Nat→LA→O R) (r0:List UInt8→Int→O R) (b:LA) (e:Nat) (g f d:Bool) (c:LA) (k1:Int→Int→Int→Int→Int→Int→Nat→LA→LA→O R) (r s o p q i:Int) (t:Nat) (l u:LA):O R :=
 (cond (decide (i<3)) (cond (Ae i 3) (cond (Nat.beq ((i.toNat)*1) 0) (cond (Ae i 3) (As .i64 (l.drop (2+((i.toNat)*1))) fun ai=>(cond (ai==0) (k1 r s o p q (wrap .i64 (i+1)) t l u) (strconv_Itoa N o (fun ab=>(cond (Nat.ble 8 (c.length)) (cond (Ae i 3) (As .i64 (l.drop (2+((i.toNat)*1))) fun aj=>(Kc N (c.take 8) d aj (fun ak al am=>(cond al (cond (Ae o ak) (Wb (am.drop (0+((o.toNat)*1))) fun ac=>(cond (Nat.ble (1+(ac.length)) 140737488355328) (Bl N (([32]:List UInt8)++ac) t u (fun ci an ao=>(k1 r s o p q (wrap .i64 (i+1)) an l ao))) none)) none) (cond (Nat.ble (1+(ab.length)) 140737488355328) (Bl N (([32]:List UInt8)++ab) t u (fun cj ap aq=>(k1 r s o p q (wrap .i64 (i+1)) ap l aq))) none))))) none) none))))) none) (cond (Nat.beq ((i.toNat)*1) 1) (cond (Ae i 3) (As .i64 (l.drop (2+((i.toNat)*1))) fun ar=>(cond (ar==0) (k1 r s o p q (wrap .i64 (i+1)) t l u) (strconv_Itoa N p (fun ad=>(cond (Nat.ble 8 (c.length)) (cond (Ae i 3) (As .i64 (l.drop (2+((i.toNat)*1))) fun au=>(Kc N (c.take 8) d au (fun av aw ax=>(cond aw (cond (Ae p av) (Wb (ax.drop (0+((p.toNat)*1))) fun ae=>(cond (Nat.ble (1+(ae.length)) 140737488355328) (Bl N (([32]:List UInt8)++ae) t u (fun ck ay az=>(k1 r s o p q (wrap .i64 (i+1)) ay l az))) none)) none) (cond (Nat.ble (1+(ad.length)) 140737488355328) (Bl N (([32]:List UInt8)++ad) t u (fun cl ba bb=>(k1 r s o p q (wrap .i64 (i+1)) ba l bb))) none))))) none) none))))) none) (cond (Nat.beq ((i.toNat)*1) 2) (cond (Ae i 3) (As .i64 (l.drop (2+((i.toNat)*1))) fun bc=>(cond (bc==0) (k1 r s o p q (wrap .i64 (i+1)) t l u) (strconv_Itoa N q (fun af=>(cond (Nat.ble 8 (c.length)) (cond (Ae i 3) (As .i64 (l.drop (2+((i.toNat)*1))) fun bd=>(Kc N (c.take 8) d bd (fun be bf bg=>(cond bf (cond (Ae q be) (Wb (bg.drop (0+((q.toNat)*1))) fun ag=>(cond (Nat.ble (1+(ag.length)) 140737488355328) (Bl N (([32]:List UInt8)++ag) t u (fun cm bh bi=>(k1 r s o p q (wrap .i64 (i+1)) bh l bi))) none)) none) (cond (Nat.ble (1+(af.length)) 140737488355328) (Bl N (([32]:List UInt8)++af) t u (fun cn bj bk=>(k1 r s o p q (wrap .i64 (i+1)) bj l bk))) none))))) none) none))))) none) none))) none) (Bl N ([10]:List UInt8) t u (fun co bl bm=>(k2 r (wrap .i64 (s+1)) bl bm))))
def B8 (k2:Int→Int→Nat→LA→O R) (r0:List UInt8→Int→O R) (b:LA) (e:Nat) (g f d:Bool) (c:LA):Nat→Int→Int→Int→Int→Int→Int→Nat→LA→LA→O R
 | 0,_,_,_,_,_,_,_,_,_=>none
 | n+1,r,s,o,p,q,i,t,l,u=>(Oa N k2 r0 b e g f d c (B8 k2 r0 b e g f d c n) r s o p q i t l u)
def Zc (r0:List UInt8→Int→O R) (b:LA) (e:Nat) (g f d:Bool) (c:LA) (k2:Int→Int→Nat→LA→O R) (q1:Int→Int→Int→Int→Int→Int→Nat→LA→LA→O R) (v m:Int) (w:Nat) (x:LA):O R :=
 (cond (decide (m<v)) (cond (Ae m e) (cond (Nat.ble 4 ((b.drop ((m.toNat)*4)).length)) (cond ((!f)||(A0 ((b.drop ((m.toNat)*4)).take 4))) (cond ((Nat.beq (((b.drop ((m.toNat)*4)).take 4).length) 4)&&((Nat.ble 4 4)&&(!false))) (cond (Nat.ble 8 (c.length)) (cond (Nat.ble 4 ((setCells [(.int .i64 0),(.int .i64 0),(.int .i64 0),(.int .i64 0)] 0 ((b.drop ((m.toNat)*4)).take 4)).length)) (Ss N (c.take 8) d ((setCells [(.int .i64 0),(.int .i64 0),(.int .i64 0),(.int .i64 0)] 0 ((b.drop ((m.toNat)*4)).take 4)).take 4) false (fun bn=>(cond (!bn) (r0 ([]:List UInt8) 1) (As .i64 (setCells [(.int .i64 0),(.int .i64 0),(.int .i64 0),(.int .i64 0)] 0 ((b.drop ((m.toNat)*4)).take 4)) fun bo=>(L2 N bo (fun z cp=>(cond ((Nat.beq 0 0)&&((Nat.beq (z.length) 5)&&(Nat.beq 5 5))) (Wb (z.drop 1) fun bp=>(Bl N bp w x (fun cq bq br=>(As .i64 ((setCells [(.int .i64 0),(.int .i64 0),(.int .i64 0),(.int .i64 0)] 0 ((b.drop ((m.toNat)*4)).take 4)).drop 1) fun bs=>(As .i64 ((setCells [(.int .i64 0),(.int .i64 0),(.int .i64 0),(.int .i64 0)] 0 ((b.drop ((m.toNat)*4)).take 4)).drop 2) fun bt=>(As .i64 ((setCells [(.int .i64 0),(.int .i64 0),(.int .i64 0),(.int .i64 0)] 0 ((b.drop ((m.toNat)*4)).take 4)).drop 3) fun bu=>(q1 v m bs bt bu 0 bq z br))))))) none))))))) none) none) none) none) none) none) (U6 N w x (fun bv=>(r0 bv 0))))
def Fg (r0:List UInt8→Int→O R) (b:LA) (e:Nat) (g f d:Bool) (c:LA):Nat→Int→Int→Nat→LA→O R
 | 0,_,_,_,_=>none
 | n+1,v,m,w,x=>(Zc N r0 b e g f d c (Fg r0 b e g f d c n) (fun r s o p q i t l u=>(B8 N (Fg r0 b e g f d c n) r0 b e g f d c N r s o p q i t l u)) v m w x)
def Zd (r0:List UInt8→Int→O R) (b:LA) (e:Nat) (g f d:Bool) (c:LA) (k0:Int→O R) (k2:Int→Int→Nat→LA→O R) (q1:Int→Int→Int→Int→Int→Int→Nat→LA→LA→O R) (y:Int):O R :=
 (cond (decide (0<y)) (cond (Ae 0 e) (cond (Nat.ble 4 (b.length)) (cond ((!f)||(A0 (b.take 4))) (cond ((Nat.beq ((b.take 4).length) 4)&&((Nat.ble 4 4)&&(!false))) (cond (Nat.ble 8 (c.length)) (cond (Nat.ble 4 ((setCells [(.int .i64 0),(.int .i64 0),(.int .i64 0),(.int .i64 0)] 0 (b.take 4)).length)) (Ss N (c.take 8) d ((setCells [(.int .i64 0),(.int .i64 0),(.int .i64 0),(.int .i64 0)] 0 (b.take 4)).take 4) false (fun bw=>(cond (!bw) (r0 ([]:List UInt8) 1) (As .i64 (setCells [(.int .i64 0),(.int .i64 0),(.int .i64 0),(.int .i64 0)] 0 (b.take 4)) fun bx=>(L2 N bx (fun aa cr=>(cond ((Nat.beq 0 0)&&((Nat.beq (aa.length) 5)&&(Nat.beq 5 5))) (Wb (aa.drop 1) fun bz=>(Pj N bz (fun cs ca cb=>(As .i64 ((setCells [(.int .i64 0),(.int .i64 0),(.int .i64 0),(.int .i64 0)] 0 (b.take 4)).drop 1) fun cc=>(As .i64 ((setCells [(.int .i64 0),(.int .i64 0),(.int .i64 0),(.int .i64 0)] 0 (b.take 4)).drop 2) fun cd=>(As .i64 ((setCells [(.int .i64 0),(.int .i64 0),(.int .i64 0),(.int .i64 0)] 0 (b.take 4)).drop 3) fun ce=>(q1 y 0 cc cd ce 0 ca aa cb))))))) none))))))) none) none) none) none) none) none) (fw N (r0 ([]:List UInt8) 0)))
def Hx (r0:List UInt8→Int→O R) (b:LA) (e:Nat) (g f d:Bool) (c:LA):Nat→Int→O R
 | 0,_=>none
 | n+1,y=>(Zd N r0 b e g f d c (Hx r0 b e g f d c n) (fun v m w x=>(Fg N r0 b e g f d c n v m w x)) (fun r s o p q i t l u=>(B8 N (fun v m w x=>(Fg N r0 b e g f d c n v m w x)) r0 b e g f d c N r s o p q i t l u)) y)
def US (r0:List UInt8→Int→O R) (q0:Int→O R) (c:LA) (d:Bool) (b:LA) (e:Nat) (g f:Bool):O R :=
 (cond (Nat.ble 8 (c.length)) (IC N (c.take 8) d (fun cf ah=>(cond ((Nat.beq (cf.length) 3)&&((Nat.ble 3 3)&&(!false))) (cond (ah != 0) (r0 ([]:List UInt8) ah) (cond (decide (((e:Nat):Int)>256)) (r0 ([]:List UInt8) 8) (q0 ((e:Nat):Int)))) none))) none)
def Um:=(Ah (fun (N:Nat) (c:LA) (d:Bool) (b:LA) (e:Nat) (g f:Bool) (r0:List UInt8→Int→O R)=>(US N r0 (fun y=>(Hx N r0 b e g f d c N y)) c d b e g f))).1
theorem ky (c d b e g f r0):(@Um R N c d b e g f r0)=(US N r0 (fun y=>(Hx N r0 b e g f d c N y)) c d b e g f):=by rw[Um,(Ah _).2]
def qx:Hints:={ H:=(hS hL (hS hL (hS hL (hS hL (hS (hS hL (hS (hP [2,8,29,30,31] (hS hL (hS hL (hS (hS (hS hL (hS hL (hS hL (hS hL (hS (hS hL (hS (hP [2,8,11,29,30,31,54,55] hL) hL)) hL))))) hL) hL)))) hL)) hL))))) }
def xT:Gm:=[(104,wX N),(109,wv N),(112,qO N),(113,O8 N),(116,Zu N),(114,VL N),(115,wl N)]
def qy (F:KF R):=Ko Tryz.f51 qx (xT N) [] N F
def Fh (F:KF R):List UInt8→Int→O R:=(fun cg ch=>F (.tup [(.str cg),(iv ch)]) [])
def Apj (b:LA) (e:Nat) (g f d:Bool) (c:LA) (r s o p q i:Int) (t:Nat) (l u:LA):St:=⟨[(2,(op 0)),(8,(op 1)),(11,(op 2)),(29,(.imm b e 4 g f)),(30,(iv r)),(31,(iv s)),(54,(.agg [(iv o),(iv p),(iv q)])),(55,(iv i))],(hq [(bP d 0 c),⟨false,false,false,false,0,[(op 1),(.own 300003 0 t)],false,(some (168,2))⟩,(bQ 0 l),⟨false,false,true,false,1,u,false,(some (5,0))⟩])⟩
def Apk (F:KF R) (Q0:St→O R):=qy N F [1,1,1,1,0,1,0,0,1,1,0,0,1,1,1,1,0,1,0] [Q0]
def UT (b:LA) (e:Nat) (g f d:Bool) (c:LA) (v m:Int) (w:Nat) (x:LA):St:=⟨[(2,(op 0)),(8,(op 1)),(29,(.imm b e 4 g f)),(30,(iv v)),(31,(iv m))],(hq [(bP d 0 c),⟨false,false,false,false,0,[(op 1),(.own 300002 0 w)],false,(some (168,2))⟩,⟨false,false,true,false,1,x,false,(some (5,0))⟩])⟩
def Apl (b:LA) (e:Nat) (g f d:Bool) (c:LA) (y:Int):St:=⟨[(2,(op 0)),(8,(op 1)),(29,(.imm b e 4 g f)),(30,(iv y)),(31,(iv 0))],(hq [(bP d 0 c),⟨false,false,false,false,0,[.nilptr,.nsl],false,(some (168,2))⟩])⟩
def E_ (F:KF R):=qy N F [1,1,1,1,0,1,0] []
theorem BR (Q0:St→O R) (F:KF R) (b:LA) (e:Nat) (g f d:Bool) (c:LA):∀ (n:Nat) (r s o p q i:Int) (t:Nat) (l u:LA),Aj (Apk N F Q0) n (Apj b e g f d c r s o p q i t l u)=(B8 N (fun v m w x=>Q0 (UT b e g f d c v m w x)) (Fh F) b e g f d c n r s o p q i t l u)
 | 0,_,_,_,_,_,_,_,_,_=>by kernel_rfl
 | n+1,r,s,o,p,q,i,t,l,u=>Eq.trans (by kernel_rfl) (Bu (Oa N (fun v m w x=>Q0 (UT b e g f d c v m w x)) (Fh F) b e g f d c · r s o p q i t l u) (funext fun r=>funext fun s=>funext fun o=>funext fun p=>funext fun q=>funext fun i=>funext fun t=>funext fun l=>funext fun u=>(BR Q0 F b e g f d c n r s o p q i t l u)):_)
theorem BS (F:KF R) (b:LA) (e:Nat) (g f d:Bool) (c:LA):∀ (n:Nat) (v m:Int) (w:Nat) (x:LA),Aj (E_ N F) n (UT b e g f d c v m w x)=(Fg N (Fh F) b e g f d c n v m w x)
 | 0,_,_,_,_=>by kernel_rfl
 | n+1,v,m,w,x=>have e0:=(funext fun v=>funext fun m=>funext fun w=>funext fun x=>(BS F b e g f d c n v m w x))
  Eq.trans (by kernel_rfl) (NY (Zc N (Fh F) b e g f d c · · v m w x) e0 (funext fun r=>funext fun s=>funext fun o=>funext fun p=>funext fun q=>funext fun i=>funext fun t=>funext fun l=>funext fun u=>(Ad ..).trans ((BR N (Aj (E_ N F) n) F b e g f d c N r s o p q i t l u).trans (Bu (B8 N · (Fh F) b e g f d c N r s o p q i t l u) e0))):_)
theorem ZK (F:KF R) (b:LA) (e:Nat) (g f d:Bool) (c:LA):∀ (n:Nat) (y:Int),Aj (E_ N F) n (Apl b e g f d c y)=(Hx N (Fh F) b e g f d c n y)
 | 0,_=>by kernel_rfl
 | n+1,y=>have e0:=(funext fun y=>(ZK F b e g f d c n y))
  Eq.trans (by kernel_rfl) (A8v (Zd N (Fh F) b e g f d c · · · y) e0 (funext fun v=>funext fun m=>funext fun w=>funext fun x=>(BS N F b e g f d c n v m w x)) (funext fun r=>funext fun s=>funext fun o=>funext fun p=>funext fun q=>funext fun i=>funext fun t=>funext fun l=>funext fun u=>(Ad ..).trans ((BR N (Aj (E_ N F) n) F b e g f d c N r s o p q i t l u).trans (Bu (B8 N · (Fh F) b e g f d c N r s o p q i t l u) (funext fun v=>funext fun m=>funext fun w=>funext fun x=>(BS N F b e g f d c n v m w x))))):_)
theorem qz (c:LA) (d:Bool) (b:LA) (e:Nat) (g f:Bool) (F:KF R):C2 (xT N) qx N 51 [(.pagg c d),(.imm b e 4 g f)] [] F=(Um N c d b e g f (Fh F)):=by
 rw[ky]
 exact Eq.trans (by kernel_rfl) (Bu (US N (Fh F) · c d b e g f) (funext fun y=>(Ad ..).trans (ZK N F b e g f d c N y)):_)
def kz (a:LA) (h:Ai) (k:KF R):O R :=
 match a,h with
 | [(.pagg c d),(.imm b e 4 g f)],[]=>(Um N c d b e g f (Fh k))
 | _,_=>none
theorem rC:Am N 51 @kz:=by
 intro R Q a h k j;unfold kz;split;exact Az (qz ..) (qz ..) ⟨wY N,ww N,qP N,O9 N,Zv N,x_ N,wm N,trivial⟩;exact A2
def Apm:=A1 (rC N)
def Apn:=C5 (rC N)
end
end Gx

namespace Gx.Cf
open Go Go.Proofs
section
variable {R:Type}
def Gc (c:CaseD) (f v:Int):List UInt8:=(X8 c f v).flatMap fun w=>32::w
theorem Akw:∀ (w:List UInt8) (r:List (List UInt8)),RE (w::r)=w++r.flatMap fun x=>32::x
 | w,[]=>by rw[RE];simp
 | w,v::r=>by
  rw[RE,Akw v r]
  ·simp
  ·simp
theorem sx {c:CaseD} {e:EvD}:LY c e=Ld.getD (e.k - 1).toNat []++(Gc c (Wc (e.k - 1).toNat 0) e.a++(Gc c (Wc (e.k - 1).toNat 1) e.b++Gc c (Wc (e.k - 1).toNat 2) e.v)):=by
 unfold LY ku Gc
 rw[Akw,List.flatMap_append,List.flatMap_append]
theorem Avf {w:List UInt8} (h:G7 w=true):w.length≤16:=by
 unfold G7 at h
 simp only[Bool.and_eq_true] at h
 simpa using h.2.1
theorem Afb {z:Int} (h:-9223372036854775808≤z∧z≤9223372036854775807):(hZ z).length≤21:=by
 have:=Aku h
 unfold hZ Ays
 split
 ·rw[List.length_cons];omega
 ·omega
theorem FT {c:CaseD} (b:Ca c=none) {f v:Int} (h:D3 c f v):(Gc c f v).length≤22:=by
 unfold D3 at h
 unfold Gc X8
 by_cases h0:f=0
 ·rw[if_pos h0];simp
 rw[if_neg h0] at h ⊢
 cases hn:Oj c f with
 | some l =>
  rw[hn] at h
  dsimp only at h ⊢
  have hi:v.toNat<l.length:=by omega
  have:=Avf ((qp b hn).ok _ (List.getElem_mem hi))
  rw[List.getD_eq_getElem?_getD,List.getElem?_eq_getElem hi,Option.getD_some,List.flatMap_cons,List.flatMap_nil,List.append_nil,List.length_cons]
  omega
 | none =>
  rw[hn] at h
  have:=Afb h
  dsimp only
  rw[List.flatMap_cons,List.flatMap_nil,List.append_nil,List.length_cons]
  omega
noncomputable def A5o (N:Nat) (c:LA) (d:Bool) (l u:LA) (t:Nat) (X i:Int) (k:Nat→LA→O R):O R :=
 cond (Ae i 3) (As .i64 (l.drop (2+((i.toNat)*1))) fun ai=>cond (ai==0) (k t u) (strconv_Itoa N X fun ab=>cond (Nat.ble 8 (c.length)) (cond (Ae i 3) (As .i64 (l.drop (2+((i.toNat)*1))) fun au=>Kc N (c.take 8) d au fun av aw ax =>
  cond aw (cond (Ae X av) (Wb (ax.drop (0+((X.toNat)*1))) fun ae=>cond (Nat.ble (1+(ae.length)) 140737488355328) (Bl N (([32]:List UInt8)++ae) t u fun _ ay az=>k ay az) none) none)
   (cond (Nat.ble (1+(ab.length)) 140737488355328) (Bl N (([32]:List UInt8)++ab) t u fun _ ba bb=>k ba bb) none)) none) none)) none
theorem sy {N j:Nat} {c:CaseD} {d:Bool} {l:LA} {s:List UInt8} {f X:Int} {k:Nat→LA→O R} (hs:Small c N) (e:Ca c=none) (i:j<3) (b:∀ F:Int→O R,As .i64 (l.drop (2+j*1)) F=F f) (ok:D3 c f X) (q:s.length≤1000000000) :
  A5o N c.av d l (Ba s) s.length X (j:Int) k=k (s++Gc c f X).length (Ba (s++Gc c f X)):=by
 have ok2:=ok
 unfold A5o
 rw[Ab i,ct,Int.toNat_natCast,b]
 unfold D3 at ok
 unfold Gc X8
 by_cases h0:f=0
 ·rw[show(f==0)=true by simpa using h0,ct,if_pos h0,List.flatMap_nil,List.append_nil]
 rw[if_neg h0] at ok ⊢
 rw[show(f==0)=false by simpa using h0,cf]
 cases hn:Oj c f with
 | some L =>
  rw[hn] at ok
  dsimp only at ok ⊢
  have hL:=Akp hs hn
  obtain⟨n,rfl⟩:∃ n:Nat,X=n:=⟨X.toNat,by omega⟩
  have hi:n<L.length:=by omega
  have m:=Avf ((qp e hn).ok _ (List.getElem_mem hi))
  rw[A63 (by omega),Fb,ct,ct,b,Ce,NH hs,hn]
  dsimp only
  rw[ct,Ab hi,ct,Int.toNat_natCast,Nat.zero_add,Nat.mul_one,Ao9 hi,show Nat.ble (1+L[n].length) 140737488355328=true by rw[Bq];exact decide_eq_true (by omega),ct,y7 (by rw[List.length_append,List.length_singleton];omega)]
  rw[List.getD_eq_getElem?_getD,List.getElem?_eq_getElem hi,Option.getD_some,List.flatMap_cons,List.flatMap_nil,List.append_nil]
  rfl
 | none =>
  rw[hn] at ok
  dsimp only at ok ⊢
  have m:=Afb ok
  rw[A63 ok,Fb,ct,ct,b,Ce,NH hs,hn]
  dsimp only
  rw[cf,show Nat.ble (1+(hZ X).length) 140737488355328=true by rw[Bq];exact decide_eq_true (by omega),ct,y7 (by rw[List.length_append,List.length_singleton];omega)]
  rw[List.flatMap_cons,List.flatMap_nil,List.append_nil]
  rfl
theorem Azh {i:Nat} (hi:i<8) (j:Nat) (b:j<3):∀ F:Int→O R,As .i64 ((Ic i).drop (2+j*1)) F=F (Wc i j):=by
 intro F
 rcases i with _ | _ | _ | _ | _ | _ | _ | _ | i
 all_goals first | omega | skip
 all_goals rcases j with _ | _ | _ | j
 all_goals first | omega | rfl
theorem A5p {N i:Nat} {c:CaseD} {d g f:Bool} {k:List UInt8→Int→O R} {e:Int→Int→Nat→LA→O R} {B:LA} {E:Nat} {y m a b v:Int} {s:List UInt8} (hN:4≤N) (hi:i<8) (hs:Small c N) (j:Ca c=none)
  (l:D3 c (Wc i 0) a) (q:D3 c (Wc i 1) b) (x:D3 c (Wc i 2) v) (z:s.length≤100000000) :
  B8 N e k B E g f d c.av N y m a b v 0 s.length (Ic i) (Ba s)=e y (IntKind.wrap .i64 (m+1)) (s++(Gc c (Wc i 0) a++(Gc c (Wc i 1) b++Gc c (Wc i 2) v))++[10]).length (Ba (s++(Gc c (Wc i 0) a++(Gc c (Wc i 1) b++Gc c (Wc i 2) v))++[10])):=by
 obtain⟨n,hn⟩:∃ n,N=n+4:=⟨N - 4,by omega⟩
 have l0:=FT j l;have l1:=FT j q;have l2:=FT j x
 have key:B8 N e k B E g f d c.av (n+4) y m a b v 0 s.length (Ic i) (Ba s)=e y (IntKind.wrap .i64 (m+1)) (s++(Gc c (Wc i 0) a++(Gc c (Wc i 1) b++Gc c (Wc i 2) v))++[10]).length (Ba (s++(Gc c (Wc i 0) a++(Gc c (Wc i 1) b++Gc c (Wc i 2) v))++[10])):=by
  rw[B8];unfold Oa
  refine Eq.trans (b:=A5o N c.av d (Ic i) (Ba s) s.length a ((0:Nat):Int) fun t u=>B8 N e k B E g f d c.av (n+3) y m a b v 1 t (Ic i) u) rfl ?_
  rw[sy hs j (by omega) (Azh hi 0 (by omega)) l (by omega)]
  rw[B8];unfold Oa
  refine Eq.trans (b:=A5o N c.av d (Ic i) (Ba (s++Gc c (Wc i 0) a)) (s++Gc c (Wc i 0) a).length b ((1:Nat):Int) fun t u=>B8 N e k B E g f d c.av (n+2) y m a b v 2 t (Ic i) u) rfl ?_
  rw[sy hs j (by omega) (Azh hi 1 (by omega)) q (by rw[List.length_append];omega)]
  rw[B8];unfold Oa
  refine Eq.trans (b:=A5o N c.av d (Ic i) (Ba ((s++Gc c (Wc i 0) a)++Gc c (Wc i 1) b)) ((s++Gc c (Wc i 0) a)++Gc c (Wc i 1) b).length v ((2:Nat):Int) fun t u=>B8 N e k B E g f d c.av (n+1) y m a b v 3 t (Ic i) u) rfl ?_
  rw[sy hs j (by omega) (Azh hi 2 (by omega)) x (by rw[List.length_append,List.length_append];omega)]
  rw[B8];unfold Oa
  rw[show decide ((3:Int)<3)=false by decide,cf,y7 (by simp only[List.length_append,List.length_singleton];omega)]
  simp only[List.append_assoc]
 rw[←hn] at key
 exact key
end
end Gx.Cf

namespace Gx.Cf
open Go Go.Proofs
section
variable {R:Type}
theorem Apo {i:Nat} (hi:i<8):((Nat.beq 0 0)&&((Nat.beq ((Ic i).length) 5)&&(Nat.beq 5 5)))=true∧(∀ F:List UInt8→O R,Wb ((Ic i).drop 1) F=F (Ld.getD i []))∧(Ld.getD i []).length≤6:=by
 rcases i with _ | _ | _ | _ | _ | _ | _ | _ | i
 all_goals first | omega | exact⟨rfl,fun _=>rfl,by decide⟩
theorem A5q {N:Nat} {c:CaseD} (hs:Small c N) (b:Ca c=none) {e:EvD} (h:mI c e=true):(LY c e).length≤72:=by
 obtain⟨i,hi,m,f,j,l⟩:=gZ hs (Ul b) h
 have d:(e.k - 1).toNat=i:=by omega
 have l0:=FT b f;have l1:=FT b j;have l2:=FT b l
 have l3:=(Apo (R:=Nat) hi).2.2
 rw[sx,d]
 simp only[List.length_append]
 omega
theorem Avg {c:CaseD} {l:List EvD} {m:Nat} (h:m<l.length):X9 c (l.take (m+1))=X9 c (l.take m)++(LY c l[m]++[10]):=by
 unfold X9
 rw[List.take_succ_eq_append_getElem h,List.flatMap_append,List.flatMap_cons,List.flatMap_nil,List.append_nil]
theorem rD {N:Nat} {c:CaseD} (hs:Small c N) (b:Ca c=none):∀ (l:List EvD),(∀ e ∈ l,mI c e=true)→(X9 c l).length≤l.length*73
 | [],_=>by simp[X9]
 | e::r,h=>by
  have f:=A5q hs b (h e (by simp))
  have i:=rD hs b r (fun x d=>h x (List.mem_cons_of_mem _ d))
  have e1:X9 c (e::r)=(LY c e++[10])++X9 c r:=by unfold X9;rw[List.flatMap_cons]
  rw[e1,List.length_append,List.length_append,List.length_singleton,List.length_cons]
  omega
theorem A6p {N m fuel:Nat} {c:CaseD} {d g f:Bool} {j:List UInt8→Int→O R} {l:List EvD} {s:List UInt8} (hN:100≤N) (h:m<l.length) (u:l.length≤1000000) (hs:Small c N) (n:Ca c=none) (x:s.length≤10000000) :
  Fg N j (l.flatMap EvD.av) l.length g f d c.av (fuel+1) (l.length:Int) (m:Int) s.length (Ba s)=cond (mI c l[m]) (Fg N j (l.flatMap EvD.av) l.length g f d c.av fuel (l.length:Int) ((m+1:Nat):Int) (s++(LY c l[m]++[10])).length (Ba (s++(LY c l[m]++[10])))) (j [] 1):=by
 obtain⟨y,z⟩:=qn l m h
 have A:((!f)||A0 l[m].av)=true:=by cases f<;>rfl
 rw[Fg];unfold Zc
 rw[Hh h,ct,Ab h,ct]
 simp only[Int.toNat_natCast,y,z,A,ct]
 refine Eq.trans (b:=Ss N c.av d (A5u l[m].k l[m].a l[m].b l[m].v) false _) rfl ?_
 rw[NF hs (Ul n)]
 have t:mI c l[m]=BQ c l[m].k l[m].a l[m].b l[m].v:=rfl
 cases q:BQ c l[m].k l[m].a l[m].b l[m].v with
 | false=>rw[t,q];rfl
 | true =>
  obtain⟨i,hi,K,C,D,F⟩:=gZ hs (Ul n) q
  have e:(l[m].k - 1).toNat=i:=by omega
  obtain⟨G,I,w3⟩:=Apo (R:=R) hi
  rw[t,q]
  refine Eq.trans (b:=L2 N l[m].k _) rfl ?_
  rw[ID (by omega),if_pos (by omega),e,G,ct,I,y7 (by omega)]
  refine Eq.trans (b:=B8 N _ j (l.flatMap EvD.av) l.length g f d c.av N (l.length:Int) (m:Int) l[m].a l[m].b l[m].v 0 (s++Ld.getD i []).length (Ic i) (Ba (s++Ld.getD i []))) rfl ?_
  rw[A5p (by omega) hi hs n C D F (by rw[List.length_append];omega),wS (by omega),sx,e]
  simp only[List.append_assoc]
  rfl
theorem A6q {N fuel:Nat} {c:CaseD} {d g f:Bool} {j:List UInt8→Int→O R} {l:List EvD} (hN:100≤N) (h:0<l.length) (u:l.length≤1000000) (hs:Small c N) (m:Ca c=none) :
  Hx N j (l.flatMap EvD.av) l.length g f d c.av (fuel+1) (l.length:Int)=cond (mI c l[0]) (Fg N j (l.flatMap EvD.av) l.length g f d c.av fuel (l.length:Int) ((0+1:Nat):Int) (LY c l[0]++[10]).length (Ba (LY c l[0]++[10]))) (j [] 1):=by
 obtain⟨q,s⟩:=qn l 0 h
 rw[Nat.zero_mul,List.drop_zero] at q s
 have x:((!f)||A0 l[0].av)=true:=by cases f<;>rfl
 rw[Hx];unfold Zd
 rw[show decide ((0:Int)<(l.length:Int))=true by simp;omega,ct,show Ae (0:Int) l.length=true from Ab (i:=0) h,ct]
 simp only[q,s,x,ct]
 refine Eq.trans (b:=Ss N c.av d (A5u l[0].k l[0].a l[0].b l[0].v) false _) rfl ?_
 rw[NF hs (Ul m)]
 have t:mI c l[0]=BQ c l[0].k l[0].a l[0].b l[0].v:=rfl
 cases n:BQ c l[0].k l[0].a l[0].b l[0].v with
 | false=>rw[t,n];rfl
 | true =>
  obtain⟨i,hi,F,y,z,A⟩:=gZ hs (Ul m) n
  have e:(l[0].k - 1).toNat=i:=by omega
  obtain⟨C,D,w3⟩:=Apo (R:=R) hi
  rw[t,n]
  refine Eq.trans (b:=L2 N l[0].k _) rfl ?_
  rw[ID (by omega),if_pos (by omega),e,C,ct,D,A6h (by omega)]
  refine Eq.trans (b:=B8 N _ j (l.flatMap EvD.av) l.length g f d c.av N (l.length:Int) 0 l[0].a l[0].b l[0].v 0 (Ld.getD i []).length (Ic i) (Ba (Ld.getD i []))) rfl ?_
  rw[A5p (by omega) hi hs m y z A (by omega),sx,e]
  simp only[List.append_assoc]
  rfl
theorem A5r {N:Nat} {c:CaseD} {d g f:Bool} {q:List UInt8→Int→O R} {l:List EvD} (hN:100≤N) (s:l.length≤256) (hs:Small c N) (k:Ca c=none):∀ (j m fuel:Nat),m+j=l.length→j<fuel→1≤m→(∀ e ∈ l.take m,mI c e=true) →
  Fg N q (l.flatMap EvD.av) l.length g f d c.av fuel (l.length:Int) (m:Int) (X9 c (l.take m)).length (Ba (X9 c (l.take m)))=cond ((l.drop m).all (mI c)) (q (X9 c l) 0) (q [] 1)
 | 0,m,fuel+1,v,_,n,b=>by
  have t:m=l.length:=by omega
  subst t
  rw[Fg];unfold Zc
  rw[List.take_length] at b ⊢
  have:=rD hs k l b
  have u:X9 c l≠[]:=by
   cases l with
   | nil=>simp at n
   | cons e r=>unfold X9;rw[List.flatMap_cons];simp
  rw[Iz (by omega),cf,A6g u (by omega),List.drop_length]
  rfl
 | j+1,m,fuel+1,v,A,n,b=>by
  have h:m<l.length:=by omega
  have x:(X9 c (l.take m)).length≤256*73:=by
   have n:=rD hs k _ b
   have y:(l.take m).length≤256:=by rw[List.length_take];omega
   exact Nat.le_trans n (Nat.mul_le_mul_right _ y)
  rw[A6p hN h (by omega) hs k (by omega),List.drop_eq_getElem_cons h,List.all_cons]
  cases z:mI c l[m] with
  | false=>rfl
  | true =>
   rw[ct,Bool.true_and,←Avg h]
   exact A5r hN s hs k j (m+1) fuel (by omega) (by omega) (by omega) (fun e i=>by
    rw[List.take_succ_eq_append_getElem h,List.mem_append,List.mem_singleton] at i
    rcases i with i | rfl
    ·exact b e i
    ·exact z)
noncomputable def yb (c:CaseD) (l:List EvD):List UInt8×Int:=match Ca c with
 | some x=>([],x.2.1)
 | none=>if 256<l.length then ([],8) else if l.all (mI c)=true then (X9 c l,0) else ([],1)
theorem Afc {N:Nat} {c:CaseD} {d g f:Bool} {K:List UInt8→Int→O R} {l:List EvD} (hN:4096≤N) (hs:Small c N):Um N c.av d (l.flatMap EvD.av) l.length g f K=K (yb c l).1 (yb c l).2:=by
 rw[ky];unfold US yb
 rw[Fb,ct,Ce,kP hs]
 cases k:Ca c with
 | some x =>
  have:(Bt (some x) != 0)=true:=by rw[bne_iff_ne];exact x.2.2
  dsimp only
  rw[this]
  rfl
 | none =>
  dsimp only
  refine Eq.trans (b:=cond (decide (((l.length:Nat):Int)>256)) (K [] 8) (Hx N K (l.flatMap EvD.av) l.length g f d c.av N (l.length:Int))) rfl ?_
  by_cases h:256<l.length
  ·rw[if_pos h,decide_eq_true (by omega)];rfl
  rw[if_neg h,decide_eq_false (by omega),cf]
  obtain⟨n,hn⟩:∃ n,N=n+1:=⟨N - 1,by omega⟩
  have key:Hx N K (l.flatMap EvD.av) l.length g f d c.av (n+1) (l.length:Int)=K (if l.all (mI c)=true then (X9 c l,(0:Int)) else ([],1)).1 (if l.all (mI c)=true then (X9 c l,(0:Int)) else ([],1)).2:=by
   by_cases h0:l.length=0
   ·obtain rfl:l=[]:=List.length_eq_zero_iff.1 h0
    rw[Hx];unfold Zd
    rw[jO]
    rfl
   ·have j:0<l.length:=by omega
    rw[A6q (by omega) j (by omega) hs k]
    have e1:LY c l[0]++[10]=X9 c (l.take 1):=by
     have:=Avg (c:=c) (l:=l) (m:=0) j
     rw[this];unfold X9;simp
    have q:l.all (mI c)=(mI c l[0]&&(l.drop 1).all (mI c)):=by
     cases l with
     | nil=>simp at j
     | cons e r=>rfl
    rw[q]
    cases s:mI c l[0] with
    | false=>rfl
    | true =>
     rw[ct,e1,A5r (by omega) (by omega) hs k (l.length - 1) 1 n (by omega) (by omega) (by omega) (fun e i=>by
      rw[List.take_succ_eq_append_getElem j,List.take_zero,List.nil_append,List.mem_singleton] at i
      subst i;exact s)]
     cases (l.drop 1).all (mI c)<;>rfl
  rw[←hn] at key
  exact key
end
end Gx.Cf

namespace Gx.Cf
open Go Go.Proofs
section
variable {R:Type}
theorem App {u:UnitD} {r:LA} {F:LA→Nat→O R}:B4 2 (List.drop 4 (u.av++r)) F=F (u.segs.l.flatMap SegD.av) u.segs.l.length:=by
 unfold UnitD.av;exact Ey
theorem A26 {b:Bool} {A B Y:O R} (c:A=Y) (d:B=Y):cond b A B=Y:=by cases b<;>assumption
end
end Gx.Cf

namespace Gx.Cf
open Go Go.Proofs
section
variable {R:Type}
theorem Azi {N b c:Nat} {d g:LA} {e f i l:Bool}:∃ t:Bool,∀ K:Bool→O R,fJ N d b e f g c i l K=K t:=by
 refine⟨cond (decide (((b:Nat):Int)≤200)) (decide (((c:Nat):Int)≤200)) false,fun K=>?_⟩
 rw[qg];unfold sk
 cases decide (((b:Nat):Int)≤200)<;>rfl
theorem A7w:∀ v:Nat,v<10→∃ q:Int,(q=1∨q=2∨q=3∨q=4∨q=5∨q=6∨q=7∨q=8)∧∀ F:Int→O R,As .i64 (List.drop (0+v*1) [(.int .i64 5),(.int .i64 1),(.int .i64 2),(.int .i64 4),(.int .i64 3),(.int .i64 5),(.int .i64 8),(.int .i64 6),(.int .i64 7),(.int .i64 5)]) F=F q:=by
 intro v b
 rcases v with _ | _ | _ | _ | _ | _ | _ | _ | _ | _ | v
 ·exact⟨5,by simp,fun _=>rfl⟩
 ·exact⟨1,by simp,fun _=>rfl⟩
 ·exact⟨2,by simp,fun _=>rfl⟩
 ·exact⟨4,by simp,fun _=>rfl⟩
 ·exact⟨3,by simp,fun _=>rfl⟩
 ·exact⟨5,by simp,fun _=>rfl⟩
 ·exact⟨8,by simp,fun _=>rfl⟩
 ·exact⟨6,by simp,fun _=>rfl⟩
 ·exact⟨7,by simp,fun _=>rfl⟩
 ·exact⟨5,by simp,fun _=>rfl⟩
 ·omega
theorem A7x {acc:List EvD} {e:EvD} {Q:Nat→LA→O R} (h:acc.length≤1000):cond ((Nat.ble (acc.length+1) 140737488355328)&&(Nat.ble ((acc.length+1)*32) 140737488355328)) (Q (acc.length+1) (List.take (acc.length*4) (acc.flatMap EvD.av)++[(.int .i64 e.k),(.int .i64 e.a),(.int .i64 e.b),(.int .i64 e.v)])) none=Q (acc++[e]).length ((acc++[e]).flatMap EvD.av):=by
 have c:((Nat.ble (acc.length+1) 140737488355328)&&(Nat.ble ((acc.length+1)*32) 140737488355328))=true:=by rw[Bq,Bq];simp;omega
 have d:List.take (acc.length*4) (acc.flatMap EvD.av)=acc.flatMap EvD.av:=List.take_of_length_le (by rw[Apa];exact Nat.le_refl _)
 rw[c,ct,d,List.flatMap_append,List.length_append,List.length_singleton]
 rfl
theorem DB {lo hi x:Int} (h:lo≤x∧x≤hi):IL lo hi x=true:=by unfold IL;rw[decide_eq_true h.1,decide_eq_true h.2];rfl
structure Made (c:CaseD):Prop where
 h:1≤c.hours∧c.hours≤3
 b:1≤c.buses.l.length∧c.buses.l.length≤100
 u:1≤c.units.l.length∧c.units.l.length≤100
 l:c.lines.l.length≤100
theorem A5s {c:CaseD} (g:XS c):Made c:=by
 obtain⟨H,d,bs,ls,us,ss,ts,os,b,og,i,rfl⟩:=g
 have j:=b.h;have e:=b.bl;have f:=b.ul;have k:=b.ll
 exact⟨⟨by show(1:Int)≤(H:Int);omega,by show(H:Int)≤3;omega⟩,⟨e.1,by show bs.length≤100;omega⟩,⟨f.1,by show us.length≤100;omega⟩,by show ls.length≤100;omega⟩
theorem xU {N:Nat} {c:CaseD} {raw:List Int} {i d:Bool} (m:Made c) (hs:Small c N) (S:raw.length≤9223372036854775807):∀ (j fuel k:Nat) (acc:List EvD),acc.length+j=30→j<fuel→k≤raw.length→(∀ e ∈ acc,mI c e=true) →
  ∃ x:List EvD,(∀ e ∈ x,mI c e=true)∧x.length≤30∧∀ K:Nat→LA→O R,D4 N K 30 i c.av (Ao raw) raw.length d fuel acc.length (k:Int) (acc.flatMap EvD.av)=K x.length (x.flatMap EvD.av)
 | 0,fuel+1,k,acc,hj,_,hk,V=>⟨acc,V,by omega,fun K=>by
  rw[D4];unfold Sw
  rw[Rd];unfold Sv
  rw[decide_eq_false (show ¬ (((acc.length:Nat):Int)<30) by omega)]
  cases decide ((k:Int)<((raw.length:Nat):Int))<;>rfl⟩
 | j+1,fuel+1,k,acc,hj,hf,hk,V=>by
  have hm:=m.h;have hb:=m.b;have hu:=m.u;have hll:=m.l
  have done:∀ (e:EvD) (k':Nat),mI c e=true→k'≤raw.length→∃ x:List EvD,(∀ e ∈ x,mI c e=true)∧x.length≤30∧∀ K:Nat→LA→O R,cond ((Nat.ble (acc.length+1) 140737488355328)&&(Nat.ble ((acc.length+1)*32) 140737488355328)) (D4 N K 30 i c.av (Ao raw) raw.length d fuel (acc.length+1) (k':Int) (List.take (acc.length*4) (acc.flatMap EvD.av)++[(.int .i64 e.k),(.int .i64 e.a),(.int .i64 e.b),(.int .i64 e.v)])) none=K x.length (x.flatMap EvD.av):=fun e k' he hk'=>by
   obtain⟨x,s,A,D⟩:=xU (i:=i) (d:=d) m hs S j fuel k' (acc++[e]) (by rw[List.length_append,List.length_singleton];omega) (by omega) hk' (fun y L=>by
    rw[List.mem_append,List.mem_singleton] at L
    rcases L with L | rfl
    ·exact V y L
    ·exact he)
   exact⟨x,s,A,fun K=>(A7x (acc:=acc) (e:=e) (Q:=fun n C=>D4 N K 30 i c.av (Ao raw) raw.length d fuel n (k':Int) C) (by omega)).trans (D K)⟩
  by_cases hleft:k<raw.length
  ·obtain⟨v,X,v0,v1,I,U⟩:=nx (R:=R) (N:=N) (t:=false) (o:=d) S 10 (by omega) (by omega) k hk
   obtain⟨n,rfl⟩:∃ n:Nat,v=n:=⟨v.toNat,by omega⟩
   obtain⟨q,hq,F⟩:=A7w (R:=R) n (by omega)
   have open_:∀ K:Nat→LA→O R,D4 N K 30 i c.av (Ao raw) raw.length d (fuel+1) acc.length (k:Int) (acc.flatMap EvD.av)=Dm N (D4 N K 30 i c.av (Ao raw) raw.length d fuel) K 30 i c.av (Ao raw) raw.length d acc.length (k:Int) (acc.flatMap EvD.av):=fun K=>by
    rw[D4];unfold Sw
    rw[Rd];unfold Sv
    rw[decide_eq_true (show(k:Int)<((raw.length:Nat):Int) by omega),decide_eq_true (show(((acc.length:Nat):Int)<30) by omega)]
    rfl
   have G:Ae (n:Int) 10=true:=Ab (by omega)
   rcases hq with rfl | rfl | rfl | rfl | rfl | rfl | rfl | rfl
   ·
    obtain⟨y,T,y0,y1,f,L⟩:=nx (R:=R) (N:=N) (t:=false) (o:=d) S ((c.buses.l.length:Nat):Int) (by omega) (by omega) X I
    obtain⟨z,k3,z0,z1,M,hz⟩:=nx (R:=R) (N:=N) (t:=false) (o:=d) S c.hours (by omega) (by omega) T f
    obtain⟨w,k4,w0,w1,hk4,hw⟩:=nx (R:=R) (N:=N) (t:=false) (o:=d) S 20 (by omega) (by omega) k3 M
    obtain⟨x,s,A,D⟩:=done ⟨1,y,z,w⟩ k4 (by show BQ c 1 y z w=true;unfold BQ;rw[if_pos rfl,DB (by omega),DB (by omega),DB (by omega)];rfl) hk4
    refine⟨x,s,A,fun K=>?_⟩
    rw[open_];unfold Dm
    rw[U,G,ct,Int.toNat_natCast,F,show((1:Int)==1)=true from rfl,ct,J4,L,Np,hz,hw]
    exact D K
   ·
    obtain⟨y,T,y0,y1,f,L⟩:=nx (R:=R) (N:=N) (t:=false) (o:=d) S ((c.units.l.length:Nat):Int) (by omega) (by omega) X I
    obtain⟨z,k3,z0,z1,M,hz⟩:=nx (R:=R) (N:=N) (t:=false) (o:=d) S c.hours (by omega) (by omega) T f
    obtain⟨x,s,A,D⟩:=done ⟨2,y,1+z,0⟩ k3 (by show BQ c 2 y (1+z) 0=true;unfold BQ;rw[if_neg (by decide),if_pos rfl,DB (by omega),DB (by omega),DB (by omega)];rfl) M
    refine⟨x,s,A,fun K=>?_⟩
    rw[open_];unfold Dm
    rw[U,G,ct,Int.toNat_natCast,F,show((2:Int)==1)=false from rfl,cf,show((2:Int)==2)=true from rfl,ct,Hi,L,Np,hz,i64 (a:=1+z) (by omega)]
    exact D K
   ·
    by_cases h0:c.lines.l.length=0
    ·obtain⟨x,s,A,D⟩:=done ⟨5,0,0,0⟩ X rfl I
     refine⟨x,s,A,fun K=>?_⟩
     rw[open_];unfold Dm
     rw[U,G,ct,Int.toNat_natCast,F,show((3:Int)==1)=false from rfl,cf,show((3:Int)==2)=false from rfl,cf,show((3:Int)==4)=false from rfl,cf,show((3:Int)==3)=true from rfl,ct,F2,show(((c.lines.l.length:Nat):Int)==0)=true by rw[h0];rfl,ct]
     exact D K
    ·obtain⟨y,T,y0,y1,f,L⟩:=nx (R:=R) (N:=N) (t:=false) (o:=d) S ((c.lines.l.length:Nat):Int) (by omega) (by omega) X I
     obtain⟨z,k3,z0,z1,M,hz⟩:=nx (R:=R) (N:=N) (t:=false) (o:=d) S c.hours (by omega) (by omega) T f
     obtain⟨x,s,A,D⟩:=done ⟨3,y,1+z,0⟩ k3 (by show BQ c 3 y (1+z) 0=true;unfold BQ;rw[if_neg (by decide),if_neg (by decide),if_pos rfl,DB (by omega),DB (by omega),DB (by omega)];rfl) M
     refine⟨x,s,A,fun K=>?_⟩
     rw[open_];unfold Dm
     rw[U,G,ct,Int.toNat_natCast,F,show((3:Int)==1)=false from rfl,cf,show((3:Int)==2)=false from rfl,cf,show((3:Int)==4)=false from rfl,cf,show((3:Int)==3)=true from rfl,ct,F2,show(((c.lines.l.length:Nat):Int)==0)=false by rw[beq_eq_false_iff_ne];omega,cf,F2,L,Np,hz,i64 (a:=1+z) (by omega)]
     exact D K
   ·
    obtain⟨y,T,y0,y1,f,L⟩:=nx (R:=R) (N:=N) (t:=false) (o:=d) S ((c.units.l.length:Nat):Int) (by omega) (by omega) X I
    obtain⟨a,rfl⟩:∃ a:Nat,y=a:=⟨y.toNat,by omega⟩
    have Y:a<c.units.l.length:=by omega
    have hsg:=(hs.seg _ (List.getElem_mem Y)).2
    have en:Ayu c (a:Int)=c.units.l[a].segs.l.length:=by unfold Ayu;rw[Int.toNat_natCast,List.getElem?_eq_getElem Y]
    by_cases h0:c.units.l[a].segs.l.length=0
    ·obtain⟨x,s,A,D⟩:=done ⟨5,0,0,0⟩ T rfl f
     refine⟨x,s,A,fun K=>?_⟩
     rw[open_];unfold Dm
     rw[U,G,ct,Int.toNat_natCast,F,show((4:Int)==1)=false from rfl,cf,show((4:Int)==2)=false from rfl,cf,show((4:Int)==4)=true from rfl,ct,Hi,L,Hi,Ab Y,ct,Int.toNat_natCast,Ax Dn _ _ Y,App,show(((c.units.l[a].segs.l.length:Nat):Int)==0)=true by rw[h0];rfl,ct]
     exact D K
    ·obtain⟨z,k3,z0,z1,M,hz⟩:=nx (R:=R) (N:=N) (t:=false) (o:=d) S ((c.units.l[a].segs.l.length:Nat):Int) (by omega) (by omega) T f
     obtain⟨w,k4,w0,w1,hk4,hw⟩:=nx (R:=R) (N:=N) (t:=false) (o:=d) S 60 (by omega) (by omega) k3 M
     obtain⟨x,s,A,D⟩:=done ⟨4,(a:Int),z,w - 10⟩ k4 (by show BQ c 4 (a:Int) z (w - 10)=true;unfold BQ;rw[if_neg (by decide),if_neg (by decide),if_neg (by decide),if_pos rfl,en,DB (by omega),DB (by omega),DB (by omega)];rfl) hk4
     refine⟨x,s,A,fun K=>?_⟩
     rw[open_];unfold Dm
     rw[U,G,ct,Int.toNat_natCast,F,show((4:Int)==1)=false from rfl,cf,show((4:Int)==2)=false from rfl,cf,show((4:Int)==4)=true from rfl,ct,Hi,L,Hi,Ab Y,ct,Int.toNat_natCast,Ax Dn _ _ Y,App,show(((c.units.l[a].segs.l.length:Nat):Int)==0)=false by rw[beq_eq_false_iff_ne];omega,cf,Hi,Ab Y,ct,Ax Dn _ _ Y,App,hz,hw,i64 (a:=w - 10) (by omega)]
     exact D K
   ·
    obtain⟨x,s,A,D⟩:=done ⟨5,0,0,0⟩ X rfl I
    refine⟨x,s,A,fun K=>?_⟩
    rw[open_];unfold Dm
    rw[U,G,ct,Int.toNat_natCast,F]
    exact D K
   ·
    obtain⟨y,T,y0,y1,f,L⟩:=nx (R:=R) (N:=N) (t:=false) (o:=d) S 200 (by omega) (by omega) X I
    obtain⟨x,s,A,D⟩:=done ⟨6,0,0,y⟩ T (by show BQ c 6 0 0 y=true;unfold BQ;rw[if_neg (by decide),if_neg (by decide),if_neg (by decide),if_neg (by decide),if_neg (by decide),if_pos rfl,DB (by omega),DB (by omega)];rfl) f
    refine⟨x,s,A,fun K=>?_⟩
    rw[open_];unfold Dm
    rw[U,G,ct,Int.toNat_natCast,F,show((6:Int)==1)=false from rfl,cf,show((6:Int)==2)=false from rfl,cf,show((6:Int)==4)=false from rfl,cf,show((6:Int)==3)=false from rfl,cf,show((6:Int)==8)=false from rfl,cf,show((6:Int)==6)=true from rfl,ct,L]
    exact D K
   ·
    obtain⟨x,s,A,D⟩:=done ⟨7,0,0,0⟩ X rfl I
    refine⟨x,s,A,fun K=>?_⟩
    rw[open_];unfold Dm
    rw[U,G,ct,Int.toNat_natCast,F]
    exact D K
   ·
    obtain⟨y,T,y0,y1,f,L⟩:=nx (R:=R) (N:=N) (t:=false) (o:=d) S c.hours (by omega) (by omega) X I
    obtain⟨x,s,A,D⟩:=done ⟨8,0,y,0⟩ T (by show BQ c 8 0 y 0=true;unfold BQ;rw[if_neg (by decide),if_neg (by decide),if_neg (by decide),if_neg (by decide),if_neg (by decide),if_neg (by decide),if_neg (by decide),if_pos rfl,DB (by omega),DB (by omega)];rfl) f
    refine⟨x,s,A,fun K=>?_⟩
    rw[open_];unfold Dm
    rw[U,G,ct,Int.toNat_natCast,F,show((8:Int)==1)=false from rfl,cf,show((8:Int)==2)=false from rfl,cf,show((8:Int)==4)=false from rfl,cf,show((8:Int)==3)=false from rfl,cf,show((8:Int)==8)=true from rfl,ct,Np,L]
    exact D K
  ·refine⟨acc,V,by omega,fun K=>?_⟩
   rw[D4];unfold Sw
   rw[Rd];unfold Sv
   rw[decide_eq_false (show ¬ (k:Int)<((raw.length:Nat):Int) by omega)]
   rfl
theorem Avh {N:Nat} {c:CaseD} {raw:List Int} {i s d:Bool} (hN:31≤N) (m:Made c) (hs:Small c N) (b:raw.length≤9223372036854775807):∃ x:List EvD,(∀ e ∈ x,mI c e=true)∧x.length≤30∧∀ K:Nat→LA→O R,FS N c.av i (Ao raw) raw.length s d 30 K=K x.length (x.flatMap EvD.av):=by
 obtain⟨x,f,j,k⟩:=xU (R:=R) (N:=N) (c:=c) (raw:=raw) (i:=i) (d:=d) m hs b 30 N 0 [] rfl (by omega) (by omega) (by simp)
 refine⟨x,f,j,fun K=>?_⟩
 rw[kv];unfold UR
 rw[l7];unfold yT
 exact k K
end
end Gx.Cf

namespace Gx
open Go Go.Proofs
open IntKind (wrap)
set_option maxRecDepth 100000
noncomputable section
variable {R:Type} (N:Nat)
def Kj (r0:List UInt8→O R) (e:LA) (d:Nat) (g i:Bool) (k0:Nat→Int→LA→O R) (b:Nat) (f:Int) (l:LA):O R :=
 (cond (decide ((wrap .i64 (f+1))<((d:Nat):Int))) (cond (Ae f d) (As .i64 (e.drop ((f.toNat)*1)) fun q=>(GX N q (wrap .i64 (((b:Nat):Int)+1)) (fun c=>(cond (Ae (wrap .i64 (f+1)) d) (As .i64 (e.drop (((wrap .i64 (f+1)).toNat)*1)) fun r=>(GX N r 9 (fun p=>(cond (Ae p 9) (Wb (List.drop (0+((p.toNat)*1)) [(.str ([32]:List UInt8)),(.str ([35]:List UInt8)),(.str ([10]:List UInt8)),(.str ([48]:List UInt8)),(.str ([45]:List UInt8)),(.str ([115,116,101,112]:List UInt8)),(.str ([32,32]:List UInt8)),(.str ([57,57,57,57,57,57,57,57,57,57,57,57,57,57,57,57,57,57,57,57]:List UInt8)),(.str ([9]:List UInt8))]) fun m=>(cond (Ae (wrap .i64 (f+1)) d) (As .i64 (e.drop (((wrap .i64 (f+1)).toNat)*1)) fun s=>(GX N (wrap .i64 (Int.tdiv s 9)) 3 (fun t=>(cond ((t==0)==true) (cond (cond true (decide (c<((b:Nat):Int))) false) (cond ((decide ((0:Int)≤(0:Int)))&&((decide (0≤c))&&((decide (c≤c))&&(decide (c≤((b:Nat):Int)))))) (cond ((decide (0≤(wrap .i64 (c+1))))&&((decide ((wrap .i64 (c+1))≤((b:Nat):Int)))&&((decide (((b:Nat):Int)≤((b:Nat):Int)))&&(decide (((b:Nat):Int)≤((b:Nat):Int)))))) (cond ((Nat.ble ((c.toNat)+(b - ((wrap .i64 (c+1)).toNat))) 140737488355328)&&(Nat.ble (((c.toNat)+(b - ((wrap .i64 (c+1)).toNat)))*1) 140737488355328)) (k0 ((c.toNat)+(b - ((wrap .i64 (c+1)).toNat))) (wrap .i64 (f+2)) ((l.take ((c.toNat)*1))++((l.drop (0+(((wrap .i64 (c+1)).toNat)*1))).take ((b - ((wrap .i64 (c+1)).toNat))*1)))) none) none) none) (cond ((decide ((0:Int)≤(0:Int)))&&((decide (0≤c))&&((decide (c≤((b:Nat):Int)))&&(decide (((b:Nat):Int)≤((b:Nat):Int)))))) (cond ((Nat.ble (0+(c.toNat)) 140737488355328)&&(Nat.ble ((0+(c.toNat))*1) 140737488355328)) (cond ((Nat.ble ((0+(c.toNat))+(m.length)) 140737488355328)&&(Nat.ble (((0+(c.toNat))+(m.length))*1) 140737488355328)) (cond ((decide (0≤c))&&((decide (c≤((b:Nat):Int)))&&((decide (((b:Nat):Int)≤((b:Nat):Int)))&&(decide (((b:Nat):Int)≤((b:Nat):Int)))))) (cond ((Nat.ble (((0+(c.toNat))+(m.length))+(b - (c.toNat))) 140737488355328)&&(Nat.ble ((((0+(c.toNat))+(m.length))+(b - (c.toNat)))*1) 140737488355328)) (k0 (((0+(c.toNat))+(m.length))+(b - (c.toNat))) (wrap .i64 (f+2)) ((List.take (((0+(c.toNat))+(m.length))*1) (((l.take ((c.toNat)*1)).take ((0+(c.toNat))*1))++(Ba m)))++((l.drop (0+((c.toNat)*1))).take ((b - (c.toNat))*1)))) none) none) none) none) none)) (cond ((decide ((0:Int)≤(0:Int)))&&((decide (0≤c))&&((decide (c≤((b:Nat):Int)))&&(decide (((b:Nat):Int)≤((b:Nat):Int)))))) (cond ((Nat.ble (0+(c.toNat)) 140737488355328)&&(Nat.ble ((0+(c.toNat))*1) 140737488355328)) (cond ((Nat.ble ((0+(c.toNat))+(m.length)) 140737488355328)&&(Nat.ble (((0+(c.toNat))+(m.length))*1) 140737488355328)) (cond ((decide (0≤c))&&((decide (c≤((b:Nat):Int)))&&((decide (((b:Nat):Int)≤((b:Nat):Int)))&&(decide (((b:Nat):Int)≤((b:Nat):Int)))))) (cond ((Nat.ble (((0+(c.toNat))+(m.length))+(b - (c.toNat))) 140737488355328)&&(Nat.ble ((((0+(c.toNat))+(m.length))+(b - (c.toNat)))*1) 140737488355328)) (k0 (((0+(c.toNat))+(m.length))+(b - (c.toNat))) (wrap .i64 (f+2)) ((List.take (((0+(c.toNat))+(m.length))*1) (((l.take ((c.toNat)*1)).take ((0+(c.toNat))*1))++(Ba m)))++((l.drop (0+((c.toNat)*1))).take ((b - (c.toNat))*1)))) none) none) none) none) none))))) none)) none)))) none)))) none) (Option.bind (DE (l.take (b*1))) fun u=>(r0 u)))
def D5 (r0:List UInt8→O R) (e:LA) (d:Nat) (g i:Bool):Nat→Nat→Int→LA→O R
 | 0,_,_,_=>none
 | n+1,b,f,l=>(Kj N r0 e d g i (D5 r0 e d g i n) b f l)
def Wa (N:Nat) (r0:List UInt8→O R) (q0:Nat→Int→LA→O R) (o:List UInt8) (e:LA) (d:Nat) (g i:Bool):O R :=
 (q0 (o.length) 0 (Ba o))
def Ob:=(Ah (fun (N:Nat) (o:List UInt8) (e:LA) (d:Nat) (g i:Bool) (r0:List UInt8→O R)=>(Wa N r0 (fun b f l=>(D5 N r0 e d g i N b f l)) o e d g i))).1
theorem LZ (o e d g i r0):(@Ob R N o e d g i r0)=(Wa N r0 (fun b f l=>(D5 N r0 e d g i N b f l)) o e d g i):=by rw[Ob,(Ah _).2]
def RF:Hints:={ H:=(hS hL (hS hL (hS (hS hL (hS (hP [1,5,6] hL) hL)) hL))) }
def ZL:Gm:=[(43,sB N)]
def tA (F:KF R):=Ko Tryz.f54 RF (ZL N) [] N F
def L4 (F:KF R):List UInt8→O R:=(fun v=>F (.str v) [])
def tB (e:LA) (d:Nat) (g i:Bool) (b:Nat) (f:Int) (l:LA):St:=⟨[(1,(.imm e d 1 g i)),(5,(.own 300000 0 b)),(6,(iv f))],(hq [(bQ 1 l)])⟩
def tC (F:KF R):=tA N F [1,1,0,1,0] []
theorem DC (F:KF R) (e:LA) (d:Nat) (g i:Bool):∀ (n b:Nat) (f:Int) (l:LA),Aj (tC N F) n (tB e d g i b f l)=(D5 N (L4 F) e d g i n b f l)
 | 0,_,_,_=>by kernel_rfl
 | n+1,b,f,l=>Eq.trans (by kernel_rfl) (Bu (Kj N (L4 F) e d g i · b f l) (funext fun b=>funext fun f=>funext fun l=>(DC F e d g i n b f l)):_)
theorem RG (o:List UInt8) (e:LA) (d:Nat) (g i:Bool) (F:KF R):C2 (ZL N) RF N 54 [(.str o),(.imm e d 1 g i)] [] F=(Ob N o e d g i (L4 F)):=by
 rw[LZ]
 exact Eq.trans (by kernel_rfl) (Bu (Wa N (L4 F) · o e d g i) (funext fun b=>funext fun f=>funext fun l=>(Ad ..).trans (DC N F e d g i N b f l)):_)
def L_ (a:LA) (h:Ai) (k:KF R):O R :=
 match a,h with
 | [(.str o),(.imm e d 1 g i)],[]=>(Ob N o e d g i (L4 k))
 | _,_=>none
theorem RH:Am N 54 @L_:=by
 intro R Q a h k j;unfold L_;split;exact Az (RG ..) (RG ..) ⟨sC N,trivial⟩;exact A2
def tD:=A1 (RH N)
def tE:=C5 (RH N)
def Kk (r0:Bool→O R) (c:LA) (b:Nat) (e d:Bool) (r:List UInt8) (o:LA):O R :=
 (cond (Nat.ble 8 (o.length)) (Ob N r c b false d (fun y=>(Ho N (o.take 8) false y (fun s an z u=>(cond (z != 0) (r0 (((s:Nat):Int)==0)) (cond (Nat.ble 8 (o.length)) (Um N (o.take 8) false (u.take (s*4)) s false true (fun aa ab=>(cond (Nat.ble 8 (o.length)) (Ho N (o.take 8) false aa (fun v ao ac ad=>(cond ((ab==0)==true) (cond ((cond true (ac==0) false)==true) (Su N (u.take (s*4)) s false true (ad.take (v*4)) v false true (fun ae=>(r0 (cond true ae false)))) (r0 false)) (r0 false)))) none))) none)))))) none)
def Ok (r0:Bool→O R) (f:LA) (g:Nat) (p i:Bool) (l:LA) (m:Nat) (q n:Bool) (c:LA) (b:Nat) (e d:Bool) (q1:List UInt8→LA→O R):O R :=
 (TU N f g false i (fun o=>(cond ((Nat.beq 0 0)&&((Nat.beq (o.length) 8)&&(Nat.beq 8 8))) (cond (Nat.ble 8 (o.length)) (FS N (o.take 8) false l m false n 30 (fun t w=>(cond (Nat.ble 8 (o.length)) (Um N (o.take 8) false (w.take (t*4)) t false true (fun r af=>(cond (Nat.ble 8 (o.length)) (Ho N (o.take 8) false r (fun x ag ah ai=>(Qm N (fun aj=>(cond ((!aj)==false) (cond ((cond false true (af != 0))==false) (cond ((cond false true (ah != 0))==false) (cond ((cond false true (ag != 0))==false) (Su N (w.take (t*4)) t false true (ai.take (x*4)) x false true (fun ak=>(cond (cond false true (!ak)) (r0 false) (q1 r o)))) (r0 false)) (r0 false)) (r0 false)) (r0 false)))))) none))) none))) none) none)))
def Gw (r0:Bool→O R) (f:LA) (g:Nat) (p i:Bool) (l:LA) (m:Nat) (q n:Bool) (c:LA) (b:Nat) (e d:Bool):O R:=(Ok N r0 f g p i l m q n c b e d (fun r o=>(Kk N r0 c b e d r o)))
def Nk (r0:Bool→O R) (q0:O R) (f:LA) (g:Nat) (p i:Bool) (l:LA) (m:Nat) (q n:Bool) (c:LA) (b:Nat) (e d:Bool):O R :=
 (fJ N f g false i l m false n (fun al=>(cond ((!al)==false) (cond (cond false true (decide (((b:Nat):Int)>16))) (r0 true) q0) (r0 true))))
def Kl:=(Ah (fun (N:Nat) (f:LA) (g:Nat) (p i:Bool) (l:LA) (m:Nat) (q n:Bool) (c:LA) (b:Nat) (e d:Bool) (r0:Bool→O R)=>(Nk N r0 (Gw N r0 f g p i l m q n c b e d) f g p i l m q n c b e d))).1
theorem Wu (f g p i l m q n c b e d r0):(@Kl R N f g p i l m q n c b e d r0)=(Nk N r0 (Gw N r0 f g p i l m q n c b e d) f g p i l m q n c b e d):=by rw[Kl,(Ah _).2]
def BB:Hints:={ H:=(hS hL (hJ [0,1,2] hL (hS hL (hS hL (hS hL (hS hL (hJ [2,7,9] hL hL))))))) }
def DD:Gm:=[(49,Au8 N),(42,Ac2 N),(50,Aph N),(51,Apm N),(44,ey N),(45,fH N),(53,xL N),(54,tD N)]
def BC (F:KF R):=Ko Tryz.f12 BB (DD N) [] N F
def Ex (F:KF R):Bool→O R:=(fun am=>F (.bool am) [])
def fP (c:LA) (b:Nat) (e d:Bool) (r:List UInt8) (o:LA):St:=⟨[(2,(.imm c b 1 e d)),(7,(op 0)),(9,(.str r))],(hq [(bQ 0 o)])⟩
def fQ (F:KF R):=BC N F [1,1,1,1,1,1,1] []
def fR (f:LA) (g:Nat) (p i:Bool) (l:LA) (m:Nat) (q n:Bool) (c:LA) (b:Nat) (e d:Bool):St:=⟨[(0,(.imm f g 1 p i)),(1,(.imm l m 1 q n)),(2,(.imm c b 1 e d))],[]⟩
def fS (F:KF R):=BC N F [1,1] []
theorem RI (F:KF R) (c:LA) (b:Nat) (e d:Bool) (r:List UInt8) (o:LA):B9 (fQ N F) (fP c b e d r o)=(Kk N (Ex F) c b e d r o):=by
 kernel_rfl
theorem RK (F:KF R) (f:LA) (g:Nat) (p i:Bool) (l:LA) (m:Nat) (q n:Bool) (c:LA) (b:Nat) (e d:Bool):B9 (fS N F) (fR f g p i l m q n c b e d)=(Gw N (Ex F) f g p i l m q n c b e d):=by
 exact Eq.trans (by kernel_rfl) (Bu (Ok N (Ex F) f g p i l m q n c b e d ·) (funext fun r=>funext fun o=>(A4 ..).trans (RI N F c b e d r o)):_)
theorem BD (f:LA) (g:Nat) (p i:Bool) (l:LA) (m:Nat) (q n:Bool) (c:LA) (b:Nat) (e d:Bool) (F:KF R):C2 (DD N) BB N 12 [(.imm f g 1 p i),(.imm l m 1 q n),(.imm c b 1 e d)] [] F=(Kl N f g p i l m q n c b e d (Ex F)):=by
 rw[Wu]
 exact Eq.trans (by kernel_rfl) (Bu (Nk N (Ex F) · f g p i l m q n c b e d) ((A4 ..).trans (RK N F f g p i l m q n c b e d)):_)
def Wv (a:LA) (h:Ai) (k:KF R):O R :=
 match a,h with
 | [(.imm f g 1 p i),(.imm l m 1 q n),(.imm c b 1 e d)],[]=>(Kl N f g p i l m q n c b e d (Ex k))
 | _,_=>none
theorem BE:Am N 12 @Wv:=by
 intro R Q a h k j;unfold Wv;split;exact Az (BD ..) (BD ..) ⟨Au9 N,Ac3 N,Api N,Apn N,ez N,fI N,xM N,tE N,trivial⟩;exact A2
def fT:=A1 (BE N)
def fU:=C5 (BE N)
end
end Gx

namespace Gx.Cf
open Go Go.Proofs
section
variable {R:Type}
theorem xV (s:List UInt8) (n:Nat):List.take (n*1) (Ba s)=Ba (s.take n):=by rw[Nat.mul_one];unfold Ba;rw[List.map_take]
theorem xW (s:List UInt8) (n:Nat):List.drop (0+(n*1)) (Ba s)=Ba (s.drop n):=by rw[Nat.zero_add,Nat.mul_one];unfold Ba;rw[List.map_drop]
theorem A7y:∀ v:Nat,v<9→∃ m:List UInt8,m.length≤20∧∀ F:List UInt8→O R,Wb (List.drop (0+v*1) [(.str ([32]:List UInt8)),(.str ([35]:List UInt8)),(.str ([10]:List UInt8)),(.str ([48]:List UInt8)),(.str ([45]:List UInt8)),(.str ([115,116,101,112]:List UInt8)),(.str ([32,32]:List UInt8)),(.str ([57,57,57,57,57,57,57,57,57,57,57,57,57,57,57,57,57,57,57,57]:List UInt8)),(.str ([9]:List UInt8))]) F=F m:=by
 intro v b
 rcases v with _ | _ | _ | _ | _ | _ | _ | _ | _ | v
 ·exact⟨_,by decide,fun _=>rfl⟩
 ·exact⟨_,by decide,fun _=>rfl⟩
 ·exact⟨_,by decide,fun _=>rfl⟩
 ·exact⟨_,by decide,fun _=>rfl⟩
 ·exact⟨_,by decide,fun _=>rfl⟩
 ·exact⟨_,by decide,fun _=>rfl⟩
 ·exact⟨_,by decide,fun _=>rfl⟩
 ·exact⟨_,by decide,fun _=>rfl⟩
 ·exact⟨_,by decide,fun _=>rfl⟩
 ·omega
theorem A27 {s:List UInt8} {k:Nat} (h:k<s.length):List.take (k*1) (Ba s)++List.take ((s.length - (k+1))*1) (List.drop (0+((k+1)*1)) (Ba s))=Ba (s.take k++s.drop (k+1)):=by
 rw[xV,xW,Xz _ _ (by rw[List.length_drop]),gT]
theorem A28 {s m:List UInt8} {k:Nat} (h:k≤s.length):List.take (((0+k)+m.length)*1) (List.take ((0+k)*1) (List.take (k*1) (Ba s))++Ba m)++List.take ((s.length - k)*1) (List.drop (0+(k*1)) (Ba s))=Ba (s.take k++m++s.drop k):=by
 have e:0+k=(s.take k).length:=by rw[List.length_take];omega
 rw[xV,Xz _ _ e,gT,Xz _ _ (by rw[List.length_append,←e]),xW,Xz _ _ (by rw[List.length_drop]),gT]
theorem Apq {N:Nat} {ed:List Int} {g i:Bool} (T:ed.length≤16):∀ (j fuel f:Nat) (s:List UInt8),ed.length≤f+1+2*j→f≤1000→j<fuel→s.length+20*j≤1000000 →
  ∃ t:List UInt8,t.length≤s.length+20*j∧∀ K:List UInt8→O R,D5 N K (Ao ed) ed.length g i fuel s.length (f:Int) (Ba s)=K t:=by
 have fin:∀ (fuel f:Nat) (s:List UInt8),¬ f+1<ed.length→f≤1000→∀ K:List UInt8→O R,D5 N K (Ao ed) ed.length g i (fuel+1) s.length (f:Int) (Ba s)=K s:=fun fuel f s h q K=>by
  rw[D5];unfold Kj
  rw[wS (by omega),Iz (by omega),cf,Xz s _ rfl,iO]
  rfl
 intro j
 induction j with
 | zero =>
  intro fuel f s U c q V
  obtain⟨u,rfl⟩:∃ u,fuel=u+1:=⟨fuel - 1,by omega⟩
  exact⟨s,by omega,fin u f s (by omega) c⟩
 | succ j z =>
  intro fuel f s U c q V
  obtain⟨u,rfl⟩:∃ u,fuel=u+1:=⟨fuel - 1,by omega⟩
  by_cases h:f+1<ed.length
  ·obtain⟨A,k0,k1,C⟩:=fM (R:=R) (N:=N) (v:=ed[f]) (n:=((s.length+1:Nat):Int)) (by omega) (by omega)
   obtain⟨k,rfl⟩:∃ k:Nat,A=k:=⟨A.toNat,by omega⟩
   obtain⟨D,p0,p1,G⟩:=fM (R:=R) (N:=N) (v:=ed[f+1]) (n:=9) (by omega) (by omega)
   obtain⟨p,rfl⟩:∃ p:Nat,D=p:=⟨D.toNat,by omega⟩
   obtain⟨t,t0,t1,I⟩:=fM (R:=R) (N:=N) (v:=IntKind.wrap .i64 (Int.tdiv ed[f+1] 9)) (n:=3) (by omega) (by omega)
   obtain⟨m,X,L⟩:=A7y (R:=R) p (by omega)
   have M:IntKind.wrap .i64 ((f:Int)+1)=((f+1:Nat):Int):=wS (by omega)
   have S:IntKind.wrap .i64 ((s.length:Int)+1)=((s.length+1:Nat):Int):=wS (by omega)
   have w3:IntKind.wrap .i64 ((f:Int)+2)=((f+2:Nat):Int):=i64 (by omega)
   have Y:IntKind.wrap .i64 ((k:Int)+1)=((k+1:Nat):Int):=wS (by omega)
   have hA:Ae (f:Int) ed.length=true:=Ab (by omega)
   have hB:Ae ((f+1:Nat):Int) ed.length=true:=Ab h
   have hP:Ae (p:Int) 9=true:=Ab (by omega)
   have rA:∀ F:Int→O R,As .i64 (List.drop ((f:Int).toNat*1) (Ao ed)) F=F ed[f]:=fun F=>Z7 (by omega)
   have rB:∀ F:Int→O R,As .i64 (List.drop (((f+1:Nat):Int).toNat*1) (Ao ed)) F=F ed[f+1]:=fun F=>Z7 h
   have tk:(k:Int).toNat=k:=Int.toNat_natCast k
   have tk1:((k+1:Nat):Int).toNat=k+1:=Int.toNat_natCast (k+1)
   have tp:(p:Int).toNat=p:=Int.toNat_natCast p
   have bl:∀ n:Nat,n≤2000000→(Nat.ble n 140737488355328&&Nat.ble (n*1) 140737488355328)=true:=fun n hn=>by rw[Bq,Bq];simp;omega
   obtain⟨x,x1,x2⟩:=z u (f+2) (s.take k++m++s.drop k) (by omega) (by omega) (by omega) (by simp only[List.length_append,List.length_take,List.length_drop];omega)
   have d:(s.take k++m++s.drop k).length=((0+k)+m.length)+(s.length - k):=by simp only[List.length_append,List.length_take,List.length_drop];omega
   have c1:((decide ((0:Int)≤(0:Int)))&&((decide (0≤(k:Int)))&&((decide ((k:Int)≤((s.length:Nat):Int)))&&(decide (((s.length:Nat):Int)≤((s.length:Nat):Int))))))=true:=by simp;omega
   have c2:((decide (0≤(k:Int)))&&((decide ((k:Int)≤((s.length:Nat):Int)))&&((decide (((s.length:Nat):Int)≤((s.length:Nat):Int)))&&(decide (((s.length:Nat):Int)≤((s.length:Nat):Int))))))=true:=by simp;omega
   by_cases b:t=0∧k<s.length
   ·obtain⟨y,y1,y2⟩:=z u (f+2) (s.take k++s.drop (k+1)) (by omega) (by omega) (by omega) (by simp only[List.length_append,List.length_take,List.length_drop];omega)
    have l:(s.take k++s.drop (k+1)).length=k+(s.length - (k+1)):=by simp only[List.length_append,List.length_take,List.length_drop];omega
    refine⟨y,by omega,fun K=>?_⟩
    have d1:((decide ((0:Int)≤(0:Int)))&&((decide (0≤(k:Int)))&&((decide ((k:Int)≤(k:Int)))&&(decide ((k:Int)≤((s.length:Nat):Int))))))=true:=by simp;omega
    have d2:((decide (0≤((k+1:Nat):Int)))&&((decide (((k+1:Nat):Int)≤((s.length:Nat):Int)))&&((decide (((s.length:Nat):Int)≤((s.length:Nat):Int)))&&(decide (((s.length:Nat):Int)≤((s.length:Nat):Int))))))=true:=by simp;omega
    rw[D5];unfold Kj
    rw[M,Hh h]
    simp only[ct,hA,rA,S,C,hB,rB,G,hP,tp,L,I]
    rw[b.1,show((0:Int)==0)=true from rfl,show(true==true)=true from rfl,ct,Hh b.2,A9c,ct]
    simp only[d1,Y,d2,ct,tk,tk1]
    rw[bl _ (by omega),ct,A27 b.2,w3,←l]
    exact y2 K
   ·refine⟨x,by omega,fun K=>?_⟩
    rw[D5];unfold Kj
    rw[M,Hh h]
    simp only[ct,hA,rA,S,C,hB,rB,G,hP,tp,L,I]
    simp only[c1,c2,ct,tk]
    rw[bl (0+k) (by omega),bl (0+k+m.length) (by omega),bl (0+k+m.length+(s.length - k)) (by omega)]
    simp only[ct]
    rw[A28 (by omega),w3,←d,x2 K]
    by_cases h0:t=0
    ·rw[show((t==0)==true)=true by rw[h0];rfl,ct,Iz (show s.length≤k from Nat.le_of_not_lt fun e=>b ⟨h0,e⟩),A9c,cf]
    ·rw[show((t==0)==true)=false by rw[A62,beq_eq_false_iff_ne];exact h0,cf]
  ·exact⟨s,by omega,fin u f s h c⟩
theorem Apr {N:Nat} {s:List UInt8} {ed:List Int} {g i:Bool} (hN:20≤N) (b:ed.length≤16) (d:s.length≤100000):∃ t:List UInt8,t.length≤200000∧∀ K:List UInt8→O R,Ob N s (Ao ed) ed.length g i K=K t:=by
 obtain⟨t,e,c⟩:=Apq (R:=R) (N:=N) (ed:=ed) (g:=g) (i:=i) b 8 N 0 s (by omega) (by omega) (by omega) (by omega)
 refine⟨t,by omega,fun K=>?_⟩
 rw[LZ];unfold Wa
 exact c K
end
end Gx.Cf

namespace Gx.Cf
open Go Go.Proofs
section
variable {R:Type}
theorem Afd {N:Nat} {c:CaseD} {o:Bool} {l:List EvD} {K:Nat→Int→Int→LA→O R} (hs:Small c N) (d:Ca c=none) (f:fit 1200000 N) (b:∀ e ∈ l,mI c e=true) (i:l.length≤256):Ho N c.av o (X9 c l) K=K l.length 0 0 (l.flatMap EvD.av):=by
 have j:=rD hs d l b
 rw[N9 hs d (by omega) f,Akv hs d l 1 [] b (by simpa using i)]
 rfl
theorem Akx {N:Nat} {c:CaseD} {d g f:Bool} {K:List UInt8→Int→O R} {l:List EvD} (hN:4096≤N) (hs:Small c N) (i:Ca c=none) (b:∀ e ∈ l,mI c e=true) (j:l.length≤256):Um N c.av d (l.flatMap EvD.av) l.length g f K=K (X9 c l) 0:=by
 rw[Afc hN hs]
 unfold yb
 rw[i]
 dsimp only
 rw[if_neg (by omega),if_pos (by rw[List.all_eq_true];exact b)]
theorem rE (l:List EvD):List.take (l.length*4) (l.flatMap EvD.av)=l.flatMap EvD.av:=List.take_of_length_le (by rw[Apa];exact Nat.le_refl _)
theorem Azj {N:Nat} {l raw ed:List Int} {x1 x2 x3 o1 o2 o3:Bool} {K:Bool→O R} (m:fit 1200000 N) (z:l.length≤9223372036854775807) (hr:raw.length≤9223372036854775807) :
  Kl N (Ao l) l.length x1 o1 (Ao raw) raw.length x2 o2 (Ao ed) ed.length x3 o3 K=K true:=by
 have hN:=m.1
 rw[Wu];unfold Nk
 obtain⟨t,A⟩:=Azi (R:=R) (N:=N) (b:=l.length) (c:=raw.length) (d:=Ao l) (g:=Ao raw) (e:=false) (f:=o1) (i:=false) (l:=o2)
 refine(A _).trans ?_
 refine A26 ?_ rfl
 by_cases q:((ed.length:Nat):Int)>16
 ·rw[decide_eq_true q];rfl
 rw[decide_eq_false q]
 show Gw N K (Ao l) l.length x1 o1 (Ao raw) raw.length x2 o2 (Ao ed) ed.length x3 o3=K true
 unfold Gw Ok
 obtain⟨c,g,C⟩:=pB (R:=R) (N:=N) (l:=l) (n:=l.length) (t:=false) (o:=o1) rfl (by omega) z
 have hs:=Akq (N:=N) (by omega) g
 have k:=Akr g
 obtain⟨x,j,D,F⟩:=Avh (R:=R) (N:=N) (c:=c) (raw:=raw) (i:=false) (s:=false) (d:=o2) (by omega) (A5s g) hs hr
 have y:=rD hs k x j
 obtain⟨t2,G,v⟩:=Apr (R:=R) (N:=N) (s:=X9 c x) (ed:=ed) (g:=false) (i:=o3) (by omega) (by omega) (by omega)
 rw[C,show((Nat.beq 0 0)&&((Nat.beq (List.length c.av) 8)&&(Nat.beq 8 8)))=true from rfl,ct,Fb,ct,Ce,F,ct,rE,Akx (by omega) hs k j (by omega),ct,Afd hs k m j (by omega),Apd m]
 refine Eq.trans (b:=Su N (x.flatMap EvD.av) x.length false true (List.take (x.length*4) (x.flatMap EvD.av)) x.length false true _) rfl ?_
 rw[rE,su (by omega) (by omega)]
 show Kk N K (Ao ed) ed.length x3 o3 (X9 c x) c.av=K true
 unfold Kk
 rw[Fb,ct,v,Ce,N9 hs k (by omega) m]
 obtain⟨I,L⟩:=sw (c:=c) (LW 10 t2) 1 [] (by simp) (by simp)
 by_cases u:(C8 c (LW 10 t2) 1 []).2.2=0
 ·obtain⟨ok,len⟩:=I u
  rw[show((C8 c (LW 10 t2) 1 []).2.2 != 0)=false by rw[u];rfl,cf,ct,rE,Akx (by omega) hs k ok len,ct,Afd hs k m ok len]
  rw[show(((0:Int)==0)==true)=true from rfl,ct,show((cond true ((0:Int)==0) false)==true)=true from rfl,ct,rE,su (by omega) (by omega)]
  rfl
 ·rw[show((C8 c (LW 10 t2) 1 []).2.2 != 0)=true by rw[bne_iff_ne];exact u,ct,L u]
  rfl
end
end Gx.Cf
