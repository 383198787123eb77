/- A part of the proof: what it holds is said by each theorem. -/
import Derived.Laws.BitsLemmas
import Derived.Laws.RangeAny
import Derived.Laws.RangeString
import Derived.Lib.AtoiAllCases
import Derived.Lib.IndexMore
import Derived.Test.YtjmfofdghmlldaaGreatDoorP3
set_option linter.unusedVariables false
set_option linter.defProp false
set_option linter.unusedSimpArgs false
namespace Gx
open Go Go.Proofs
section
variable {R:Type}
structure RatD where
 neg:Bool
 ns:LS
 ds:LS
def RatD.av (x:RatD):LA:=[.bool x.neg,x.ns.av,x.ds.av]
theorem Aqw (n:Bool) (s:LS):Nat.ble 2 (List.length (Tt n s))=true:=rfl
theorem A3r (n:Bool) (s:LS):List.take 2 (Tt n s)=Tt n s:=rfl
theorem A1z:([.int .u32 1]:LA)=As [1]:=rfl
theorem eX:Ba 1=[1]:=by rw[GN (by omega)];simp[G2]
theorem Ng {v:Nat} {S:List Nat} (b:Av S) (c:val S=v):List.take ((Ba v).length*1) (As S)=As (Ba v):=by rw[←c,Ay0 b]
theorem A22 (neg:Bool) (l:List Nat) (t o:Bool):([.bool neg,.imm (As l) l.length 1 t o]:LA)=Tt neg (.of l t o):=rfl
theorem nz {z:Int} {t o:Bool}:Ct (decide (z<0)) (.of (Ba z.natAbs) t o)=z:=by
 unfold Ct LS.l;rw[Aw]
 by_cases h:z<0
 ·rw[if_pos (by simpa using h)];omega
 ·rw[if_neg (by simpa using h)];omega
end
end Gx

namespace Gx
open Go Go.Proofs
section
variable {R:Type}
def I9 (z:Int):LA:=Tt (decide (z<0)) (.of (Ba z.natAbs) false false)
theorem Aw6 (z:Int) (K:LA→O R):(cond ((Nat.beq 0 0)&&((Nat.beq (List.length (I9 z)) 2)&&(Nat.beq 2 2))) (cond (Nat.ble 2 (List.length (I9 z))) (K (List.take 2 (I9 z))) none) none)=K (I9 z):=rfl
theorem A57 (z:Int):List.take 2 (I9 z)=I9 z:=rfl
theorem A5g (z:Int):Nat.ble 2 (List.length (I9 z))=true:=rfl
theorem A58 (z:Int):Nat.beq (List.length (I9 z)) 2=true:=rfl
theorem A4e (v:Nat):List.take ((Ba v).length*1) (As (Ba v))=As (Ba v):=Ng (Au _) (Aw v)
theorem W2 {N:Nat} {neg:Bool} {l:List Nat} {n:Nat} {t o:Bool} {K:LA→O R} (hn:n=l.length) (b:Av l) (d:fit l.length N):H7 N neg (As l) n t o K=K (I9 (if neg then -(val l:Int) else (val l:Int))):=by
 obtain⟨c1,e⟩:=DO (z:=if neg then -(val l:Int) else (val l:Int)) (c:=neg) (m:=val l) rfl
 rw[lB];unfold pi
 rw[Ei hn b d,A4e]
 unfold I9
 rw[←c1,e]
 cases neg
 ·rfl
 ·rw[show((true:Bool)==true)=true by rfl,ct,A39];simp[Tt,LS.av]
theorem i_ {N:Nat} {v:Int} {K:LA→O R} (c:-9223372036854775808≤v∧v≤9223372036854775807) (hN:2000≤N):Lq N v K=K (I9 v):=by
 have b:v.natAbs<18446744073709551616:=by omega
 have d:=vq b
 rw[SU];unfold P'
 by_cases h:v<0
 ·have e:IntKind.wrap .u64 (IntKind.wrap .u64 (IntKind.wrap .i64 ((0:Int) - IntKind.wrap .i64 (v+1)))+1)=(v.natAbs:Int):=by
   rw[i64 (a:=v+1) (by omega),i64 (by omega),um,um];omega
  rw[decide_eq_true h,ct,e,JJ b (by omega),A4e,W2 rfl (Au _) ⟨by omega,by omega⟩,Aw]
  have:(if true=true then -(v.natAbs:Int) else (v.natAbs:Int))=v:=by rw[if_pos rfl];omega
  rw[this];exact Aw6 _ _
 ·have e:IntKind.wrap .u64 v=(v.natAbs:Int):=by rw[um];omega
  rw[decide_eq_false h,cf,e,JJ b (by omega),A4e,W2 rfl (Au _) ⟨by omega,by omega⟩,Aw]
  have:(if false=true then -(v.natAbs:Int) else (v.natAbs:Int))=v:=by rw[if_neg (by decide)];omega
  rw[this];exact Aw6 _ _
theorem jo {N:Nat} {n:Bool} {s:LS} {o:Bool} {K:LA→O R} (hs:Av s.l) (b:fit s.l.length N):EK N (Tt n s) o K=K (I9 (Ct n s)):=by
 rw[lD];unfold pj
 rw[CX,OK,W2 rfl hs b];exact Aw6 _ _
theorem Avb {N:Nat} {n:Bool} {s:LS} {o:Bool} {K:Int→O R} (hs:Av s.l) (b:fit s.l.length N):YK N (Tt n s) o K=K (Ct n s).sign:=by
 rw[lF];unfold pk
 rw[Aqw,ct,A3r,jo hs b,A58,show((true&&(true&&(!false))))=true by rfl,ct]
 have e:setCells (Tt n s) 0 (I9 (Ct n s))=I9 (Ct n s):=rfl
 rw[e]
 generalize Ct n s=z
 unfold I9
 rw[CX]
 rcases Int.lt_trichotomy z 0 with h | h | h
 ·rw[decide_eq_true h,ct,Int.sign_eq_neg_one_of_neg h]
 ·subst h;rfl
 ·rw[decide_eq_false (by omega),cf,OK]
  have:(Ba z.natAbs).length≠0:=fun c=>by have:=Eb.1 c;omega
  simp only[LS.l]
  rw[A3q this,cf,Int.sign_eq_one_of_pos h]
theorem Aza {N:Nat} {n1 n2:Bool} {s1 s2:LS} {o1 o2:Bool} {K:LA→O R} (b:Av s1.l) (c:Av s2.l) (d:fit (3*(s1.l.length+s2.l.length)+4) N):lU N (Tt n1 s1) o1 (Tt n2 s2) o2 K=K (I9 ((Nat.gcd (Ct n1 s1).natAbs (Ct n2 s2).natAbs:Nat):Int)):=by
 have e:(Ba (Nat.gcd (val s1.l) (val s2.l))).length≤s1.l.length+s2.l.length:=by
  rcases Nat.eq_zero_or_pos (val s1.l) with h | h
  ·rw[h,Nat.gcd_zero_left];have:=(Ds c).2;omega
  ·have:=F6 (Nat.gcd_le_left (val s2.l) h);have:=(Ds b).2;omega
 rw[rs];unfold xu
 rw[OK,OK,Ay7 rfl rfl b c d,A4e,W2 rfl (Au _) (d.le (by omega)),Aw,Tn,Tn];exact Aw6 _ _
theorem cG {N:Nat} {n1:Bool} {s1:LS} {g:Nat} {o1 o2:Bool} {K:LA→LA→Bool→O R} (e:Av s1.l) (j:0<g) (i:g∣val s1.l) (d:fit (s1.l.length+2*(Ba g).length+4) N):Wc N (Tt n1 s1) o1 (I9 (g:Int)) o2 K=K (I9 (Ct n1 s1/(g:Int))) (I9 0) true:=by
 have b:I9 (g:Int)=Tt false (.of (Ba g) false false):=by
  unfold I9;rw[decide_eq_false (by omega),Int.natAbs_natCast]
 have hq:(Ba (val s1.l/g)).length≤s1.l.length:=Nat.le_trans (F6 (Nat.div_le_self _ _)) (Ds e).2
 rw[b,YV];unfold YU
 rw[OK,OK,show(LS.of (Ba g) false false).l=Ba g by rfl]
 rw[RY rfl rfl e (Au _) (by rw[Aw];omega) d,Aw,Nat.mod_eq_zero_of_dvd i,show(!true)=false by rfl,cf,CX,CX,A4e,W2 rfl (Au _) (d.le (by omega)),CX,A4e,W2 rfl (Au _) (d.le (by simp[G2])),Aw,Aw]
 have k:(if n1=true then -((0:Nat):Int) else ((0:Nat):Int))=0:=by cases n1<;>rfl
 have e1:(if (!(n1==false))=true then -((val s1.l/g:Nat):Int) else ((val s1.l/g:Nat):Int))=Ct n1 s1/(g:Int):=by
  obtain⟨c,b⟩:=i
  have m:val s1.l/g=c:=by rw[b,Nat.mul_div_cancel_left _ j]
  rw[m];unfold Ct;rw[b]
  cases n1
  ·simp;rw[Int.mul_ediv_cancel_left _ (by omega)]
  ·simp only[Bool.true_beq,Bool.not_false,if_true]
   rw[show -((g*c:Nat):Int)=(g:Int)*(-(c:Int)) by rw[Int.mul_neg];simp,Int.mul_ediv_cancel_left _ (by omega)]
 rw[k,e1]
 generalize Ct n1 s1/(g:Int)=q
 have n:∀ (f:Bool→O R),XY (I9 0) f=f false:=fun f=>CX
 rw[show((Nat.beq 0 0)&&((Nat.beq (List.length (I9 q)) 2)&&(Nat.beq 2 2)))=true by rfl,ct,show((Nat.beq 0 0)&&((Nat.beq (List.length (I9 0)) 2)&&(Nat.beq 2 2)))=true by rfl,ct,n,cf]
 rfl
end
end Gx

namespace Gx
open Go Go.Proofs
section
variable {R:Type}
def A6i (q:Rat):RatD:=⟨decide (q.num<0),.of (Ba q.num.natAbs) false false,.of (Ba q.den) false false⟩
def cq (q:Rat):LA:=(A6i q).av
theorem A3s (q:Rat) (K:LA→O R):(cond ((Nat.beq 0 0)&&((Nat.beq (List.length (cq q)) 3)&&(Nat.beq 3 3))) (cond (Nat.ble 3 (List.length (cq q))) (K (List.take 3 (cq q))) none) none)=K (cq q):=rfl
theorem A23:cq 0=[(.bool false),(.imm [] 0 1 false false),(.imm [(.int .u32 1)] 1 1 false false)]:=by
 have e:cq 0=[.bool false,.imm (As (Ba 0)) (Ba 0).length 1 false false,.imm (As (Ba 1)) (Ba 1).length 1 false false]:=rfl
 rw[e,eX];rfl
theorem jq {N:Nat} {K:LA→O R}:Yj N K=K (cq 0):=by
 rw[lH];unfold pm
 rw[A23]
theorem A10 (z:Int):mkRat z 1=(z:Rat):=by
 apply Rat.ext
 ·rw[Rat.num_mkRat,if_neg (by decide),Nat.gcd_one_left];simp
 ·rw[Rat.den_mkRat,if_neg (by decide),Nat.gcd_one_left];simp
theorem A24 (z:Int) (w:Nat) (b:w≠0):(mkRat z w).num=z/((Nat.gcd z.natAbs w:Nat):Int)∧(mkRat z w).den=w/Nat.gcd z.natAbs w:=by
 refine⟨?_,?_⟩
 ·rw[Rat.num_mkRat,if_neg b,Nat.gcd_comm w]
 ·rw[Rat.den_mkRat,if_neg b,Nat.gcd_comm w]
theorem Aqx {N:Nat} {n1 n2:Bool} {s1 s2:LS} {o1 o2:Bool} {K:LA→O R} (n:Av s1.l) (i:Av s2.l) (x:0≤Ct n2 s2) (d:fit (4*(s1.l.length+s2.l.length)+10) N):EP N (Tt n1 s1) o1 (Tt n2 s2) o2 K=K (cq (mkRat (Ct n1 s1) (Ct n2 s2).natAbs)):=by
 have e:=Tn n2 s2
 have j:=Tn n1 s1
 rw[lV];unfold d8
 rw[Aqw,ct,A3r,Avb i (d.le (by omega))]
 by_cases h0:Ct n2 s2=0
 ·rw[h0,show((0:Int).sign==0)=true by rfl,ct,jq]
  rw[show(0:Int).natAbs=0 by rfl,Rat.mkRat_zero];exact A3s _ _
 ·have y:(Ct n2 s2).natAbs≠0:=by omega
  have q:((Ct n2 s2).sign==0)=false:=by rw[Int.sign_eq_one_of_pos (by omega)];rfl
  rw[q,cf,ct,jo i (d.le (by omega)),show((Nat.beq 0 0)&&((Nat.beq (List.length (I9 (Ct n2 s2))) 2)&&(Nat.beq 2 2)))=true by rfl,ct]
  have rb:∀ (z:Int) (f:Bool→O R),XY (I9 z) f=f (decide (z<0)):=fun z f=>CX
  have rl:∀ (z:Int) (f:LA→Nat→O R),Bw 1 (List.drop 1 (I9 z)) f=f (As (Ba z.natAbs)) (Ba z.natAbs).length:=fun z f=>OK
  have l2:=(Ds i).2
  have l1:=(Ds n).2
  rw[rb,decide_eq_false (by omega),show((!false)==true)=true by rfl,ct,rl,A1z,A1x (a:=Ba (Ct n2 s2).natAbs) (b:=[1]) (m:=1) rfl rfl (d.le (by rw[e];omega)),A39]
  by_cases c:(Ct n2 s2).natAbs=1
  ·rw[c,eX,show decide (([1]:List Nat)=[1])=true by decide,ct,Aqw,ct,A3r,jo n (d.le (by omega)),rl,c,eX]
   rw[A10]
   have A:cq ((Ct n1 s1:Int):Rat)=[.bool (decide (Ct n1 s1<0)),.imm (As (Ba (Ct n1 s1).natAbs)) (Ba (Ct n1 s1).natAbs).length 1 false false,.imm (As [1]) 1 1 false false]:=by
    unfold cq A6i RatD.av LS.av
    rw[Rat.num_intCast,Rat.den_intCast,eX];rfl
   rw[A];rfl
  ·have s:decide (Ba (Ct n2 s2).natAbs=[1])=false:=by
    rw[decide_eq_false_iff_not];intro C
    have:=congrArg val C
    rw[Aw] at this;simp[val] at this;omega
   rw[s,cf]
   unfold HD
   have k:0<Nat.gcd (Ct n1 s1).natAbs (Ct n2 s2).natAbs:=Nat.gcd_pos_of_pos_right _ (by omega)
   have D:(Ba (Nat.gcd (Ct n1 s1).natAbs (Ct n2 s2).natAbs)).length≤s2.l.length:=Nat.le_trans (F6 (Nat.gcd_le_right _ (by omega))) (by rw[e];exact l2)
   have t:Nat.gcd (Ct n1 s1).natAbs (Ct n2 s2).natAbs∣val s1.l:=by rw[←j];exact Nat.gcd_dvd_left _ _
   have u:Nat.gcd (Ct n1 s1).natAbs (Ct n2 s2).natAbs∣val s2.l:=by rw[←e];exact Nat.gcd_dvd_right _ _
   obtain⟨F,G⟩:=A24 (Ct n1 s1) (Ct n2 s2).natAbs y
   rw[Aqw,ct,Aqw,ct,A3r,A3r,Aza n i (d.le (by omega))]
   generalize I:Nat.gcd (Ct n1 s1).natAbs (Ct n2 s2).natAbs=g at *
   rw[show((Nat.beq 0 0)&&((Nat.beq (List.length (I9 (g:Int))) 2)&&(Nat.beq 2 2)))=true by rfl,ct,ct,show Nat.ble 2 (List.length (I9 (g:Int)))=true by rfl,ct,A57,cG n k t (d.le (by omega))]
   rw[show ∀ z:Int,((Nat.beq 0 0)&&((Nat.beq (List.length (I9 z)) 2)&&(Nat.beq 2 2)))=true from fun z=>rfl,ct,show((Nat.beq 0 0)&&((Nat.beq (List.length (I9 0)) 2)&&(Nat.beq 2 2)))=true by rfl,ct,ct,cG i k u (d.le (by omega))]
   have v:Ct n2 s2/(g:Int)=(((Ct n2 s2).natAbs/g:Nat):Int):=by
    rw[show Ct n2 s2=(((Ct n2 s2).natAbs:Nat):Int) by omega];rfl
   rw[show ∀ z:Int,((Nat.beq 0 0)&&((Nat.beq (List.length (I9 z)) 2)&&(Nat.beq 2 2)))=true from fun z=>rfl,ct,ct,rb,v,decide_eq_false (by omega),cf,show ∀ z:Int,Nat.ble 2 (List.length (I9 z))=true from fun z=>rfl,ct,rl,Int.natAbs_natCast,←G]
   rw[←F];rfl
theorem A5h {N:Nat} {z w:Int} {o o':Bool} {K:LA→O R} (b:0≤w) (c:fit (4*((Ba z.natAbs).length+(Ba w.natAbs).length)+10) N):EP N (I9 z) o (I9 w) o' K=K (cq (mkRat z w.natAbs)):=by
 have:=Aqx (R:=R) (N:=N) (n1:=decide (z<0)) (s1:=.of (Ba z.natAbs) false false) (n2:=decide (w<0)) (s2:=.of (Ba w.natAbs) false false) (o1:=o) (o2:=o') (K:=K) (Au _) (Au _) (by rw[nz];exact b) c
 rw[nz,nz] at this;exact this
theorem Aa1 {N:Nat} {v:Int} {K:LA→O R} (b:-9223372036854775808≤v∧v≤9223372036854775807) (hN:4000≤N):Ym N v K=K (cq (v:Rat)):=by
 have c:=vq (show v.natAbs<18446744073709551616 by omega)
 rw[SZ];unfold QD
 rw[i_ b (by omega),i_ (by omega) (by omega),A5h (by omega) ⟨show 100*(4*((Ba v.natAbs).length+(Ba (1:Int).natAbs).length)+10)+1000≤N by (rw[show(1:Int).natAbs=1 by rfl,eX];simp;omega),show 4*((Ba v.natAbs).length+(Ba (1:Int).natAbs).length)+10≤1000000000 by (rw[show(1:Int).natAbs=1 by rfl,eX];simp;omega)⟩]
 have:mkRat v (1:Int).natAbs=(v:Rat):=A10 v
 rw[this];exact A3s _ _
end
end Gx

namespace Gx
open Go Go.Proofs
section
variable {R:Type}
theorem Azb {N:Nat} {n1:Bool} {s1:LS} {o1:Bool} {K:Bool→Nat→LA→O R} (b:Av s1.l) (d:fit s1.l.length N):xI N (Tt n1 s1) o1 K=K (decide (-Ct n1 s1<0)) (Ba (Ct n1 s1).natAbs).length (As (Ba (Ct n1 s1).natAbs)):=by
 obtain⟨c1,e⟩:=DO (z:=-Ct n1 s1) (c:=!n1) (m:=val s1.l) (by unfold Ct;cases n1<;>simp)
 rw[xJ];unfold Aiu
 rw[CX,OK,Ay2 rfl b d,Ps,c1,Tn]
theorem A5i {A:Nat} (h:A≤9223372036854775808):cond true (decide ((A:Int)≤9223372036854775808)) false=true:=by
 rw[cond_true];exact decide_eq_true (by omega)
theorem A5j {A:Nat} (h:A<9223372036854775808):cond true (decide ((A:Int)<9223372036854775808)) false=true:=by
 rw[cond_true];exact decide_eq_true (by omega)
theorem A4f {A:Nat} (h:A≤9223372036854775808):IntKind.wrap .i64 (IntKind.wrap .u64 ((0:Int) - (A:Int)))=-(A:Int):=by
 rw[um,IntKind.wrap_i64];omega
theorem Aqy {N:Nat} {n1:Bool} {s1:LS} {o1:Bool} {K:Int→Bool→O R} (c:Av s1.l) (d:fit s1.l.length N) (b:-9223372036854775808≤Ct n1 s1∧Ct n1 s1≤9223372036854775807):Yl N (Tt n1 s1) o1 K=K (Ct n1 s1) true:=by
 have hn:=Tn n1 s1
 rw[QC];unfold MB
 rw[OK,tk rfl c d,if_pos (by omega),show(!true)=false by rfl,cf,CX]
 cases n1
 ·have e:Ct false s1=(val s1.l:Int):=rfl
  rw[e] at b ⊢
  rw[show(false==true)=false by rfl,cf]
  dsimp only
  unfold Ov
  rw[cf,CX,show((!false)==true)=true by rfl,ct,A5j (by omega),ct,i64 (by omega)]
 ·have e:Ct true s1=-(val s1.l:Int):=rfl
  rw[e] at b ⊢
  rw[show(true==true)=true by rfl,ct,A5i (by omega)]
  dsimp only
  unfold Ov
  rw[ct,A4f (by omega)]
end
end Gx

namespace Gx
open Go Go.Proofs
section
variable {R:Type}
theorem A6j (z:Int):((Nat.beq 0 0)&&((Nat.beq (List.length (I9 z)) 2)&&(Nat.beq 2 2)))=true:=rfl
end
end Gx

namespace Gx
open Go Go.Proofs
section
variable {R:Type}
theorem ia {N:Nat} {b:List UInt8} {c:UInt8} {K:List UInt8→Bool→O R}:E2 N (c::b) [c] K=K b true:=by
 rw[Nv];unfold L4
 rw[Eh];unfold Dk
 rw[Eg];unfold Dj
 have d:((decide ((((c::b).length:Nat):Int)≥((([c]:List UInt8).length:Nat):Int)))==true)=true:=by simp;omega
 have e:((decide ((0:Int)≤(0:Int)))&&((decide ((0:Int)≤((([c]:List UInt8).length:Nat):Int)))&&((decide (((([c]:List UInt8).length:Nat):Int)≤(((c::b).length:Nat):Int)))&&(decide ((((c::b).length:Nat):Int)≤(((c::b).length:Nat):Int))))))=true:=by simp;omega
 have f:((decide ((0:Int)≤((([c]:List UInt8).length:Nat):Int)))&&((decide (((([c]:List UInt8).length:Nat):Int)≤(((c::b).length:Nat):Int)))&&((decide ((((c::b).length:Nat):Int)≤(((c::b).length:Nat):Int)))&&(decide ((((c::b).length:Nat):Int)≤(((c::b).length:Nat):Int))))))=true:=by simp;omega
 rw[d,ct,e,ct,show cond true ((List.take ([c]:List UInt8).length (c::b))==[c]) false=true by simp]
 dsimp only
 rw[show(!true)=false by rfl,cf,f,ct]
 simp
theorem cH {N:Nat} {b:List UInt8} {c:UInt8} {K:List UInt8→Bool→O R} (h:b.head?≠some c):E2 N b [c] K=K b false:=by
 rw[Nv];unfold L4
 rw[Eh];unfold Dk
 rw[Eg];unfold Dj
 cases b with
 | nil=>rfl
 | cons d r =>
  have e:d≠c:=by simpa using h
  have f:((decide ((((d::r).length:Nat):Int)≥((([c]:List UInt8).length:Nat):Int)))==true)=true:=by simp;omega
  have i:((decide ((0:Int)≤(0:Int)))&&((decide ((0:Int)≤((([c]:List UInt8).length:Nat):Int)))&&((decide (((([c]:List UInt8).length:Nat):Int)≤(((d::r).length:Nat):Int)))&&(decide ((((d::r).length:Nat):Int)≤(((d::r).length:Nat):Int))))))=true:=by simp;omega
  rw[f,ct,i,ct,show cond true ((List.take ([c]:List UInt8).length (d::r))==[c]) false=false by simp[e]]
  rfl
theorem Aa2 {s:List UInt8} {p:Nat} (h:p<s.length) (b:s[p].toNat<128):K' s (p:Int)=(s[p].toNat,1):=by
 unfold K'
 rw[Int.toNat_natCast]
 exact decode_ascii ⟨⟨s⟩⟩ p h b
theorem Azc {s:List UInt8} {p:Nat} (h:p<s.length) (b:128≤s[p].toNat):128≤(K' s (p:Int)).1:=by
 unfold K'
 rw[Int.toNat_natCast]
 exact(decode_high ⟨⟨s⟩⟩ p h b).1
theorem Aec {N:Nat} {s:List UInt8} {K:Bool→O R} (hs:s≠[]):∀ (m p fuel:Nat),p≤s.length→s.length - p=m→m<fuel→Ib N K s fuel (p:Int)=K ((s.drop p).all F3):=by
 intro m
 induction m with
 | zero =>
  intro p fuel c d e
  cases fuel with
  | zero=>omega
  | succ fuel =>
   rw[Ib];unfold R3
   rw[Iu (by omega),cf,List.drop_eq_nil_of_le (by omega),show(!(s==([]:List UInt8)))=true by simp[hs]]
   rfl
 | succ m f =>
  intro p fuel c d e
  cases fuel with
  | zero=>omega
  | succ fuel =>
   have b:p<s.length:=by omega
   rw[Ib];unfold R3
   rw[Hh b,ct,List.drop_eq_getElem_cons b,List.all_cons]
   by_cases i:s[p].toNat<128
   ·rw[Aa2 b i]
    simp only
    by_cases j:s[p].toNat<48
    ·rw[show(decide (((s[p].toNat:Nat):Int)<48)==false)=false by simp;omega,cf]
     have:F3 s[p]=false:=by simp[F3];omega
     rw[this];rfl
    ·rw[show(decide (((s[p].toNat:Nat):Int)<48)==false)=true by simp;omega,ct]
     by_cases k:s[p].toNat>57
     ·rw[show cond false true (decide (((s[p].toNat:Nat):Int)>57))=true by simp;omega,ct]
      have:F3 s[p]=false:=by simp[F3];omega
      rw[this];rfl
     ·rw[show cond false true (decide (((s[p].toNat:Nat):Int)>57))=false by simp;omega,cf]
      have:F3 s[p]=true:=by simp[F3];omega
      rw[this,Bool.true_and,show((p:Int)+((1:Nat):Int))=((p+1:Nat):Int) by omega]
      exact f (p+1) fuel (by omega) (by omega) (by omega)
   ·have l:=Azc b (by omega)
    have:F3 s[p]=false:=by simp[F3];omega
    rw[this,show(decide ((((K' s (p:Int)).1:Nat):Int)<48)==false)=true by simp;omega,ct,show cond false true (decide ((((K' s (p:Int)).1:Nat):Int)>57))=true by simp;omega,ct]
    rfl
theorem Aed {N:Nat} {s:List UInt8} {K:Bool→O R} (b:s.length<N):S8 N s K=K (Au7 s):=by
 rw[TB];unfold B_
 cases s with
 | nil =>
  obtain⟨n,rfl⟩:∃ n,N=n+1:=⟨N - 1,by simp at b;omega⟩
  rfl
 | cons c r =>
  have:=Aec (R:=R) (N:=N) (s:=c::r) (K:=K) (by simp) (c::r).length 0 N (by omega) (by omega) b
  refine Eq.trans this ?_
  congr 1
  simp[Au7]
theorem oA {N:Nat} {s:List UInt8} {K:Bool→O R} (f:s.length<N):ER N s K=K (W1 s):=by
 rw[ZD];unfold ZC
 rw[Aed f]
 by_cases b:Au7 s=true
 ·rw[b,show(true==true)=true by rfl,ct]
  unfold W1
  rw[b,Bool.true_and]
  by_cases h0:s=[48]
  ·subst h0;rfl
  ·have i:(s==[48])=false:=by simpa using h0
   rw[i,show(false==false)=true by rfl,ct,Bool.false_or]
   cases s with
   | nil=>simp[Au7] at b
   | cons c r =>
    rw[show Ah 0 (c::r).length=true by unfold Ah;simp,ct]
    congr 1
    simp only[cond_true,cond_false,List.getD_cons_zero,List.head?_cons]
    by_cases d:c=48
    ·subst d;rfl
    ·have:(((c.toNat:Nat):Int) != 48)=true:=by
      rw[bne_iff_ne];intro e
      apply d;apply UInt8.toNat_inj.1
      have:c.toNat=48:=by omega
      rw[this];rfl
     rw[this]
     have j:((some c:Option UInt8) != some 48)=true:=by rw[bne_iff_ne];simpa using d
     rw[j]
 ·have b:Au7 s=false:=by simpa using b
  rw[b,show(false==true)=false by rfl,cf]
  unfold W1
  rw[b];rfl
def vV (s:List UInt8):Bool:=match s with
 | 45::r=>W1 r&&!(r==[48])
 | s=>W1 s
theorem ib {N:Nat} {s:List UInt8} {K:Bool→O R} (b:s.length<N):Ys N s K=K (vV s):=by
 rw[TD];unfold QE
 by_cases h:s.head?=some 45
 ·obtain⟨r,rfl⟩:∃ r,s=45::r:=by
   cases s with
   | nil=>simp at h
   | cons c r=>simp at h;exact⟨r,by rw[h]⟩
  rw[ia,oA (by simp at b;omega)]
  show _=K (W1 r&&!(r==[48]))
  cases W1 r
  ·rfl
  ·rw[Bool.true_and];cases r==[48]<;>rfl
 ·rw[cH h,oA b]
  have:vV s=W1 s:=by
   unfold vV
   split
   ·simp at h
   ·rfl
  rw[this]
  cases W1 s<;>rfl
def Aee (s:List UInt8):Nat:=s.countP F3
theorem Ak0 {N:Nat} {s:List UInt8} {K:Bool→O R} (hs:∀ c ∈ s,c.toNat<128) (n:s.length≤1000000000000):∀ (m p d fuel:Nat),p≤s.length→s.length - p=m→m<fuel→d≤p→Kd N K s fuel (d:Int) (p:Int)=K (decide (4096<d+Aee (s.drop p))):=by
 intro m
 induction m with
 | zero =>
  intro p d fuel f i j k
  cases fuel with
  | zero=>omega
  | succ fuel =>
   rw[Kd];unfold T7
   rw[Iu (by omega),cf,List.drop_eq_nil_of_le (by omega)]
   congr 1
   rw[decide_eq_decide];simp[Aee];omega
 | succ m e =>
  intro p d fuel f i j k
  cases fuel with
  | zero=>omega
  | succ fuel =>
   have b:p<s.length:=by omega
   have l:s[p].toNat<128:=hs _ (List.getElem_mem b)
   rw[Kd];unfold T7
   rw[Hh b,ct,List.drop_eq_getElem_cons b,Aa2 b l]
   simp only
   rw[show((p:Int)+((1:Nat):Int))=((p+1:Nat):Int) by omega]
   have hn:Aee (s[p]::s.drop (p+1))=Aee (s.drop (p+1))+(if F3 s[p] then 1 else 0):=by unfold Aee;rw[List.countP_cons]
   rw[hn]
   by_cases q:48≤s[p].toNat
   ·rw[show(decide (((s[p].toNat:Nat):Int)≥48)==true)=true by simp;omega,ct]
    by_cases t:s[p].toNat≤57
    ·rw[show cond true (decide (((s[p].toNat:Nat):Int)≤57)) false=true by simp;omega,ct,wS (by omega),e (p+1) (d+1) fuel (by omega) (by omega) (by omega) (by omega)]
     have:F3 s[p]=true:=by simp[F3];omega
     rw[this,if_pos rfl]
     congr 1;rw[decide_eq_decide];omega
    ·rw[show cond true (decide (((s[p].toNat:Nat):Int)≤57)) false=false by simp;omega,cf,e (p+1) d fuel (by omega) (by omega) (by omega) (by omega)]
     have:F3 s[p]=false:=by simp[F3];omega
     rw[this];rfl
   ·rw[show(decide (((s[p].toNat:Nat):Int)≥48)==true)=false by simp;omega,cf,e (p+1) d fuel (by omega) (by omega) (by omega) (by omega)]
    have:F3 s[p]=false:=by simp[F3];omega
    rw[this];rfl
theorem Ak1 {N:Nat} {s:List UInt8} {K:Bool→O R} (hs:∀ c ∈ s,c.toNat<128) (b:s.length≤1000000000000) (d:s.length<N):Wd N s K=K (decide (4096<Aee s)):=by
 rw[ZI];unfold HH
 have:=Ak0 (R:=R) (N:=N) (K:=K) hs b s.length 0 0 N (by omega) (by omega) d (by omega)
 simpa using this
end
end Gx

namespace Gx
open Go Go.Proofs
section
variable {R:Type}
theorem A11 (m:Nat):(Int.tmod (m:Int) 2==1)=decide (m%2=1):=by
 rw[show Int.tmod (m:Int) 2=((m%2:Nat):Int) by rfl]
 rw[Bool.eq_iff_iff];simp;omega
theorem A12 {m:Nat} (h:m≤1000000000000):IntKind.wrap .i64 (Int.tdiv (m:Int) 2)=((m/2:Nat):Int):=by
 rw[show Int.tdiv (m:Int) 2=((m/2:Nat):Int) by rfl,i64 (by omega)]
theorem Aw7 (n:Bool) (s:LS) (x y:AV):Cy (Tt n s) 0 [x,y]=[x,y]:=rfl
theorem A5k (s:LS):Ct false s=(val s.l:Int):=rfl
theorem A13 {N:Nat} {s1 s2:LS} {o1 o2:Bool} (b:Av s1.l) (c:Av s2.l) (d:fit (s1.l.length+s2.l.length) N):∃ S,Av S∧val S=val s1.l*val s2.l∧∀ K:Bool→Nat→LA→O R,PY N (Tt false s1) o1 (Tt false s2) o2 K=K false (Ba (val s1.l*val s2.l)).length (As S):=by
 obtain⟨S,a1,a2,a3⟩:=Ay8 (R:=R) (N:=N) (n1:=false) (n2:=false) (o1:=o1) (o2:=o2) b c d
 rw[A5k,A5k,←Int.natCast_mul] at a2 a3
 rw[Int.natAbs_natCast] at a2 a3
 refine⟨S,a1,a2,fun K=>?_⟩
 rw[a3,decide_eq_false (by omega)]
theorem jr {P Q m j:Nat} (hP:1≤P) (hQ:1≤Q) (b:j≤m):P ^ j≤Q*P ^ m:=by
 have c:P ^ j≤P ^ m:=Nat.pow_le_pow_right hP b
 have d:1*P ^ m≤Q*P ^ m:=Nat.mul_le_mul_right _ hQ
 omega
theorem Avc {N k:Nat} (C:fit (2*k+4) N):∀ (fuel m P Q:Nat) (c:Bool) (s:LS) (S:List Nat),m<fuel→m≤1000000000→1≤P→1≤Q→Q*P ^ m<4294967296 ^ k→Av s.l→val s.l=P→s.l.length≤k+1→Av S→val S=Q →
  ∃ S',Av S'∧val S'=Q*P ^ m∧∀ K:Bool→Nat→LA→O R,Jj N K fuel (m:Int) c (Tt false s) false (Ba Q).length (As S)=K false (Ba (Q*P ^ m)).length (As S'):=by
 intro fuel
 induction fuel with
 | zero=>intro m P Q c s S h;omega
 | succ fuel q =>
  intro m P Q c s S I F hP hQ d hs v x hS hSv
  rcases Nat.eq_zero_or_pos m with h0 | h0
  ·subst h0
   refine⟨S,hS,by simp[hSv],fun K=>?_⟩
   rw[Jj];unfold Qb
   rw[show decide (((0:Nat):Int)>0)=false by decide,cf,Nat.pow_zero,Nat.mul_one]
  ·have lQ:(Ba Q).length≤k:=JU (Nat.lt_of_le_of_lt (Nat.le_mul_of_pos_right Q (Nat.pow_pos hP)) d)
   have hPm:P ^ 1≤Q*P ^ m:=jr hP hQ h0
   obtain⟨S1,a1,a2,a3⟩:=A13 (R:=R) (N:=N) (s1:=.of (Ba Q) false true) (s2:=s) (o1:=true) (o2:=c) (Au _) hs (C.le (show(Ba Q).length+s.l.length≤_ by omega))
   have vQ:val (LS.of (Ba Q) false true).l=Q:=Aw Q
   rw[vQ,v] at a2 a3
   obtain⟨S2,D,y,z⟩:=A13 (R:=R) (N:=N) (s1:=s) (s2:=s) (o1:=c) (o2:=c) hs hs (C.le (show s.l.length+s.l.length≤_ by omega))
   rw[v] at y z
   have sq:∀ n t:Nat,(P*P) ^ n=P ^ (2*n):=fun n t=>by rw[←Nat.pow_two,←Nat.pow_mul]
   have gt0:decide (((m:Nat):Int)>0)=true:=by simp;omega
   have cell:∀ (t:Nat) (u:List Nat),([.bool false,.imm (List.take ((Ba t).length*1) (As u)) (Ba t).length 1 false false]:LA)=[.bool false,.imm (List.take ((Ba t).length*1) (As u)) (Ba t).length 1 false false]:=fun _ _=>rfl
   by_cases b:m%2=1
   ·by_cases G:1<m
    ·have e:Q*P ^ m=(Q*P)*(P*P) ^ (m/2):=by
      rw[sq _ 0,Nat.mul_assoc,←Nat.pow_succ']
      congr 2;omega
     have l2:(Ba (P*P)).length≤k:=JU (Nat.lt_of_le_of_lt (by have:=jr (j:=2) hP hQ (show 2≤m by omega);rwa [Nat.pow_two] at this) d)
     obtain⟨S',c1,f,i⟩:=q (m/2) (P*P) (Q*P) (c||false) (.of (Ba (P*P)) false false) S1 (by omega) (by omega) (Nat.mul_pos hP hP) (Nat.mul_pos hQ hP) (by rw[←e];exact d) (Au _) (Aw _) (by show(Ba (P*P)).length≤_;omega) a1 a2
     refine⟨S',c1,by rw[f,e],fun K=>?_⟩
     rw[Jj];unfold Qb
     rw[gt0,ct,A11,decide_eq_true b,ct,Aqw,ct,A3r,Ng hS hSv,A22,a3,show decide (((m:Nat):Int)>1)=true by simp;omega,ct,ct,ct,z,show((Nat.beq 2 2)&&(true&&(!false)))=true by rfl,ct,A12 (by omega),Aw7,Ng D y,A22,i,e]
    ·have A:m=1:=by omega
     subst A
     obtain⟨S',c1,f,i⟩:=q 0 P (Q*P) c s S1 (by omega) (by omega) hP (Nat.mul_pos hQ hP) (by simpa using d) hs v x a1 a2
     rw[Nat.pow_zero,Nat.mul_one] at f i
     refine⟨S',c1,by rw[f,Nat.pow_one],fun K=>?_⟩
     rw[Jj];unfold Qb
     rw[gt0,ct,A11,decide_eq_true b,ct,Aqw,ct,A3r,Ng hS hSv,A22,a3,show decide (((1:Nat):Int)>1)=false by decide,cf,A12 (by omega),i,Nat.pow_one]
   ·have G:1<m:=by omega
    have e:Q*P ^ m=Q*(P*P) ^ (m/2):=by
     rw[sq _ 0];congr 2;omega
    have l2:(Ba (P*P)).length≤k:=JU (Nat.lt_of_le_of_lt (by have:=jr (j:=2) hP hQ (show 2≤m by omega);rwa [Nat.pow_two] at this) d)
    obtain⟨S',c1,f,i⟩:=q (m/2) (P*P) Q (c||false) (.of (Ba (P*P)) false false) S (by omega) (by omega) (Nat.mul_pos hP hP) hQ (by rw[←e];exact d) (Au _) (Aw _) (by show(Ba (P*P)).length≤_;omega) hS hSv
    refine⟨S',c1,by rw[f,e],fun K=>?_⟩
    rw[Jj];unfold Qb
    rw[gt0,ct,A11,decide_eq_false b,cf,show decide (((m:Nat):Int)>1)=true by simp;omega,ct,Aqw,ct,ct,A3r,z,show((Nat.beq 2 2)&&(true&&(!false)))=true by rfl,ct,A12 (by omega),Aw7,Ng D y,A22,i,e]
theorem A25:Ba 10=[10]:=by rw[GN (by omega)];simp[G2]
theorem A14 (n:Nat):10 ^ n<4294967296 ^ (n+1):=by
 have b:10 ^ n≤4294967296 ^ n:=Nat.pow_le_pow_left (by omega) n
 have c:4294967296 ^ n<4294967296 ^ (n+1):=Nat.pow_lt_pow_right (by omega) (by omega)
 omega
theorem Azd {N n:Nat} (b:fit (2*n+6) N):∃ S,Av S∧val S=10 ^ n∧∀ (K:Bool→Nat→LA→O R),(L1 N 10 fun g e i=>MD N [(.bool g),(.imm (i.take (e*1)) e 1 false true)] true (n:Int) K)=K false (Ba (10 ^ n)).length (As S):=by
 have q:=b.1;have s:=b.2
 obtain⟨S0,a1,a2,a3⟩:=Yb (R:=R) (N:=N) (v:=1) (by omega) (by omega)
 obtain⟨S1,f,j,m⟩:=Yb (R:=R) (N:=N) (v:=10) (by omega) (by omega)
 obtain⟨S',c1,c,d⟩:=Avc (R:=R) (N:=N) (k:=n+1) (b.le (by omega)) N n 10 1 true (.of (Ba 10) false true) S0 (by omega) (by omega) (by omega) (by omega) (by rw[Nat.one_mul];exact A14 n) (Au _) (Aw _) (by rw[A25];simp[LS.l]) a1 a2
 rw[Nat.one_mul] at c d
 refine⟨S',c1,c,fun K=>?_⟩
 rw[m,lY];unfold d9
 rw[a3]
 refine Eq.trans ?_ (d K)
 rw[show(10:Int).natAbs=10 by rfl,show(1:Int).natAbs=1 by rfl] at *
 rw[Ng f j]
 rfl
end
end Gx

namespace Gx
open Go Go.Proofs
section
variable {R:Type}
theorem A59:(Ba (10 ^ 9)).length≤1:=JU (by decide)
theorem OL (v:Nat) (a b:Bool):Av (LS.of (Ba v) a b).l:=Au v
end
end Gx

namespace Gx
open Go Go.Proofs
section
variable {R:Type}
theorem A5l {a b:Nat} (h:a≤b):Nat.ble a b=true:=by simpa using h
end
end Gx

namespace Gx
open Go Go.Proofs Go.RowKit
noncomputable section
variable {R:Type} (N:Nat)
def KQ (s t:List UInt8):List (List UInt8):=(Lib.splitB ⟨⟨t⟩⟩ 0 (Lib.countB ⟨⟨s⟩⟩ ⟨⟨t⟩⟩) ⟨⟨s⟩⟩).map fun b=>b.data.toList
def Ak2 (l:List (List UInt8)):LA:=l.map .str
def Pt (_N:Nat) (s t:List UInt8) (r0:Nat→LA→O R):O R:=cond (Nat.ble s.length 4294967280&&Nat.ble 1 t.length) (r0 (KQ s t).length (Ak2 (KQ s t))) none
def strings_Split:=(Ai (@Pt R)).1
theorem Oi:@strings_Split R=@Pt R:=(Ai _).2
def Oj (a:LA) (h:Aj) (k:KF R):O R :=
 match a,h with
 | [.str s,.str t],[]=>strings_Split N s t fun n c=>k (.own 300000 0 n) [(300000,bQ 1 c)]
 | _,_=>none
def OM:Tw:=⟨fun {R} a h k=>@Oj R N a h k,fun {R} a h k=>by
 unfold Oj
 split
 ·rw[Oi,Oi];unfold Pt;cases (Nat.ble _ 4294967280&&Nat.ble 1 _)<;>rfl
 ·rfl⟩
end
theorem qb (N:Nat):Asq Tryz.prog 180 (OM N):=by
 intro d h k h' l
 have f:Oj N d h (fun v h'=>some (v,h'))=some (k,h'):=l
 unfold Oj at f
 split at f
 ·rename_i s t
  rw[Oi,Pt] at f
  obtain⟨q,y⟩:=uc f
  simp only[Bool.and_eq_true,Nat.ble_eq] at q
  simp only[Option.some.injEq,Prod.mk.injEq] at y
  obtain⟨rfl,rfl⟩:=y
  have i:=Lib.splitB_all ⟨⟨t⟩⟩ (show 1≤t.length from q.2) 0 _ ⟨⟨s⟩⟩ rfl
  refine A2q (n:=(KQ s t).length) (sz:=1) (c:=Ak2 (KQ s t)) (by simp[Ak2]) fun J β w vs G hr=>?_
  obtain⟨u,v,rfl,e1,z⟩:=Anl hr
  simp only[Rep] at e1 z;subst e1 z
  obtain⟨m,C⟩:=G.int (g:=0) (by decide)
  refine(Any.strings_Split Tryz.lays146 (by kernel_rfl) ⟨⟨s⟩⟩ ⟨⟨t⟩⟩ m w (show s.length<4294967281 by omega) C (show 1≤t.length from q.2)).mono ?_
  rintro e w' ⟨rfl,rfl⟩
  refine⟨_,_,?_,rfl,?_,?_⟩
  ·rw[show(KQ s t).length=Lib.countB ⟨⟨s⟩⟩ ⟨⟨t⟩⟩+1 by unfold KQ;rw[List.length_map,i]]
  ·simp[KQ]
  ·rw[Bz]
   intro j x A
   simp only[Ak2,KQ,List.map_map,List.getElem?_map,Option.map_eq_some_iff] at A
   obtain⟨b,D,rfl⟩:=A
   exact⟨.string b,by simp[D],by rw[Function.comp,RepC]⟩
 ·cases f
end Gx

namespace Gx
open Go Go.Proofs
open IntKind (wrap)
set_option maxRecDepth 100000
noncomputable section
variable {R:Type} (N:Nat)
def Cq (r0:Int→O R) (c:LA) (b:Nat) (d e:Bool) (k0:Int→Int→O R) (g f:Int):O R :=
 (cond (decide (f<g)) (cond (Ah f b) (BT (c.drop ((f.toNat)*1)) fun i=>(Qh N i (fun l=>(cond l (r0 f) (k0 g (wrap .i64 (f+1))))))) none) (r0 (-1)))
def Ax (r0:Int→O R) (c:LA) (b:Nat) (d e:Bool):Nat→Int→Int→O R
 | 0,_,_=>none
 | n+1,g,f=>(Cq N r0 c b d e (Ax r0 c b d e n) g f)
def Df (N:Nat) (r0:Int→O R) (q0:Int→Int→O R) (c:LA) (b:Nat) (d e:Bool):O R :=
 (q0 ((b:Nat):Int) 0)
def Cg:=(Ai (fun (N:Nat) (c:LA) (b:Nat) (d e:Bool) (r0:Int→O R)=>(Df N r0 (fun g f=>(Ax N r0 c b d e N g f)) c b d e))).1
theorem Hp (c b d e r0):(@Cg R N c b d e r0)=(Df N r0 (fun g f=>(Ax N r0 c b d e N g f)) c b d e):=by rw[Cg,(Ai _).2]
def I4:Gm:=[(182,WB N)]
def Sr (F:KF R):=Ki Tryz.f254 f7 (I4 N) [] N F
def B4 (F:KF R):Int→O R:=(fun m=>F (iv m) [])
def Ss (c:LA) (b:Nat) (d e:Bool) (g f:Int):St:=⟨[(0,(.imm c b 1 d e)),(1,(.fn 182 [])),(7,(iv g)),(8,(iv f))],[]⟩
def Su (F:KF R):=Sr N F [1,0,1,0] []
theorem Gq (F:KF R) (c:LA) (b:Nat) (d e:Bool):∀ (n:Nat) (g f:Int),Ak (Su N F) n (Ss c b d e g f)=(Ax N (B4 F) c b d e n g f)
 | 0,_,_=>by kernel_rfl
 | n+1,g,f=>Eq.trans (by kernel_rfl) (Bv (Cq N (B4 F) c b d e · g f) (funext fun g=>funext fun f=>(Gq F c b d e n g f)):_)
theorem Io (c:LA) (b:Nat) (d e:Bool) (F:KF R):C7 (I4 N) f7 N 254 [(.imm c b 1 d e),(.fn 182 [])] [] F=(Cg N c b d e (B4 F)):=by
 rw[Hp]
 exact Eq.trans (by kernel_rfl) (Bv (Df N (B4 F) · c b d e) (funext fun g=>funext fun f=>(Ac ..).trans (Gq N F c b d e N g f)):_)
def Hq (a:LA) (h:Aj) (k:KF R):O R :=
 match a,h with
 | [(.imm c b 1 d e),(.fn 182 [])],[]=>(Cg N c b d e (B4 k))
 | _,_=>none
theorem Ip:An N 254 @Hq:=by
 intro R Q a h k j;unfold Hq;split;exact A3 (Io ..) (Io ..) ⟨WC N,trivial⟩;exact A5
def Sv:=A4 (Ip N)
def Sw:=C8 (Ip N)
def Ci (r0:Nat→LA→O R) (b:Nat) (d:LA) (k0:Int→Int→LA→O R) (c e:Int) (f:LA):O R :=
 (cond (decide (e<((b:Nat):Int))) (cond (Ah e b) (BT (f.drop (0+((e.toNat)*1))) fun i=>(Qh N i (fun l=>(cond (!l) (cond (Ah c b) (cond ((Nat.beq 1 1)&&((Nat.ble ((0+((c.toNat)*1))+1) (f.length))&&(!false))) (k0 (wrap .i64 (c+1)) (wrap .i64 (e+1)) (f.set (0+((c.toNat)*1)) (.str i))) none) none) (k0 c (wrap .i64 (e+1)) f))))) none) (cond ((decide (0≤c))&&((decide (c≤((b:Nat):Int)))&&((decide (((b:Nat):Int)≤((b:Nat):Int)))&&(decide (((b:Nat):Int)≤((b:Nat):Int)))))) (cond ((decide ((0:Int)≤(0:Int)))&&((decide (0≤c))&&((decide (c≤((b:Nat):Int)))&&(decide (((b:Nat):Int)≤((b:Nat):Int)))))) (r0 (c.toNat) (Cy f (0+((c.toNat)*1)) (List.replicate (b - (c.toNat)) (.str ([]:List UInt8))))) none) none))
def Bd (r0:Nat→LA→O R) (b:Nat) (d:LA):Nat→Int→Int→LA→O R
 | 0,_,_,_=>none
 | n+1,c,e,f=>(Ci N r0 b d (Bd r0 b d n) c e f)
def C4 (r0:Nat→LA→O R) (q0:Int→Int→LA→O R) (b:Nat) (d:LA):O R :=
 (Cg N (d.take (b*1)) b false true (fun g=>(cond (g==(-1)) (r0 b d) (q0 g (wrap .i64 (g+1)) d))))
def Br:=(Ai (fun (N b:Nat) (d:LA) (r0:Nat→LA→O R)=>(C4 N r0 (fun c e f=>(Bd N r0 b d N c e f)) b d))).1
theorem G4 (b d r0):(@Br R N b d r0)=(C4 N r0 (fun c e f=>(Bd N r0 b d N c e f)) b d):=by rw[Br,(Ai _).2]
def Hr:Hints:={ H:=(hS hL (hS hL (hS hL (hS (hS hL (hS (hP [0,1,5,6] hL) hL)) hL)))),nils:=[(4,1)],modes:=[(2,1)] }
def Iq:Gm:=[(254,Sv N),(182,WB N)]
def Rq (F:KF R):=Ki Tryz.f181 Hr (Iq N) [100000] N F
def By (F:KF R):Nat→LA→O R:=(fun m o=>F (.own 100000 0 m) [(100000,(bQ 1 o))])
def Rr (b:Nat) (d:LA) (c e:Int) (f:LA):St:=⟨[(0,(.own 100000 0 b)),(1,(.fn 182 [])),(5,(iv c)),(6,(iv e))],[(100000,(bQ 1 f))]⟩
def Rs (F:KF R):=Rq N F [1,1,1,0,1,0] []
theorem Gk (F:KF R) (b:Nat) (d:LA):∀ (n:Nat) (c e:Int) (f:LA),Ak (Rs N F) n (Rr b d c e f)=(Bd N (By F) b d n c e f)
 | 0,_,_,_=>by kernel_rfl
 | n+1,c,e,f=>Eq.trans (by kernel_rfl) (Bv (Ci N (By F) b d · c e f) (funext fun c=>funext fun e=>funext fun f=>(Gk F b d n c e f)):_)
theorem Hs (b:Nat) (d:LA) (F:KF R):C7 (Iq N) Hr N 181 [(.own 100000 0 b),(.fn 182 [])] [(100000,(bQ 1 d))] F=(Br N b d (By F)):=by
 rw[G4]
 exact Eq.trans (by kernel_rfl) (Bv (C4 N (By F) · b d) (funext fun c=>funext fun e=>funext fun f=>(Ac ..).trans (Gk N F b d N c e f)):_)
def G5 (a:LA) (h:Aj) (k:KF R):O R :=
 match a,h with
 | [(.own 100000 0 b),(.fn 182 [])],[(100000,⟨false,false,true,false,1,d,false,none⟩)]=>(Br N b d (By k))
 | _,_=>none
theorem Ht:An N 181 @G5:=by
 intro R Q a h k j;unfold G5;split;exact A3 (Hs ..) (Hs ..) ⟨Sw N,WC N,trivial⟩;exact A5
def Rt:=A4 (Ht N)
def Ru:=C8 (Ht N)
def qc (b:List UInt8) (r0:Nat→LA→O R):O R :=
 (strings_Cut N b ([35]:List UInt8) (fun c m n=>(strings_Split N c ([32]:List UInt8) (fun d e=>(Br N d e (fun f g=>(r0 f g)))))))
def cI:=(Ai (@qc R)).1
theorem oB:@cI R=@qc R:=(Ai _).2
def Avd:Gm:=[(105,EQ N),(180,OM N),(181,Rt N)]
def tn (F:KF R):Nat→LA→O R:=(fun i l=>F (.own 300000 0 i) (hq [(bQ 1 l)]))
theorem tp (b:List UInt8) (F:KF R):C7 (Avd N) Awo N 106 [(.str b)] [] F=(cI N b (tn F)):=by
 rw[oB]
 kernel_rfl
def oC (a:LA) (h:Aj) (k:KF R):O R :=
 match a,h with
 | [(.str b)],[]=>(cI N b (tn k))
 | _,_=>none
theorem tq:An N 106 @oC:=by
 intro R Q a h k j;unfold oC;split;exact A3 (tp ..) (tp ..) ⟨Y_ N,qb N,Ru N,trivial⟩;exact A5
def Aqz:=A4 (tq N)
def Aq0:=C8 (tq N)
def Ag4 (N:Nat) (r0:LA→O R):O R :=
 (r0 [(.int .i64 1),(.str ([100,101,109,97,110,100]:List UInt8)),(.int .i64 1),(.int .i64 4),(.int .i64 7),(.int .i64 2),(.str ([116,114,105,112]:List UInt8)),(.int .i64 2),(.int .i64 5),(.int .i64 0),(.int .i64 3),(.str ([108,105,110,101]:List UInt8)),(.int .i64 3),(.int .i64 5),(.int .i64 0),(.int .i64 4),(.str ([111,102,102,101,114]:List UInt8)),(.int .i64 2),(.int .i64 6),(.int .i64 8),(.int .i64 5),(.str ([115,116,101,112]:List UInt8)),(.int .i64 0),(.int .i64 0),(.int .i64 0),(.int .i64 6),(.str ([99,114,97,115,104]:List UInt8)),(.int .i64 0),(.int .i64 0),(.int .i64 9),(.int .i64 7),(.str ([98,111,111,116]:List UInt8)),(.int .i64 0),(.int .i64 0),(.int .i64 0),(.int .i64 8),(.str ([114,101,116,114,121]:List UInt8)),(.int .i64 0),(.int .i64 4),(.int .i64 0)])
def ON:=(Ai (@Ag4 R)).1
theorem oD:@ON R=@Ag4 R:=(Ai _).2
def Aq1:Hints:={ H:=hL,nils:=[(0,5)],modes:=[(2,5)] }
def tu (F:KF R):LA→O R:=(fun b=>F (.own 300000 0 8) (hq [(bQ 5 b)]))
theorem tv (F:KF R):C7 [] Aq1 N 183 [] [] F=(ON N (tu F)):=by
 rw[oD]
 kernel_rfl
def oE (a:LA) (h:Aj) (k:KF R):O R :=
 match a,h with
 | [],[]=>(ON N (tu k))
 | _,_=>none
theorem tw:An N 183 @oE:=by
 intro R Q a h k j;unfold oE;split;exact A3 (tv ..) (tv ..) trivial;exact A5
def tz:=A4 (tw N)
def uA:=C8 (tw N)
def KR (N:Nat) (f:LA) (g:Bool) (b:LA) (c:Nat) (d e:Bool) (r0:Bool→O R):O R :=
 (BT (f.drop 1) fun i=>(cond (Ah 0 c) (BT b fun l=>(r0 (i==l))) none))
def U2:=(Ai (@KR R)).1
theorem OO:@U2 R=@KR R:=(Ai _).2
def WD (b:LA) (c:Nat) (d e:Bool) (F:KF R):Bool→O R:=(fun m=>F (.bool m) [(100000,(bN 0 [(.imm b c 1 d e)]))])
theorem WE (f:LA) (g:Bool) (b:LA) (c:Nat) (d e:Bool) (F:KF R):C7 [] Dx N 185 [(.pagg f g),(.optr 100000 0)] [(100000,(bN 0 [(.imm b c 1 d e)]))] F=(U2 N f g b c d e (WD b c d e F)):=by
 rw[OO]
 kernel_rfl
def OP (a:LA) (h:Aj) (k:KF R):O R :=
 match a,h with
 | [(.pagg f g),(.optr 100000 0)],[(100000,⟨false,false,false,false,0,[(.imm b c 1 d e)],false,none⟩)]=>(U2 N f g b c d e (WD b c d e k))
 | _,_=>none
theorem WF:An N 185 @OP:=by
 intro R Q a h k j;unfold OP;split;exact A3 (WE ..) (WE ..) trivial;exact A5
def vW:=A4 (WF N)
def vX:=C8 (WF N)
def Cd (r0:Int→O R) (g:Nat) (b c:LA) (d:Nat) (e f:Bool) (k0:Int→Int→O R) (l i:Int):O R :=
 (cond (decide (i<l)) (cond (Ah i g) (cond (Nat.ble 5 ((b.drop (0+((i.toNat)*5))).length)) (U2 N ((b.drop (0+((i.toNat)*5))).take 5) false c d e f (fun m=>(cond m (r0 i) (k0 l (wrap .i64 (i+1)))))) none) none) (r0 (-1)))
def Az (r0:Int→O R) (g:Nat) (b c:LA) (d:Nat) (e f:Bool):Nat→Int→Int→O R
 | 0,_,_=>none
 | n+1,l,i=>(Cd N r0 g b c d e f (Az r0 g b c d e f n) l i)
def Cw (N:Nat) (r0:Int→O R) (q0:Int→Int→O R) (g:Nat) (b c:LA) (d:Nat) (e f:Bool):O R :=
 (q0 ((g:Nat):Int) 0)
def Bm:=(Ai (fun (N g:Nat) (b c:LA) (d:Nat) (e f:Bool) (r0:Int→O R)=>(Cw N r0 (fun l i=>(Az N r0 g b c d e f N l i)) g b c d e f))).1
theorem Gr (g b c d e f r0):(@Bm R N g b c d e f r0)=(Cw N r0 (fun l i=>(Az N r0 g b c d e f N l i)) g b c d e f):=by rw[Bm,(Ai _).2]
def Hu:Gm:=[(185,vW N)]
def Qr (F:KF R):=Ki Tryz.f184 f7 (Hu N) [100000,100001] N F
def Bu (b c:LA) (d:Nat) (e f:Bool) (F:KF R):Int→O R:=(fun o=>F (iv o) [(100000,(bQ 5 b)),(100001,(bN 0 [(.imm c d 1 e f)]))])
def Qs (g:Nat) (b c:LA) (d:Nat) (e f:Bool) (l i:Int):St:=⟨[(0,(.own 100000 0 g)),(1,(.fn 185 [(.optr 100001 0)])),(7,(iv l)),(8,(iv i))],[(100000,(bQ 5 b)),(100001,(bN 0 [(.imm c d 1 e f)]))]⟩
def Qt (F:KF R):=Qr N F [1,0,1,0] []
theorem F4 (F:KF R) (g:Nat) (b c:LA) (d:Nat) (e f:Bool):∀ (n:Nat) (l i:Int),Ak (Qt N F) n (Qs g b c d e f l i)=(Az N (Bu b c d e f F) g b c d e f n l i)
 | 0,_,_=>by kernel_rfl
 | n+1,l,i=>Eq.trans (by kernel_rfl) (Bv (Cd N (Bu b c d e f F) g b c d e f · l i) (funext fun l=>funext fun i=>(F4 F g b c d e f n l i)):_)
theorem G6 (g:Nat) (b c:LA) (d:Nat) (e f:Bool) (F:KF R):C7 (Hu N) f7 N 184 [(.own 100000 0 g),(.fn 185 [(.optr 100001 0)])] [(100000,(bQ 5 b)),(100001,(bN 0 [(.imm c d 1 e f)]))] F=(Bm N g b c d e f (Bu b c d e f F)):=by
 rw[Gr]
 exact Eq.trans (by kernel_rfl) (Bv (Cw N (Bu b c d e f F) · g b c d e f) (funext fun l=>funext fun i=>(Ac ..).trans (F4 N F g b c d e f N l i)):_)
def Gs (a:LA) (h:Aj) (k:KF R):O R :=
 match a,h with
 | [(.own 100000 0 g),(.fn 185 [(.optr 100001 0)])],[(100000,⟨false,false,true,false,5,b,false,none⟩),(100001,⟨false,false,false,false,0,[(.imm c d 1 e f)],false,none⟩)]=>(Bm N g b c d e f (Bu b c d e f k))
 | _,_=>none
theorem G7:An N 184 @Gs:=by
 intro R Q a h k j;unfold Gs;split;exact A3 (G6 ..) (G6 ..) ⟨vX N,trivial⟩;exact A5
def Qu:=A4 (G7 N)
def Qv:=C8 (G7 N)
def CY (N:Nat) (r0:Nat→Bool→LA→O R) (l:LA) (p:Nat) (b:Bool) (k0:Nat→Int→Int→LA→O R) (f:Nat) (s c:Int) (t:LA):O R :=
 (cond (decide (c<s)) (cond (Ah c p) (cond (Nat.ble 3 ((l.drop ((c.toNat)*3)).length)) (cond ((Nat.beq 0 0)&&((Nat.beq (((l.drop ((c.toNat)*3)).take 3).length) 3)&&(Nat.beq 3 3))) (BT ((l.drop ((c.toNat)*3)).take 3) fun aa=>(cond ((Nat.ble (f+1) 140737488355328)&&(Nat.ble ((f+1)*16) 140737488355328)) (k0 (f+1) s (wrap .i64 (c+1)) ((t.take (f*1))++[(.str aa)])) none)) none) none) none) (r0 f true t))
def Pu (r0:Nat→Bool→LA→O R) (l:LA) (p:Nat) (b:Bool):Nat→Nat→Int→Int→LA→O R
 | 0,_,_,_,_=>none
 | n+1,f,s,c,t=>(CY N r0 l p b (Pu r0 l p b n) f s c t)
def CZ (N:Nat) (r0:Nat→Bool→LA→O R) (m:LA) (q:Nat) (b:Bool) (k1:Nat→Int→Int→LA→O R) (g:Nat) (u d:Int) (v:LA):O R :=
 (cond (decide (d<u)) (cond (Ah d q) (cond (Nat.ble 22 ((m.drop ((d.toNat)*22)).length)) (cond ((Nat.beq 0 0)&&((Nat.beq (((m.drop ((d.toNat)*22)).take 22).length) 22)&&(Nat.beq 22 22))) (BT ((m.drop ((d.toNat)*22)).take 22) fun ab=>(cond ((Nat.ble (g+1) 140737488355328)&&(Nat.ble ((g+1)*16) 140737488355328)) (k1 (g+1) u (wrap .i64 (d+1)) ((v.take (g*1))++[(.str ab)])) none)) none) none) none) (r0 g true v))
def Pv (r0:Nat→Bool→LA→O R) (m:LA) (q:Nat) (b:Bool):Nat→Nat→Int→Int→LA→O R
 | 0,_,_,_,_=>none
 | n+1,g,u,d,v=>(CZ N r0 m q b (Pv r0 m q b n) g u d v)
def C_ (N:Nat) (r0:Nat→Bool→LA→O R) (o:LA) (r:Nat) (b:Bool) (k2:Nat→Int→Int→LA→O R) (i:Nat) (w e:Int) (x:LA):O R :=
 (cond (decide (e<w)) (cond (Ah e r) (cond (Nat.ble 12 ((o.drop ((e.toNat)*12)).length)) (cond ((Nat.beq 0 0)&&((Nat.beq (((o.drop ((e.toNat)*12)).take 12).length) 12)&&(Nat.beq 12 12))) (BT ((o.drop ((e.toNat)*12)).take 12) fun ac=>(cond ((Nat.ble (i+1) 140737488355328)&&(Nat.ble ((i+1)*16) 140737488355328)) (k2 (i+1) w (wrap .i64 (e+1)) ((x.take (i*1))++[(.str ac)])) none)) none) none) none) (r0 i true x))
def Pw (r0:Nat→Bool→LA→O R) (o:LA) (r:Nat) (b:Bool):Nat→Nat→Int→Int→LA→O R
 | 0,_,_,_,_=>none
 | n+1,i,w,e,x=>(C_ N r0 o r b (Pw r0 o r b n) i w e x)
def W3 (N:Nat) (r0:Nat→Bool→LA→O R) (q0:LA→Nat→Nat→Int→Int→LA→O R) (q1:LA→Nat→Nat→Int→Int→LA→O R) (q2:LA→Nat→Nat→Int→Int→LA→O R) (y:LA) (b:Bool) (z:Int):O R :=
 (cond (z==1) (Bw 3 (y.drop 2) fun l p=>(q0 l p 0 ((p:Nat):Int) 0 [])) (cond (z==2) (Bw 22 (y.drop 4) fun m q=>(q1 m q 0 ((q:Nat):Int) 0 [])) (cond (z==3) (Bw 12 (y.drop 3) fun o r=>(q2 o r 0 ((r:Nat):Int) 0 [])) (r0 0 false []))))
def Rv:=(Ai (fun (N:Nat) (y:LA) (b:Bool) (z:Int) (r0:Nat→Bool→LA→O R)=>(W3 N r0 (fun l p f s c t=>(Pu N r0 l p b N f s c t)) (fun m q g u d v=>(Pv N r0 m q b N g u d v)) (fun o r i w e x=>(Pw N r0 o r b N i w e x)) y b z))).1
theorem U3 (y b z r0):(@Rv R N y b z r0)=(W3 N r0 (fun l p f s c t=>(Pu N r0 l p b N f s c t)) (fun m q g u d v=>(Pv N r0 m q b N g u d v)) (fun o r i w e x=>(Pw N r0 o r b N i w e x)) y b z):=by rw[Rv,(Ai _).2]
def uB:Hints:={ H:=(hS hL (hS hL (hS (hS hL (hS (hS hL (hS (hS hL (hS (hP [6,17,18,19] hL) hL)) (hS hL (hS (hS hL (hS (hP [6,32,33,34] hL) hL)) (hS hL (hS (hS hL (hS (hP [6,47,48,49] hL) hL)) hL)))))) hL)) hL))),nils:=[(4,1),(6,1)],modes:=[(2,1),(0,0)] }
def cJ (F:KF R):=Ki Tryz.f115 uB [] [] N F
def Jv (F:KF R):Nat→Bool→LA→O R:=(fun ad ae af=>F (.tup [(.own 300000 0 ad),(.bool ae)]) (hq [(bQ 1 af)]))
def Aq2 (l:LA) (p:Nat) (b:Bool) (f:Nat) (s c:Int) (t:LA):St:=⟨[(6,(.own 300000 0 f)),(17,(.imm l p 3 false b)),(18,(iv s)),(19,(iv c))],(hq [(bQ 1 t)])⟩
def Aq3 (F:KF R):=cJ N F [1,1,0,1,0,1,0,1,0] []
def Aq4 (m:LA) (q:Nat) (b:Bool) (g:Nat) (u d:Int) (v:LA):St:=⟨[(6,(.own 300000 0 g)),(32,(.imm m q 22 false b)),(33,(iv u)),(34,(iv d))],(hq [(bQ 1 v)])⟩
def Aq5 (F:KF R):=cJ N F [1,1,0,1,0,1,1,1,0,1,0] []
def Aq6 (o:LA) (r:Nat) (b:Bool) (i:Nat) (w e:Int) (x:LA):St:=⟨[(6,(.own 300000 0 i)),(47,(.imm o r 12 false b)),(48,(iv w)),(49,(iv e))],(hq [(bQ 1 x)])⟩
def Aq7 (F:KF R):=cJ N F [1,1,0,1,0,1,1,1,1,1,0,1,0] []
theorem cK (F:KF R) (l:LA) (p:Nat) (b:Bool):∀ (n f:Nat) (s c:Int) (t:LA),Ak (Aq3 N F) n (Aq2 l p b f s c t)=(Pu N (Jv F) l p b n f s c t)
 | 0,_,_,_,_=>by kernel_rfl
 | n+1,f,s,c,t=>Eq.trans (by kernel_rfl) (Bv (CY N (Jv F) l p b · f s c t) (funext fun f=>funext fun s=>funext fun c=>funext fun t=>(cK F l p b n f s c t)):_)
theorem cL (F:KF R) (m:LA) (q:Nat) (b:Bool):∀ (n g:Nat) (u d:Int) (v:LA),Ak (Aq5 N F) n (Aq4 m q b g u d v)=(Pv N (Jv F) m q b n g u d v)
 | 0,_,_,_,_=>by kernel_rfl
 | n+1,g,u,d,v=>Eq.trans (by kernel_rfl) (Bv (CZ N (Jv F) m q b · g u d v) (funext fun g=>funext fun u=>funext fun d=>funext fun v=>(cL F m q b n g u d v)):_)
theorem cM (F:KF R) (o:LA) (r:Nat) (b:Bool):∀ (n i:Nat) (w e:Int) (x:LA),Ak (Aq7 N F) n (Aq6 o r b i w e x)=(Pw N (Jv F) o r b n i w e x)
 | 0,_,_,_,_=>by kernel_rfl
 | n+1,i,w,e,x=>Eq.trans (by kernel_rfl) (Bv (C_ N (Jv F) o r b · i w e x) (funext fun i=>funext fun w=>funext fun e=>funext fun x=>(cM F o r b n i w e x)):_)
theorem uC (y:LA) (b:Bool) (z:Int) (F:KF R):C7 [] uB N 115 [(.pagg y b),(iv z)] [] F=(Rv N y b z (Jv F)):=by
 rw[U3]
 exact Eq.trans (by kernel_rfl) (A5y (W3 N (Jv F) · · · y b z) (funext fun l=>funext fun p=>funext fun f=>funext fun s=>funext fun c=>funext fun t=>(Ac ..).trans (cK N F l p b N f s c t)) (funext fun m=>funext fun q=>funext fun g=>funext fun u=>funext fun d=>funext fun v=>(Ac ..).trans (cL N F m q b N g u d v)) (funext fun o=>funext fun r=>funext fun i=>funext fun w=>funext fun e=>funext fun x=>(Ac ..).trans (cM N F o r b N i w e x)):_)
def oF (a:LA) (h:Aj) (k:KF R):O R :=
 match a,h with
 | [(.pagg y b),(.int .i64 z)],[]=>(Rv N y b z (Jv k))
 | _,_=>none
theorem uD:An N 115 @oF:=by
 intro R Q a h k j;unfold oF;split;exact A3 (uC ..) (uC ..) trivial;exact A5
def Aq8:=A4 (uD N)
def Aq9:=C8 (uD N)
def Dl (N:Nat) (r0:Int→O R) (c:LA) (b:Nat) (e f:Bool) (d:List UInt8) (k0:Int→Int→O R) (i g:Int):O R :=
 (cond (decide (g<i)) (cond (Ah g b) (BT (c.drop ((g.toNat)*1)) fun l=>(cond (d==l) (r0 g) (k0 i (wrap .i64 (g+1))))) none) (r0 (-1)))
def Bl (r0:Int→O R) (c:LA) (b:Nat) (e f:Bool) (d:List UInt8):Nat→Int→Int→O R
 | 0,_,_=>none
 | n+1,i,g=>(Dl N r0 c b e f d (Bl r0 c b e f d n) i g)
def Ef (N:Nat) (r0:Int→O R) (q0:Int→Int→O R) (c:LA) (b:Nat) (e f:Bool) (d:List UInt8):O R :=
 (q0 ((b:Nat):Int) 0)
def Ce:=(Ai (fun (N:Nat) (c:LA) (b:Nat) (e f:Bool) (d:List UInt8) (r0:Int→O R)=>(Ef N r0 (fun i g=>(Bl N r0 c b e f d N i g)) c b e f d))).1
theorem Km (c b e f d r0):(@Ce R N c b e f d r0)=(Ef N r0 (fun i g=>(Bl N r0 c b e f d N i g)) c b e f d):=by rw[Ce,(Ai _).2]
def W4 (F:KF R):=Ki Tryz.f186 f7 [] [] N F
def Cn (F:KF R):Int→O R:=(fun m=>F (iv m) [])
def W5 (c:LA) (b:Nat) (e f:Bool) (d:List UInt8) (i g:Int):St:=⟨[(0,(.imm c b 1 e f)),(1,(.str d)),(7,(iv i)),(8,(iv g))],[]⟩
def W6 (F:KF R):=W4 N F [1,0,1,0] []
theorem I5 (F:KF R) (c:LA) (b:Nat) (e f:Bool) (d:List UInt8):∀ (n:Nat) (i g:Int),Ak (W6 N F) n (W5 c b e f d i g)=(Bl N (Cn F) c b e f d n i g)
 | 0,_,_=>by kernel_rfl
 | n+1,i,g=>Eq.trans (by kernel_rfl) (Bv (Dl N (Cn F) c b e f d · i g) (funext fun i=>funext fun g=>(I5 F c b e f d n i g)):_)
theorem Lk (c:LA) (b:Nat) (e f:Bool) (d:List UInt8) (F:KF R):C7 [] f7 N 186 [(.imm c b 1 e f),(.str d)] [] F=(Ce N c b e f d (Cn F)):=by
 rw[Km]
 exact Eq.trans (by kernel_rfl) (Bv (Ef N (Cn F) · c b e f d) (funext fun i=>funext fun g=>(Ac ..).trans (I5 N F c b e f d N i g)):_)
def Kn (a:LA) (h:Aj) (k:KF R):O R :=
 match a,h with
 | [(.imm c b 1 e f),(.str d)],[]=>(Ce N c b e f d (Cn k))
 | _,_=>none
theorem Ll:An N 186 @Kn:=by
 intro R Q a h k j;unfold Kn;split;exact A3 (Lk ..) (Lk ..) trivial;exact A5
def W7:=A4 (Ll N)
def W8:=C8 (Ll N)
def js (b:List UInt8) (r0:Int→Bool→Int→O R):O R :=
 (Ta N b (fun c d=>(cond ((Nat.beq 0 0)&&((Nat.beq (c.length) 2)&&(Nat.beq 2 2))) (cond (d==8) (r0 0 false 0) (cond (d != 0) (r0 0 false 2) (cond (Nat.ble 2 (c.length)) (Yl N (c.take 2) false (fun e f=>(r0 e f 0))) none))) none)))
def OQ:=(Ai (@js R)).1
theorem ic:@OQ R=@js R:=(Ai _).2
def Ara:Gm:=[(23,y7 N),(201,Aom N)]
def oG (F:KF R):Int→Bool→Int→O R:=(fun g i l=>F (.tup [(iv g),(.bool i),(iv l)]) [])
theorem oH (b:List UInt8) (F:KF R):C7 (Ara N) Dx N 187 [(.str b)] [] F=(OQ N b (oG F)):=by
 rw[ic]
 kernel_rfl
def ig (a:LA) (h:Aj) (k:KF R):O R :=
 match a,h with
 | [(.str b)],[]=>(OQ N b (oG k))
 | _,_=>none
theorem oI:An N 187 @ig:=by
 intro R Q a h k j;unfold ig;split;exact A3 (oH ..) (oH ..) ⟨y9 N,Aon N,trivial⟩;exact A5
def Ak3:=A4 (oI N)
def Ak4:=C8 (oI N)
def Yc (N:Nat) (r0:LA→Bool→O R) (c:Int) (d:LA) (k0:Int→O R) (b:Int):O R :=
 (cond (decide (b<8)) (cond (Ah b 8) (cond (Nat.ble 5 ((d.drop (0+((b.toNat)*5))).length)) (cond ((Nat.beq 0 0)&&((Nat.beq (((d.drop (0+((b.toNat)*5))).take 5).length) 5)&&(Nat.beq 5 5))) (At .i64 ((d.drop (0+((b.toNat)*5))).take 5) fun e=>(cond (e==c) (cond (Nat.ble 5 (((d.drop (0+((b.toNat)*5))).take 5).length)) (cond ((Nat.beq 0 0)&&((Nat.beq ((((d.drop (0+((b.toNat)*5))).take 5).take 5).length) 5)&&(Nat.beq 5 5))) (cond (Nat.ble 5 ((((d.drop (0+((b.toNat)*5))).take 5).take 5).length)) (r0 ((((d.drop (0+((b.toNat)*5))).take 5).take 5).take 5) true) none) none) none) (k0 (wrap .i64 (b+1))))) none) none) none) (r0 [(.int .i64 0),(.str ([]:List UInt8)),(.int .i64 0),(.int .i64 0),(.int .i64 0)] false))
def He (r0:LA→Bool→O R) (c:Int) (d:LA):Nat→Int→O R
 | 0,_=>none
 | n+1,b=>(Yc N r0 c d (He r0 c d n) b)
def RZ (r0:LA→Bool→O R) (q0:LA→Int→O R) (c:Int):O R :=
 (ON N (fun d=>(q0 d 0)))
def W9:=(Ai (fun (N:Nat) (c:Int) (r0:LA→Bool→O R)=>(RZ N r0 (fun d b=>(He N r0 c d N b)) c))).1
theorem ii (c r0):(@W9 R N c r0)=(RZ N r0 (fun d b=>(He N r0 c d N b)) c):=by rw[W9,(Ai _).2]
def oJ:Hints:={ H:=(hS hL (hS (hS hL (hS (hP [0,2,6,7,8] hL) hL)) hL)),modes:=[(3,0),(0,0)] }
def uE:Gm:=[(183,tz N)]
def Ak5 (F:KF R):=Ki Tryz.f112 oJ (uE N) [] N F
def U4 (F:KF R):LA→Bool→O R:=(fun f g=>F (.tup [(.pagg f false),(.bool g)]) [])
def Ak6 (c:Int) (d:LA) (b:Int):St:=⟨[(0,(iv c)),(2,(op 0)),(6,(.own 300001 0 8)),(7,(iv 8)),(8,(iv b))],(hq [(bN 0 [(iv 0),(.str ([]:List UInt8)),(iv 0),(iv 0),(iv 0)]),(bQ 5 d)])⟩
def Ak7 (F:KF R):=Ak5 N F [1,0,1,0] []
theorem WG (F:KF R) (c:Int) (d:LA):∀ (n:Nat) (b:Int),Ak (Ak7 N F) n (Ak6 c d b)=(He N (U4 F) c d n b)
 | 0,_=>by kernel_rfl
 | n+1,b=>Eq.trans (by kernel_rfl) (Bv (Yc N (U4 F) c d · b) (funext fun b=>(WG F c d n b)):_)
theorem oK (c:Int) (F:KF R):C7 (uE N) oJ N 112 [(iv c)] [] F=(W9 N c (U4 F)):=by
 rw[ii]
 exact Eq.trans (by kernel_rfl) (Bv (RZ N (U4 F) · c) (funext fun d=>funext fun b=>(Ac ..).trans (WG N F c d N b)):_)
def ij (a:LA) (h:Aj) (k:KF R):O R :=
 match a,h with
 | [(.int .i64 c)],[]=>(W9 N c (U4 k))
 | _,_=>none
theorem oL:An N 112 @ij:=by
 intro R Q a h k j;unfold ij;split;exact A3 (oK ..) (oK ..) ⟨uA N,trivial⟩;exact A5
def Ak8:=A4 (oL N)
def Ak9:=C8 (oL N)
def jt (N:Nat) (c:LA) (e:Bool) (b d:Int) (r0:Int→Int→O R):O R :=
 (cond (b==1) (Bw 3 (c.drop 2) fun s f=>(r0 0 (wrap .i64 (((f:Nat):Int) - 1)))) (cond (b==2) (Bw 22 (c.drop 4) fun t g=>(r0 0 (wrap .i64 (((g:Nat):Int) - 1)))) (cond (b==3) (Bw 12 (c.drop 3) fun u i=>(r0 0 (wrap .i64 (((i:Nat):Int) - 1)))) (cond (b==4) (At .i64 c fun l=>(r0 0 (wrap .i64 (l - 1)))) (cond (b==5) (At .i64 c fun m=>(r0 1 m)) (cond (b==6) (Bw 22 (c.drop 4) fun n o=>(cond (Ah d o) (Bw 2 ((n.drop ((d.toNat)*22)).drop 4) fun v p=>(r0 0 (wrap .i64 (((p:Nat):Int) - 1)))) none)) (cond (b==7) (r0 0 1048576) (cond (b==8) (r0 (-1048576) 1048576) (cond (b==9) (r0 0 16777216) (r0 0 0))))))))))
def Xa:=(Ai (@jt R)).1
theorem ik:@Xa R=@jt R:=(Ai _).2
def oM (F:KF R):Int→Int→O R:=(fun q r=>F (.tup [(iv q),(iv r)]) [])
theorem oN (c:LA) (e:Bool) (b d:Int) (F:KF R):C7 [] Dx N 189 [(.pagg c e),(iv b),(iv d)] [] F=(Xa N c e b d (oM F)):=by
 rw[ik]
 kernel_rfl
def io (a:LA) (h:Aj) (k:KF R):O R :=
 match a,h with
 | [(.pagg c e),(.int .i64 b),(.int .i64 d)],[]=>(Xa N c e b d (oM k))
 | _,_=>none
theorem oO:An N 189 @io:=by
 intro R Q a h k j;unfold io;split;exact A3 (oN ..) (oN ..) trivial;exact A5
def Ala:=A4 (oO N)
def Alb:=C8 (oO N)
def C' (r0:Bool→O R) (i l m:Int) (e:Bool) (c:LA) (f:Bool) (b g:LA) (k0:Int→O R) (d:Int):O R :=
 (cond (decide (d<3)) (cond (Ah d 3) (cond (Nat.beq ((d.toNat)*1) 0) (cond (Nat.ble 8 (c.length)) (cond (Ah d 3) (At .i64 (g.drop (2+((d.toNat)*1))) fun o=>(At .i64 (b.drop 1) fun p=>(Xa N (c.take 8) e o p (fun q r=>(cond ((decide (i<q))==false) (cond (cond false true (decide (i>r))) (r0 false) (k0 (wrap .i64 (d+1)))) (r0 false)))))) none) none) (cond (Nat.beq ((d.toNat)*1) 1) (cond (Nat.ble 8 (c.length)) (cond (Ah d 3) (At .i64 (g.drop (2+((d.toNat)*1))) fun s=>(At .i64 (b.drop 1) fun t=>(Xa N (c.take 8) e s t (fun u v=>(cond ((decide (l<u))==false) (cond (cond false true (decide (l>v))) (r0 false) (k0 (wrap .i64 (d+1)))) (r0 false)))))) none) none) (cond (Nat.beq ((d.toNat)*1) 2) (cond (Nat.ble 8 (c.length)) (cond (Ah d 3) (At .i64 (g.drop (2+((d.toNat)*1))) fun w=>(At .i64 (b.drop 1) fun x=>(Xa N (c.take 8) e w x (fun y z=>(cond ((decide (m<y))==false) (cond (cond false true (decide (m>z))) (r0 false) (k0 (wrap .i64 (d+1)))) (r0 false)))))) none) none) none))) none) (r0 true))
def Fm (r0:Bool→O R) (i l m:Int) (e:Bool) (c:LA) (f:Bool) (b g:LA):Nat→Int→O R
 | 0,_=>none
 | n+1,d=>(C' N r0 i l m e c f b g (Fm r0 i l m e c f b g n) d)
def eY (r0:Bool→O R) (q0:Int→Int→Int→LA→Int→O R) (c:LA) (e:Bool) (b:LA) (f:Bool):O R :=
 (At .i64 b fun aa=>(W9 N aa (fun g ab=>(cond ((Nat.beq 0 0)&&((Nat.beq (g.length) 5)&&(Nat.beq 5 5))) (cond (!ab) (r0 false) (At .i64 (b.drop 1) fun i=>(At .i64 (b.drop 2) fun l=>(At .i64 (b.drop 3) fun m=>(q0 i l m g 0))))) none))))
def FZ:=(Ai (fun (N:Nat) (c:LA) (e:Bool) (b:LA) (f:Bool) (r0:Bool→O R)=>(eY N r0 (fun i l m g d=>(Fm N r0 i l m e c f b g N d)) c e b f))).1
theorem oP (c e b f r0):(@FZ R N c e b f r0)=(eY N r0 (fun i l m g d=>(Fm N r0 i l m e c f b g N d)) c e b f):=by rw[FZ,(Ai _).2]
def uF:Hints:={ H:=(hS hL (hS hL (hS hL (hS (hS hL (hS (hP [2,3,5,25,26] hL) hL)) hL)))) }
def Aa3:Gm:=[(112,Ak8 N),(189,Ala N)]
def Arb (F:KF R):=Ki Tryz.f109 uF (Aa3 N) [] N F
def Zt (F:KF R):Bool→O R:=(fun ac=>F (.bool ac) [])
def Arc (i l m:Int) (e:Bool) (c:LA) (f:Bool) (b g:LA) (d:Int):St:=⟨[(2,(op 0)),(3,(op 1)),(5,(op 2)),(25,(.agg [(iv i),(iv l),(iv m)])),(26,(iv d))],(hq [(bP e 0 c),(bP f 0 b),(bQ 0 g)])⟩
def Ard (F:KF R):=Arb N F [1,1,1,0,1,0] []
theorem cN (F:KF R) (i l m:Int) (e:Bool) (c:LA) (f:Bool) (b g:LA):∀ (n:Nat) (d:Int),Ak (Ard N F) n (Arc i l m e c f b g d)=(Fm N (Zt F) i l m e c f b g n d)
 | 0,_=>by kernel_rfl
 | n+1,d=>Eq.trans (by kernel_rfl) (Bv (C' N (Zt F) i l m e c f b g · d) (funext fun d=>(cN F i l m e c f b g n d)):_)
theorem uG (c:LA) (e:Bool) (b:LA) (f:Bool) (F:KF R):C7 (Aa3 N) uF N 109 [(.pagg c e),(.pagg b f)] [] F=(FZ N c e b f (Zt F)):=by
 rw[oP]
 exact Eq.trans (by kernel_rfl) (Bv (eY N (Zt F) · c e b f) (funext fun i=>funext fun l=>funext fun m=>funext fun g=>funext fun d=>(Ac ..).trans (cN N F i l m e c f b g N d)):_)
def oQ (a:LA) (h:Aj) (k:KF R):O R :=
 match a,h with
 | [(.pagg c e),(.pagg b f)],[]=>(FZ N c e b f (Zt k))
 | _,_=>none
theorem uH:An N 109 @oQ:=by
 intro R Q a h k j;unfold oQ;split;exact A3 (uG ..) (uG ..) ⟨Ak9 N,Alb N,trivial⟩;exact A5
def uI:=A4 (uH N)
def uJ:=C8 (uH N)
end
end Gx

namespace Gx.Cf
open Go Go.Proofs
section
variable {R:Type}
def vY:LA:=[(.int .i64 1),(.str ([100,101,109,97,110,100]:List UInt8)),(.int .i64 1),(.int .i64 4),(.int .i64 7),(.int .i64 2),(.str ([116,114,105,112]:List UInt8)),(.int .i64 2),(.int .i64 5),(.int .i64 0),(.int .i64 3),(.str ([108,105,110,101]:List UInt8)),(.int .i64 3),(.int .i64 5),(.int .i64 0),(.int .i64 4),(.str ([111,102,102,101,114]:List UInt8)),(.int .i64 2),(.int .i64 6),(.int .i64 8),(.int .i64 5),(.str ([115,116,101,112]:List UInt8)),(.int .i64 0),(.int .i64 0),(.int .i64 0),(.int .i64 6),(.str ([99,114,97,115,104]:List UInt8)),(.int .i64 0),(.int .i64 0),(.int .i64 9),(.int .i64 7),(.str ([98,111,111,116]:List UInt8)),(.int .i64 0),(.int .i64 0),(.int .i64 0),(.int .i64 8),(.str ([114,101,116,114,121]:List UInt8)),(.int .i64 0),(.int .i64 4),(.int .i64 0)]
def U5 (i:Nat):LA:=(vY.drop (i*5)).take 5
def Alc (k a b v:Int):LA:=[.int .i64 k,.int .i64 a,.int .i64 b,.int .i64 v]
theorem ip {N:Nat} {K:LA→O R}:ON N K=K vY:=by rw[oD];rfl
theorem Are {N n i:Nat} {k:Int} {K:LA→Bool→O R} (h:i<8):He N K k vY (n+1) (i:Int)=cond (((i+1:Nat):Int)==k) (K (U5 i) true) (He N K k vY n ((i+1:Nat):Int)):=by
 rw[He];unfold Yc
 rcases i with _ | _ | _ | _ | _ | _ | _ | _ | i
 ·rfl
 ·rfl
 ·rfl
 ·rfl
 ·rfl
 ·rfl
 ·rfl
 ·rfl
 ·omega
def A3t:LA:=[.int .i64 0,.str [],.int .i64 0,.int .i64 0,.int .i64 0]
theorem Aa4 {N:Nat} {k:Int} {K:LA→Bool→O R}:∀ (m i fuel:Nat),i+m=8→m<fuel→He N K k vY fuel (i:Int)=(if ((i+1:Nat):Int)≤k∧k≤8 then K (U5 (k - 1).toNat) true else K A3t false)
 | 0,i,fuel+1,hi,_=>by
  obtain rfl:i=8:=by omega
  rw[He];unfold Yc
  rw[if_neg (by omega)];rfl
 | m+1,i,fuel+1,hi,b=>by
  rw[Are (by omega),Aa4 m (i+1) fuel (by omega) (by omega)]
  by_cases e:((i+1:Nat):Int)=k
  ·subst e
   rw[show(((i+1:Nat):Int)==((i+1:Nat):Int))=true by simp,ct,if_pos (by omega),show(((i+1:Nat):Int) - 1).toNat=i by omega]
  ·rw[show(((i+1:Nat):Int)==k)=false by simpa using e]
   show(if _ then _ else _)=_
   by_cases h:((i+1:Nat):Int)≤k∧k≤8
   ·rw[if_pos h,if_pos (by omega)]
   ·rw[if_neg h,if_neg (by omega)]
theorem Aa5 {N:Nat} {k:Int} {K:LA→Bool→O R} (hN:9≤N):W9 N k K=(if 1≤k∧k≤8 then K (U5 (k - 1).toNat) true else K A3t false):=by
 rw[ii];unfold RZ
 rw[ip]
 exact Aa4 8 0 N rfl (by omega)
def KS (lo hi v:Int):Bool:=decide (lo≤v)&&decide (v≤hi)
def A15 (c:CaseD) (a:Int):Nat:=match c.units.l[a.toNat]? with | some u=>u.segs.l.length | none=>0
def vr (c:CaseD) (a f:Int):Int×Int :=
 if f=1 then (0,(c.buses.l.length:Int) - 1) else if f=2 then (0,(c.units.l.length:Int) - 1) else if f=3 then (0,(c.lines.l.length:Int) - 1) else if f=4 then (0,c.hours - 1) else if f=5 then (1,c.hours)
 else if f=6 then (0,(A15 c a:Int) - 1) else if f=7 then (0,1048576) else if f=8 then (-1048576,1048576) else if f=9 then (0,16777216) else (0,0)
theorem A26 {n:Nat} (h:n<4611686018427387904):IntKind.wrap .i64 ((n:Int) - 1)=(n:Int) - 1:=i64 (by omega)
theorem Aa6 {N:Nat} {c:CaseD} {o:Bool} {f a:Int} {K:Int→Int→O R} (hs:Small c N) (hH:1≤c.hours∧c.hours≤24) (v:f=6→0≤a∧a<(c.units.l.length:Int)) :
  Xa N c.av o f a K=K (vr c a f).1 (vr c a f).2:=by
 rw[ik];unfold jt vr
 by_cases d:f=1
 ·subst d;rw[show((1:Int)==1)=true by rfl,ct,Ii,A26 hs.bus.2];rfl
 rw[show(f==1)=false by simpa using d,cf,if_neg d]
 by_cases i:f=2
 ·subst i;rw[show((2:Int)==2)=true by rfl,ct,Ft,A26 hs.uni.2];rfl
 rw[show(f==2)=false by simpa using i,cf,if_neg i]
 by_cases j:f=3
 ·subst j;rw[show((3:Int)==3)=true by rfl,ct,Gf,A26 hs.lin.2];rfl
 rw[show(f==3)=false by simpa using j,cf,if_neg j]
 by_cases k:f=4
 ·subst k;rw[show((4:Int)==4)=true by rfl,ct,K6,i64 (by omega)];rfl
 rw[show(f==4)=false by simpa using k,cf,if_neg k]
 by_cases m:f=5
 ·subst m;rw[show((5:Int)==5)=true by rfl,ct,K6];rfl
 rw[show(f==5)=false by simpa using m,cf,if_neg m]
 by_cases b:f=6
 ·obtain⟨a1,a2⟩:=v b
  subst b
  obtain⟨n,rfl⟩:∃ n:Nat,a=n:=⟨a.toNat,by omega⟩
  have hn:n<c.units.l.length:=by omega
  have q:=hs.seg _ (List.getElem_mem hn)
  rw[show((6:Int)==6)=true by rfl,ct,Ft,Ab hn,Gx.ct,Int.toNat_natCast,Ay Dg _ _ hn]
  have e:∀ F:LA→Nat→O R,Bw 2 (List.drop 4 (UnitD.av c.units.l[n]++(c.units.l.drop (n+1)).flatMap UnitD.av)) F=F (c.units.l[n].segs.l.flatMap SegD.av) c.units.l[n].segs.l.length:=fun F=>by
   unfold UnitD.av;exact D6
  rw[e,A26 q.2,if_pos rfl]
  unfold A15
  rw[Int.toNat_natCast,List.getElem?_eq_getElem hn]
 rw[show(f==6)=false by simpa using b,cf,if_neg b]
 by_cases s:f=7
 ·subst s;rfl
 rw[show(f==7)=false by simpa using s,cf,if_neg s]
 by_cases t:f=8
 ·subst t;rfl
 rw[show(f==8)=false by simpa using t,cf,if_neg t]
 by_cases u:f=9
 ·subst u;rfl
 rw[show(f==9)=false by simpa using u,cf,if_neg u]
theorem A16 {lo hi v:Int} {A B:O R}:cond ((decide (v<lo))==false) (cond (cond false true (decide (v>hi))) B A) B=cond (KS lo hi v) A B:=by
 unfold KS
 by_cases b:v<lo
 ·rw[decide_eq_true b,decide_eq_false (show ¬ lo≤v by omega)];rfl
 ·rw[decide_eq_false b,decide_eq_true (show lo≤v by omega)]
  by_cases c:v>hi
  ·rw[decide_eq_true c,decide_eq_false (show ¬ v≤hi by omega)];rfl
  ·rw[decide_eq_false c,decide_eq_true (show v≤hi by omega)];rfl
def A6s (j:Nat) (a b v:Int):Int:=match j with | 0=>a | 1=>b | _=>v
theorem ju {N n j:Nat} {c:CaseD} {o o':Bool} {k a b v f:Int} {row:LA} {K:Bool→O R} (q:j<3) (d:∀ F:Int→O R,At .i64 (row.drop (2+j*1)) F=F f) (hs:Small c N) (hH:1≤c.hours∧c.hours≤24) (e:f=6→0≤a∧a<(c.units.l.length:Int)) :
  Fm N K a b v o c.av o' (Alc k a b v) row (n+1) (j:Int)=cond (KS (vr c a f).1 (vr c a f).2 (A6s j a b v)) (Fm N K a b v o c.av o' (Alc k a b v) row n ((j+1:Nat):Int)) (K false):=by
 have i:=fun K=>Aa6 (R:=R) (N:=N) (c:=c) (o:=o) (f:=f) (a:=a) (K:=K) hs hH e
 have m:∀ F:Int→O R,At .i64 (List.drop 1 (Alc k a b v)) F=F a:=fun F=>rfl
 rw[Fm];unfold C'
 simp only[Int.toNat_natCast,d,m,Co,i]
 rcases j with _ | _ | _ | j
 ·exact A16
 ·exact A16
 ·exact A16
 ·omega
end
end Gx.Cf

namespace Gx
open Go Go.Proofs
open IntKind (wrap)
set_option maxRecDepth 100000
noncomputable section
variable {R:Type} (N:Nat)
def DA (r0:LA→Int→O R) (l:Int) (g i f:Bool) (d p:LA) (k0:Bool→Bool→LA→Nat→LA→Int→LA→O R) (q r:Bool) (m:LA) (b:Nat) (o:LA) (c:Int) (e:LA):O R :=
 (cond (decide (c<3)) (cond (Ah c 3) (At .i64 (o.drop ((c.toNat)*1)) fun v=>(cond (v==0) (k0 q r m b o (wrap .i64 (c+1)) e) (cond (((b:Nat):Int)==0) (r0 [(.int .i64 0),(.int .i64 0),(.int .i64 0),(.int .i64 0)] 2) (cond (Nat.ble 8 (d.length)) (Rv N (d.take 8) f v (fun w ad ae=>(cond ad (cond (Ah 0 b) (BT m fun af=>(Ce N (ae.take (w*1)) w false true af (fun u=>(cond (Ah c 3) (cond ((Nat.beq 1 1)&&((Nat.ble ((0+((c.toNat)*1))+1) (e.length))&&(!false))) (cond (q==true) (cond (Ah c 3) (At .i64 ((e.set (0+((c.toNat)*1)) (.int .i64 u)).drop (0+((c.toNat)*1))) fun ag=>(cond ((decide ((0:Int)≤(1:Int)))&&((decide (1≤((b:Nat):Int)))&&((decide (((b:Nat):Int)≤((b:Nat):Int)))&&(decide (((b:Nat):Int)≤((b:Nat):Int)))))) (k0 (cond true (decide (ag≥0)) false) r ((m.drop 1).take ((b - 1)*1)) (b - 1) o (wrap .i64 (c+1)) (e.set (0+((c.toNat)*1)) (.int .i64 u))) none)) none) (cond ((decide ((0:Int)≤(1:Int)))&&((decide (1≤((b:Nat):Int)))&&((decide (((b:Nat):Int)≤((b:Nat):Int)))&&(decide (((b:Nat):Int)≤((b:Nat):Int)))))) (k0 false r ((m.drop 1).take ((b - 1)*1)) (b - 1) o (wrap .i64 (c+1)) (e.set (0+((c.toNat)*1)) (.int .i64 u))) none)) none) none)))) none) (cond (Ah 0 b) (BT m fun ah=>(OQ N ah (fun x ai y=>(cond (y != 0) (r0 [(.int .i64 0),(.int .i64 0),(.int .i64 0),(.int .i64 0)] y) (cond (Ah c 3) (cond ((Nat.beq 1 1)&&((Nat.ble ((0+((c.toNat)*1))+1) (e.length))&&(!false))) (cond (r==true) (cond ((decide ((0:Int)≤(1:Int)))&&((decide (1≤((b:Nat):Int)))&&((decide (((b:Nat):Int)≤((b:Nat):Int)))&&(decide (((b:Nat):Int)≤((b:Nat):Int)))))) (k0 q (cond true ai false) ((m.drop 1).take ((b - 1)*1)) (b - 1) o (wrap .i64 (c+1)) (e.set (0+((c.toNat)*1)) (.int .i64 x))) none) (cond ((decide ((0:Int)≤(1:Int)))&&((decide (1≤((b:Nat):Int)))&&((decide (((b:Nat):Int)≤((b:Nat):Int)))&&(decide (((b:Nat):Int)≤((b:Nat):Int)))))) (k0 q false ((m.drop 1).take ((b - 1)*1)) (b - 1) o (wrap .i64 (c+1)) (e.set (0+((c.toNat)*1)) (.int .i64 x))) none)) none) none))))) none)))) none)))) none) (cond (Ah l 8) (At .i64 (p.drop (0+((l.toNat)*5))) fun z=>(At .i64 e fun aa=>(At .i64 (e.drop 1) fun ab=>(At .i64 (e.drop 2) fun ac=>(cond (decide (((b:Nat):Int)>0)) (r0 [(.int .i64 0),(.int .i64 0),(.int .i64 0),(.int .i64 0)] 2) (cond (!q) (r0 [(.int .i64 0),(.int .i64 0),(.int .i64 0),(.int .i64 0)] 12) (cond ((!r)==false) (cond (Nat.ble 8 (d.length)) (FZ N (d.take 8) f [(.int .i64 z),(.int .i64 aa),(.int .i64 ab),(.int .i64 ac)] false (fun aj=>(cond (cond false true (!aj)) (r0 [(.int .i64 0),(.int .i64 0),(.int .i64 0),(.int .i64 0)] 3) (r0 [(.int .i64 z),(.int .i64 aa),(.int .i64 ab),(.int .i64 ac)] 0)))) none) (r0 [(.int .i64 0),(.int .i64 0),(.int .i64 0),(.int .i64 0)] 3)))))))) none))
def Jw (r0:LA→Int→O R) (l:Int) (g i f:Bool) (d p:LA):Nat→Bool→Bool→LA→Nat→LA→Int→LA→O R
 | 0,_,_,_,_,_,_,_=>none
 | n+1,q,r,m,b,o,c,e=>(DA N r0 l g i f d p (Jw r0 l g i f d p n) q r m b o c e)
def eZ (r0:LA→Int→O R) (q0:Int→LA→Bool→Bool→LA→Nat→LA→Int→LA→O R) (d:LA) (f:Bool) (t:LA) (s:Nat) (g i:Bool):O R :=
 (ON N (fun p=>(Bm N 8 p t s g i (fun l=>(cond (decide (l<0)) (r0 [(.int .i64 0),(.int .i64 0),(.int .i64 0),(.int .i64 0)] 2) (cond ((decide ((0:Int)≤(1:Int)))&&((decide (1≤((s:Nat):Int)))&&((decide (((s:Nat):Int)≤((s:Nat):Int)))&&(decide (((s:Nat):Int)≤((s:Nat):Int)))))) (cond (Ah l 8) (cond (Nat.ble 3 ((p.drop ((0+((l.toNat)*5))+2)).length)) (q0 l p true true ((t.drop 1).take ((s - 1)*1)) (s - 1) ((p.drop ((0+((l.toNat)*5))+2)).take 3) 0 [(.int .i64 0),(.int .i64 0),(.int .i64 0)]) none) none) none))))))
def OR:=(Ai (fun (N:Nat) (d:LA) (f:Bool) (t:LA) (s:Nat) (g i:Bool) (r0:LA→Int→O R)=>(eZ N r0 (fun l p q r m b o c e=>(Jw N r0 l g i f d p N q r m b o c e)) d f t s g i))).1
theorem oR (d f t s g i r0):(@OR R N d f t s g i r0)=(eZ N r0 (fun l p q r m b o c e=>(Jw N r0 l g i f d p N q r m b o c e)) d f t s g i):=by rw[OR,(Ai _).2]
def uK:Hints:={ H:=(hS hL (hS hL (hS hL (hS hL (hS hL (hS hL (hS hL (hS (hS hL (hS (hP [2,4,6,7,8,9,10,11,33,34] hL) hL)) hL)))))))),modes:=[(3,0),(0,0)] }
def Aa7:Gm:=[(183,tz N),(184,Qu N),(115,Aq8 N),(186,W7 N),(187,Ak3 N),(109,uI N)]
def Arf (F:KF R):=Ki Tryz.f107 uK (Aa7 N) [] N F
def Zu (F:KF R):LA→Int→O R:=(fun ak al=>F (.tup [(.pagg ak false),(iv al)]) [])
def Arg (l:Int) (g i f:Bool) (d p:LA) (q r:Bool) (m:LA) (b:Nat) (o:LA) (c:Int) (e:LA):St:=⟨[(2,(op 0)),(4,(op 1)),(6,(.own 300002 0 8)),(7,(iv l)),(8,(op 3)),(9,(.bool q)),(10,(.bool r)),(11,(.imm m b 1 g i)),(33,(.pagg o false)),(34,(iv c))],(hq [(bP f 0 d),(bQ 0 [(iv 0),(iv 0),(iv 0),(iv 0)]),(bQ 5 p),(bQ 0 e)])⟩
def Arh (F:KF R):=Arf N F [1,1,1,1,1,1,1,0,1,0] []
theorem cO (F:KF R) (l:Int) (g i f:Bool) (d p:LA):∀ (n:Nat) (q r:Bool) (m:LA) (b:Nat) (o:LA) (c:Int) (e:LA),Ak (Arh N F) n (Arg l g i f d p q r m b o c e)=(Jw N (Zu F) l g i f d p n q r m b o c e)
 | 0,_,_,_,_,_,_,_=>by kernel_rfl
 | n+1,q,r,m,b,o,c,e=>Eq.trans (by kernel_rfl) (Bv (DA N (Zu F) l g i f d p · q r m b o c e) (funext fun q=>funext fun r=>funext fun m=>funext fun b=>funext fun o=>funext fun c=>funext fun e=>(cO F l g i f d p n q r m b o c e)):_)
theorem uL (d:LA) (f:Bool) (t:LA) (s:Nat) (g i:Bool) (F:KF R):C7 (Aa7 N) uK N 107 [(.pagg d f),(.imm t s 1 g i)] [] F=(OR N d f t s g i (Zu F)):=by
 rw[oR]
 exact Eq.trans (by kernel_rfl) (Bv (eZ N (Zu F) · d f t s g i) (funext fun l=>funext fun p=>funext fun q=>funext fun r=>funext fun m=>funext fun b=>funext fun o=>funext fun c=>funext fun e=>(Ac ..).trans (cO N F l g i f d p N q r m b o c e)):_)
def oS (a:LA) (h:Aj) (k:KF R):O R :=
 match a,h with
 | [(.pagg d f),(.imm t s 1 g i)],[]=>(OR N d f t s g i (Zu k))
 | _,_=>none
theorem uM:An N 107 @oS:=by
 intro R Q a h k j;unfold oS;split;exact A3 (uL ..) (uL ..) ⟨uA N,Qv N,Aq9 N,W8 N,Ak4 N,uJ N,trivial⟩;exact A5
def Ari:=A4 (uM N)
def Arj:=C8 (uM N)
def To (N:Nat) (k0:List UInt8→Nat→Int→Bool→LA→O R) (r0:Nat→Int→Int→LA→O R) (l:List UInt8) (d:Int) (m c:Bool) (b:LA) (o:Nat) (q:Int) (s p:LA):O R :=
 (cond (q != 0) (r0 0 d q []) (cond (Nat.ble 4 (p.length)) (cond ((Nat.beq ((p.take 4).length) 4)&&(Nat.ble 4 4)) (cond ((Nat.ble (o+1) 140737488355328)&&(Nat.ble ((o+1)*32) 140737488355328)) (k0 l (o+1) (wrap .i64 (d+1)) m ((s.take (o*4))++((setCells [(.int .i64 0),(.int .i64 0),(.int .i64 0),(.int .i64 0)] 0 (p.take 4)).take 4))) none) none) none))
def DB (r0:Nat→Int→Int→LA→O R) (c:Bool) (b:LA) (k0:List UInt8→Nat→Int→Bool→LA→O R) (q1:List UInt8→Bool→Nat→Int→LA→LA→O R) (g:List UInt8) (e:Nat) (d:Int) (i:Bool) (f:LA):O R :=
 (cond i (strings_Cut N g ([10]:List UInt8) (fun x l m=>(cI N x (fun u y=>(cond (((u:Nat):Int)==0) (k0 l e (wrap .i64 (d+1)) m f) (cond (Nat.ble 8 (b.length)) (OR N (b.take 8) c (y.take (u*1)) u false true (fun t v=>(cond ((Nat.beq (t.length) 4)&&((Nat.ble 4 4)&&(!false))) (cond ((v==0)==true) (cond (cond true (((e:Nat):Int)==256) false) (q1 l m e 8 f (setCells [(.int .i64 0),(.int .i64 0),(.int .i64 0),(.int .i64 0)] 0 t)) (q1 l m e v f (setCells [(.int .i64 0),(.int .i64 0),(.int .i64 0),(.int .i64 0)] 0 t))) (q1 l m e v f (setCells [(.int .i64 0),(.int .i64 0),(.int .i64 0),(.int .i64 0)] 0 t))) none))) none)))))) (r0 e 0 0 f))
def Lv (r0:Nat→Int→Int→LA→O R) (c:Bool) (b:LA):Nat→List UInt8→Nat→Int→Bool→LA→O R
 | 0,_,_,_,_,_=>none
 | n+1,g,e,d,i,f=>(DB N r0 c b (Lv r0 c b n) (fun l m o q s p=>(To N (Lv r0 c b n) r0 l d m c b o q s p)) g e d i f)
def e_ (r0:Nat→Int→Int→LA→O R) (q0:List UInt8→Nat→Int→Bool→LA→O R) (b:LA) (c:Bool) (r:List UInt8):O R :=
 (cond (Nat.ble 8 (b.length)) (FY N (b.take 8) c (fun z w=>(cond ((Nat.beq (z.length) 3)&&((Nat.ble 3 3)&&(!false))) (cond (w != 0) (r0 0 0 w []) (cond (decide ((((r.length):Nat):Int)>1048576)) (r0 0 0 8 []) (q0 r 0 1 true []))) none))) none)
def Nh:=(Ai (fun (N:Nat) (b:LA) (c:Bool) (r:List UInt8) (r0:Nat→Int→Int→LA→O R)=>(e_ N r0 (fun g e d i f=>(Lv N r0 c b N g e d i f)) b c r))).1
theorem oT (b c r r0):(@Nh R N b c r r0)=(e_ N r0 (fun g e d i f=>(Lv N r0 c b N g e d i f)) b c r):=by rw[Nh,(Ai _).2]
def uN:Hints:={ H:=(hS hL (hS hL (hS hL (hS hL (hS (hS hL (hS (hP [1,2,9,10,11] (hS hL (hS (hS (hS hL (hS hL (hS hL (hS hL (hS hL (hJ [1,2,9,10,11,14,15] hL hL)))))) hL) hL))) hL)) hL))))),nils:=[(4,4),(9,4)],modes:=[(2,4),(0,0),(0,0)] }
def Aa8:Gm:=[(104,th N),(105,EQ N),(106,Aqz N),(107,Ari N)]
def uO (F:KF R):=Ki Tryz.f44 uN (Aa8 N) [] N F
def Px (F:KF R):Nat→Int→Int→LA→O R:=(fun aa ab ac ad=>F (.tup [(.own 300000 0 aa),(iv ab),(iv ac)]) (hq [(bQ 4 ad)]))
def Ark (l:List UInt8) (d:Int) (m c:Bool) (b:LA) (o:Nat) (q:Int) (s p:LA):St:=⟨[(1,(.str l)),(2,(op 0)),(9,(.own 300001 0 o)),(10,(iv d)),(11,(.bool m)),(14,(op 2)),(15,(iv q))],(hq [(bP c 0 b),(bQ 4 s),(bQ 0 p)])⟩
def Arl (F:KF R) (Q0:St→O R):=uO N F [1,1,1,1,0,1,0,0,1,0,0,1,1,1,1,1,1] [Q0]
def uP (c:Bool) (b:LA) (g:List UInt8) (e:Nat) (d:Int) (i:Bool) (f:LA):St:=⟨[(1,(.str g)),(2,(op 0)),(9,(.own 300001 0 e)),(10,(iv d)),(11,(.bool i))],(hq [(bP c 0 b),(bQ 4 f)])⟩
def uQ (F:KF R):=uO N F [1,1,1,1,0,1,0] []
theorem Aa9 (Q0:St→O R) (F:KF R) (l:List UInt8) (d:Int) (m c:Bool) (b:LA):∀ (o:Nat) (q:Int) (s p:LA),B8 (Arl N F Q0) (Ark l d m c b o q s p)=(To N (fun g e d i f=>Q0 (uP c b g e d i f)) (Px F) l d m c b o q s p):=by
 intro o q s p
 kernel_rfl
theorem cP (F:KF R) (c:Bool) (b:LA):∀ (n:Nat) (g:List UInt8) (e:Nat) (d:Int) (i:Bool) (f:LA),Ak (uQ N F) n (uP c b g e d i f)=(Lv N (Px F) c b n g e d i f)
 | 0,_,_,_,_,_=>by kernel_rfl
 | n+1,g,e,d,i,f=>have e0:=(funext fun g=>funext fun e=>funext fun d=>funext fun i=>funext fun f=>(cP F c b n g e d i f))
  Eq.trans (by kernel_rfl) (PQ (DB N (Px F) c b · · g e d i f) e0 (funext fun l=>funext fun m=>funext fun o=>funext fun q=>funext fun s=>funext fun p=>(A2 ..).trans ((Aa9 N (Ak (uQ N F) n) F l d m c b o q s p).trans (Bv (To N · (Px F) l d m c b o q s p) e0))):_)
theorem uR (b:LA) (c:Bool) (r:List UInt8) (F:KF R):C7 (Aa8 N) uN N 44 [(.pagg b c),(.str r)] [] F=(Nh N b c r (Px F)):=by
 rw[oT]
 exact Eq.trans (by kernel_rfl) (Bv (e_ N (Px F) · b c r) (funext fun g=>funext fun e=>funext fun d=>funext fun i=>funext fun f=>(Ac ..).trans (cP N F c b N g e d i f)):_)
def oU (a:LA) (h:Aj) (k:KF R):O R :=
 match a,h with
 | [(.pagg b c),(.str r)],[]=>(Nh N b c r (Px k))
 | _,_=>none
theorem uS:An N 44 @oU:=by
 intro R Q a h k j;unfold oU;split;exact A3 (uR ..) (uR ..) ⟨ti N,Y_ N,Aq0 N,Arj N,trivial⟩;exact A5
def uT:=A4 (uS N)
def uU:=C8 (uS N)
def Yd (r0:Nat→LA→O R) (b:Int) (k0:Nat→Int→LA→O R) (d:Nat) (c:Int) (e:LA):O R :=
 (cond (decide (c<b)) (Yj N (fun f=>(cond (Ah c d) (cond ((Nat.beq (f.length) 3)&&((Nat.ble ((0+((c.toNat)*3))+3) (e.length))&&(!false))) (k0 d (wrap .i64 (c+1)) (setCells e (0+((c.toNat)*3)) f)) none) none))) (r0 d e))
def Jx (r0:Nat→LA→O R) (b:Int):Nat→Nat→Int→LA→O R
 | 0,_,_,_=>none
 | n+1,d,c,e=>(Yd N r0 b (Jx r0 b n) d c e)
def R_ (N:Nat) (r0:Nat→LA→O R) (q0:Nat→Int→LA→O R) (b:Int):O R :=
 (cond ((decide (0≤b))&&((decide (b≤b))&&((decide (b≤140737488355328))&&(decide ((b*((56:Nat):Int))≤140737488355328))))) (q0 (b.toNat) 0 (List.flatten (List.replicate (b.toNat) ([(.bool false),.nsl,.nsl]:LA)))) none)
def Fg:=(Ai (fun (N:Nat) (b:Int) (r0:Nat→LA→O R)=>(R_ N r0 (fun d c e=>(Jx N r0 b N d c e)) b))).1
theorem iq (b r0):(@Fg R N b r0)=(R_ N r0 (fun d c e=>(Jx N r0 b N d c e)) b):=by rw[Fg,(Ai _).2]
def oV:Hints:={ H:=(hS hL (hS hL (hS (hS hL (hS (hP [0,3,4] hL) hL)) hL))),nils:=[(2,3)],modes:=[(2,3)] }
def uV:Gm:=[(151,YL N)]
def Ald (F:KF R):=Ki Tryz.f255 oV (uV N) [] N F
def U6 (F:KF R):Nat→LA→O R:=(fun g i=>F (.own 300000 0 g) (hq [(bQ 3 i)]))
def Ale (b:Int) (d:Nat) (c:Int) (e:LA):St:=⟨[(0,(iv b)),(3,(.own 300000 0 d)),(4,(iv c))],(hq [(bQ 3 e)])⟩
def Alf (F:KF R):=Ald N F [1,1,0,1,0] []
theorem WH (F:KF R) (b:Int):∀ (n d:Nat) (c:Int) (e:LA),Ak (Alf N F) n (Ale b d c e)=(Jx N (U6 F) b n d c e)
 | 0,_,_,_=>by kernel_rfl
 | n+1,d,c,e=>Eq.trans (by kernel_rfl) (Bv (Yd N (U6 F) b · d c e) (funext fun d=>funext fun c=>funext fun e=>(WH F b n d c e)):_)
theorem oW (b:Int) (F:KF R):C7 (uV N) oV N 255 [(iv b)] [] F=(Fg N b (U6 F)):=by
 rw[iq]
 exact Eq.trans (by kernel_rfl) (Bv (R_ N (U6 F) · b) (funext fun d=>funext fun c=>funext fun e=>(Ac ..).trans (WH N F b N d c e)):_)
def iw (a:LA) (h:Aj) (k:KF R):O R :=
 match a,h with
 | [(.int .i64 b)],[]=>(Fg N b (U6 k))
 | _,_=>none
theorem oX:An N 255 @iw:=by
 intro R Q a h k j;unfold iw;split;exact A3 (oW ..) (oW ..) ⟨YM N,trivial⟩;exact A5
def Alg:=A4 (oX N)
def Alh:=C8 (oX N)
def KT (r0:Nat→Nat→Nat→Nat→Nat→Nat→Nat→LA→LA→LA→LA→LA→LA→LA→LA→O R) (c:Bool) (b:LA) (d f g i p r:Nat) (e l m o q s:LA) (k4:Int→Nat→LA→O R) (v:Int) (t:Nat) (w:LA):O R :=
 (Bw 12 (b.drop 3) fun bv aj=>(cond (decide (v<((aj:Nat):Int))) (At .i64 b fun ak=>(Fg N ak (fun ab al=>(cond ((Nat.ble (t+1) 140737488355328)&&(Nat.ble ((t+1)*24) 140737488355328)) (k4 (wrap .i64 (v+1)) (t+1) ((w.take (t*1))++[(.imm (al.take (ab*3)) ab 3 false false)])) none)))) (r0 d f g i p r t e l m o q s w [])))
def U7 (r0:Nat→Nat→Nat→Nat→Nat→Nat→Nat→LA→LA→LA→LA→LA→LA→LA→LA→O R) (c:Bool) (b:LA) (d f g i p r:Nat) (e l m o q s:LA):Nat→Int→Nat→LA→O R
 | 0,_,_,_=>none
 | n+1,v,t,w=>(KT N r0 c b d f g i p r e l m o q s (U7 r0 c b d f g i p r e l m o q s n) v t w)
def Ye (r0:Nat→Nat→Nat→Nat→Nat→Nat→Nat→LA→LA→LA→LA→LA→LA→LA→LA→O R) (c:Bool) (b:LA) (d f g i p:Nat) (e l m o q:LA) (k3:Int→Nat→LA→O R) (q4:Int→Nat→LA→O R) (x:Int) (r:Nat) (s:LA):O R :=
 (Bw 3 (b.drop 2) fun bw am=>(cond (decide (x<((am:Nat):Int))) (At .i64 b fun an=>(Fg N an (fun ac ao=>(cond ((Nat.ble (r+1) 140737488355328)&&(Nat.ble ((r+1)*24) 140737488355328)) (k3 (wrap .i64 (x+1)) (r+1) ((s.take (r*1))++[(.imm (ao.take (ac*3)) ac 3 false false)])) none)))) (q4 0 0 [])))
def Mz (r0:Nat→Nat→Nat→Nat→Nat→Nat→Nat→LA→LA→LA→LA→LA→LA→LA→LA→O R) (c:Bool) (b:LA) (d f g i p:Nat) (e l m o q:LA):Nat→Int→Nat→LA→O R
 | 0,_,_,_=>none
 | n+1,x,r,s=>(Ye N r0 c b d f g i p e l m o q (Mz r0 c b d f g i p e l m o q n) (fun v t w=>(U7 N r0 c b d f g i p r e l m o q s N v t w)) x r s)
def KU (r0:Nat→Nat→Nat→Nat→Nat→Nat→Nat→LA→LA→LA→LA→LA→LA→LA→LA→O R) (c:Bool) (b:LA) (d f g i:Nat) (e l m o:LA) (k2:Int→Nat→LA→O R) (q3:Int→Nat→LA→O R) (y:Int) (p:Nat) (q:LA):O R :=
 (Bw 5 (b.drop 6) fun bx ap=>(cond (decide (y<((ap:Nat):Int))) (At .i64 b fun aq=>(Fg N aq (fun ad ar=>(cond ((Nat.ble (p+1) 140737488355328)&&(Nat.ble ((p+1)*24) 140737488355328)) (k2 (wrap .i64 (y+1)) (p+1) ((q.take (p*1))++[(.imm (ar.take (ad*3)) ad 3 false false)])) none)))) (q3 0 0 [])))
def U8 (r0:Nat→Nat→Nat→Nat→Nat→Nat→Nat→LA→LA→LA→LA→LA→LA→LA→LA→O R) (c:Bool) (b:LA) (d f g i:Nat) (e l m o:LA):Nat→Int→Nat→LA→O R
 | 0,_,_,_=>none
 | n+1,y,p,q=>(KU N r0 c b d f g i e l m o (U8 r0 c b d f g i e l m o n) (fun x r s=>(Mz N r0 c b d f g i p e l m o q N x r s)) y p q)
def KV (r0:Nat→Nat→Nat→Nat→Nat→Nat→Nat→LA→LA→LA→LA→LA→LA→LA→LA→O R) (c:Bool) (b:LA) (d:Nat) (e:LA) (k1:Int→Nat→Nat→Nat→LA→LA→LA→O R) (q2:Int→Nat→LA→O R) (z:Int) (f g i:Nat) (l m o:LA):O R :=
 (Bw 9 (b.drop 5) fun bz au=>(cond (decide (z<((au:Nat):Int))) (At .i64 b fun av=>(Fg N av (fun ae aw=>(cond ((Nat.ble (f+1) 140737488355328)&&(Nat.ble ((f+1)*24) 140737488355328)) (At .i64 b fun ax=>(Fg N ax (fun af ay=>(cond ((Nat.ble (g+1) 140737488355328)&&(Nat.ble ((g+1)*24) 140737488355328)) (At .i64 b fun az=>(Fg N az (fun ag ba=>(cond ((Nat.ble (i+1) 140737488355328)&&(Nat.ble ((i+1)*24) 140737488355328)) (k1 (wrap .i64 (z+1)) (f+1) (g+1) (i+1) ((l.take (f*1))++[(.imm (aw.take (ae*3)) ae 3 false false)]) ((m.take (g*1))++[(.imm (ay.take (af*3)) af 3 false false)]) ((o.take (i*1))++[(.imm (ba.take (ag*3)) ag 3 false false)])) none)))) none)))) none)))) (q2 0 0 [])))
def U9 (r0:Nat→Nat→Nat→Nat→Nat→Nat→Nat→LA→LA→LA→LA→LA→LA→LA→LA→O R) (c:Bool) (b:LA) (d:Nat) (e:LA):Nat→Int→Nat→Nat→Nat→LA→LA→LA→O R
 | 0,_,_,_,_,_,_,_=>none
 | n+1,z,f,g,i,l,m,o=>(KV N r0 c b d e (U9 r0 c b d e n) (fun y p q=>(U8 N r0 c b d f g i e l m o N y p q)) z f g i l m o)
def Yf (r0:Nat→Nat→Nat→Nat→Nat→Nat→Nat→LA→LA→LA→LA→LA→LA→LA→LA→O R) (c:Bool) (b:LA) (k0:Int→Nat→LA→O R) (q1:Int→Nat→Nat→Nat→LA→LA→LA→O R) (u:Int) (d:Nat) (e:LA):O R :=
 (Bw 22 (b.drop 4) fun ca bb=>(cond (decide (u<((bb:Nat):Int))) (At .i64 b fun aa=>(cond ((decide (0≤aa))&&((decide (aa≤aa))&&((decide (aa≤140737488355328))&&(decide ((aa*((8:Nat):Int))≤140737488355328))))) (At .i64 b fun bc=>(Fg N bc (fun ah bd=>(At .i64 b fun be=>(Fg N be (fun ai bf=>(cond ((Nat.ble (d+1) 140737488355328)&&(Nat.ble ((d+1)*72) 140737488355328)) (k0 (wrap .i64 (u+1)) (d+1) ((e.take (d*3))++[(.imm (List.take ((aa.toNat)*1) (List.replicate (aa.toNat) (.int .i64 0))) (aa.toNat) 1 false false),(.imm (bd.take (ah*3)) ah 3 false false),(.imm (bf.take (ai*3)) ai 3 false false)])) none))))))) none)) (q1 0 0 0 0 [] [] [])))
def Jy (r0:Nat→Nat→Nat→Nat→Nat→Nat→Nat→LA→LA→LA→LA→LA→LA→LA→LA→O R) (c:Bool) (b:LA):Nat→Int→Nat→LA→O R
 | 0,_,_,_=>none
 | n+1,u,d,e=>(Yf N r0 c b (Jy r0 c b n) (fun z f g i l m o=>(U9 N r0 c b d e N z f g i l m o)) u d e)
def SA (N:Nat) (r0:Nat→Nat→Nat→Nat→Nat→Nat→Nat→LA→LA→LA→LA→LA→LA→LA→LA→O R) (q0:Int→Nat→LA→O R) (b:LA) (c:Bool):O R :=
 (q0 0 0 [])
def DP:=(Ai (fun (N:Nat) (b:LA) (c:Bool) (r0:Nat→Nat→Nat→Nat→Nat→Nat→Nat→LA→LA→LA→LA→LA→LA→LA→LA→O R)=>(SA N r0 (fun u d e=>(Jy N r0 c b N u d e)) b c))).1
theorem ix (b c r0):(@DP R N b c r0)=(SA N r0 (fun u d e=>(Jy N r0 c b N u d e)) b c):=by rw[DP,(Ai _).2]
def oY:Hints:={ H:=(hS hL (hS hL (hS (hS hL (hS (hP [1,2,3,4] hL) hL)) (hS (hS hL (hS (hP [1,2,3,5] hL) hL)) (hS (hS hL (hS (hP [1,2,3,6] hL) hL)) (hS (hS hL (hS (hP [1,2,3,7] hL) hL)) (hS (hS hL (hS (hP [1,2,3,8] hL) hL)) hL))))))),cob:=[27,1000002,1000003] }
def uW:Gm:=[(255,Alg N)]
def Va (F:KF R):=Ki Tryz.f188 oY (uW N) [] N F
def Dw (F:KF R):Nat→Nat→Nat→Nat→Nat→Nat→Nat→LA→LA→LA→LA→LA→LA→LA→LA→O R:=(fun bg bh bi bj bk bl bm bn bo bp bq br bs bt bu=>F (.agg [(.own 300000 0 bg),(.own 300001 0 bh),(.own 300002 0 bi),(.own 300003 0 bj),(.own 300004 0 bk),(.own 300005 0 bl),(.own 300006 0 bm),(.own 300007 0 0)]) (hq [(bQ 3 bn),(bQ 1 bo),(bQ 1 bp),(bQ 1 bq),(bQ 1 br),(bQ 1 bs),(bQ 1 bt),(bQ 4 bu)]))
def Ali (c:Bool) (b:LA) (d f g i p r:Nat) (e l m o q s:LA) (v:Int) (t:Nat) (w:LA):St:=⟨[(1,(op 0)),(2,(op 1)),(3,(op 2)),(8,(iv v))],(hq [(bP c 0 b),(bN 0 [(.own 300003 0 0),(.own 300004 0 0),(.own 300005 0 0),(.own 300006 0 0),(.own 300007 0 0),(.own 300008 0 0),(.own 300009 0 0),(.own 300010 0 0)]),(bN 0 [(.own 300011 0 d),(.own 300012 0 f),(.own 300013 0 g),(.own 300014 0 i),(.own 300015 0 p),(.own 300016 0 r),(.own 300017 0 t),(.own 300018 0 0)]),(bQ 3 []),(bQ 1 []),(bQ 1 []),(bQ 1 []),(bQ 1 []),(bQ 1 []),(bQ 1 []),(bQ 4 []),(bQ 3 e),(bQ 1 l),(bQ 1 m),(bQ 1 o),(bQ 1 q),(bQ 1 s),(bQ 1 w),(bQ 4 [])])⟩
def Alj (F:KF R):=Va N F [1,1,1,1,1,1,0,1,0] []
def Alk (c:Bool) (b:LA) (d f g i p:Nat) (e l m o q:LA) (x:Int) (r:Nat) (s:LA):St:=⟨[(1,(op 0)),(2,(op 1)),(3,(op 2)),(7,(iv x))],(hq [(bP c 0 b),(bN 0 [(.own 300003 0 0),(.own 300004 0 0),(.own 300005 0 0),(.own 300006 0 0),(.own 300007 0 0),(.own 300008 0 0),(.own 300009 0 0),(.own 300010 0 0)]),(bN 0 [(.own 300011 0 d),(.own 300012 0 f),(.own 300013 0 g),(.own 300014 0 i),(.own 300015 0 p),(.own 300016 0 r),(.own 300017 0 0),(.own 300018 0 0)]),(bQ 3 []),(bQ 1 []),(bQ 1 []),(bQ 1 []),(bQ 1 []),(bQ 1 []),(bQ 1 []),(bQ 4 []),(bQ 3 e),(bQ 1 l),(bQ 1 m),(bQ 1 o),(bQ 1 q),(bQ 1 s),(bQ 1 []),(bQ 4 [])])⟩
def All (F:KF R):=Va N F [1,1,1,1,1,0,1,0] []
def Alm (c:Bool) (b:LA) (d f g i:Nat) (e l m o:LA) (y:Int) (p:Nat) (q:LA):St:=⟨[(1,(op 0)),(2,(op 1)),(3,(op 2)),(6,(iv y))],(hq [(bP c 0 b),(bN 0 [(.own 300003 0 0),(.own 300004 0 0),(.own 300005 0 0),(.own 300006 0 0),(.own 300007 0 0),(.own 300008 0 0),(.own 300009 0 0),(.own 300010 0 0)]),(bN 0 [(.own 300011 0 d),(.own 300012 0 f),(.own 300013 0 g),(.own 300014 0 i),(.own 300015 0 p),(.own 300016 0 0),(.own 300017 0 0),(.own 300018 0 0)]),(bQ 3 []),(bQ 1 []),(bQ 1 []),(bQ 1 []),(bQ 1 []),(bQ 1 []),(bQ 1 []),(bQ 4 []),(bQ 3 e),(bQ 1 l),(bQ 1 m),(bQ 1 o),(bQ 1 q),(bQ 1 []),(bQ 1 []),(bQ 4 [])])⟩
def Aln (F:KF R):=Va N F [1,1,1,1,0,1,0] []
def Alo (c:Bool) (b:LA) (d:Nat) (e:LA) (z:Int) (f g i:Nat) (l m o:LA):St:=⟨[(1,(op 0)),(2,(op 1)),(3,(op 2)),(5,(iv z))],(hq [(bP c 0 b),(bN 0 [(.own 300003 0 0),(.own 300004 0 0),(.own 300005 0 0),(.own 300006 0 0),(.own 300007 0 0),(.own 300008 0 0),(.own 300009 0 0),(.own 300010 0 0)]),(bN 0 [(.own 300011 0 d),(.own 300012 0 f),(.own 300013 0 g),(.own 300014 0 i),(.own 300015 0 0),(.own 300016 0 0),(.own 300017 0 0),(.own 300018 0 0)]),(bQ 3 []),(bQ 1 []),(bQ 1 []),(bQ 1 []),(bQ 1 []),(bQ 1 []),(bQ 1 []),(bQ 4 []),(bQ 3 e),(bQ 1 l),(bQ 1 m),(bQ 1 o),(bQ 1 []),(bQ 1 []),(bQ 1 []),(bQ 4 [])])⟩
def Alp (F:KF R):=Va N F [1,1,1,0,1,0] []
def Alq (c:Bool) (b:LA) (u:Int) (d:Nat) (e:LA):St:=⟨[(1,(op 0)),(2,(op 1)),(3,(op 2)),(4,(iv u))],(hq [(bP c 0 b),(bN 0 [(.own 300003 0 0),(.own 300004 0 0),(.own 300005 0 0),(.own 300006 0 0),(.own 300007 0 0),(.own 300008 0 0),(.own 300009 0 0),(.own 300010 0 0)]),(bN 0 [(.own 300011 0 d),(.own 300012 0 0),(.own 300013 0 0),(.own 300014 0 0),(.own 300015 0 0),(.own 300016 0 0),(.own 300017 0 0),(.own 300018 0 0)]),(bQ 3 []),(bQ 1 []),(bQ 1 []),(bQ 1 []),(bQ 1 []),(bQ 1 []),(bQ 1 []),(bQ 4 []),(bQ 3 e),(bQ 1 []),(bQ 1 []),(bQ 1 []),(bQ 1 []),(bQ 1 []),(bQ 1 []),(bQ 4 [])])⟩
def Alr (F:KF R):=Va N F [1,1,0,1,0] []
theorem WI (F:KF R) (c:Bool) (b:LA) (d f g i p r:Nat) (e l m o q s:LA):∀ (n:Nat) (v:Int) (t:Nat) (w:LA),Ak (Alj N F) n (Ali c b d f g i p r e l m o q s v t w)=(U7 N (Dw F) c b d f g i p r e l m o q s n v t w)
 | 0,_,_,_=>by kernel_rfl
 | n+1,v,t,w=>Eq.trans (by kernel_rfl) (Bv (KT N (Dw F) c b d f g i p r e l m o q s · v t w) (funext fun v=>funext fun t=>funext fun w=>(WI F c b d f g i p r e l m o q s n v t w)):_)
theorem WJ (F:KF R) (c:Bool) (b:LA) (d f g i p:Nat) (e l m o q:LA):∀ (n:Nat) (x:Int) (r:Nat) (s:LA),Ak (All N F) n (Alk c b d f g i p e l m o q x r s)=(Mz N (Dw F) c b d f g i p e l m o q n x r s)
 | 0,_,_,_=>by kernel_rfl
 | n+1,x,r,s=>Eq.trans (by kernel_rfl) (PQ (Ye N (Dw F) c b d f g i p e l m o q · · x r s) (funext fun x=>funext fun r=>funext fun s=>(WJ F c b d f g i p e l m o q n x r s)) (funext fun v=>funext fun t=>funext fun w=>(Ac ..).trans (WI N F c b d f g i p r e l m o q s N v t w)):_)
theorem WK (F:KF R) (c:Bool) (b:LA) (d f g i:Nat) (e l m o:LA):∀ (n:Nat) (y:Int) (p:Nat) (q:LA),Ak (Aln N F) n (Alm c b d f g i e l m o y p q)=(U8 N (Dw F) c b d f g i e l m o n y p q)
 | 0,_,_,_=>by kernel_rfl
 | n+1,y,p,q=>Eq.trans (by kernel_rfl) (PQ (KU N (Dw F) c b d f g i e l m o · · y p q) (funext fun y=>funext fun p=>funext fun q=>(WK F c b d f g i e l m o n y p q)) (funext fun x=>funext fun r=>funext fun s=>(Ac ..).trans (WJ N F c b d f g i p e l m o q N x r s)):_)
theorem WL (F:KF R) (c:Bool) (b:LA) (d:Nat) (e:LA):∀ (n:Nat) (z:Int) (f g i:Nat) (l m o:LA),Ak (Alp N F) n (Alo c b d e z f g i l m o)=(U9 N (Dw F) c b d e n z f g i l m o)
 | 0,_,_,_,_,_,_,_=>by kernel_rfl
 | n+1,z,f,g,i,l,m,o=>Eq.trans (by kernel_rfl) (PQ (KV N (Dw F) c b d e · · z f g i l m o) (funext fun z=>funext fun f=>funext fun g=>funext fun i=>funext fun l=>funext fun m=>funext fun o=>(WL F c b d e n z f g i l m o)) (funext fun y=>funext fun p=>funext fun q=>(Ac ..).trans (WK N F c b d f g i e l m o N y p q)):_)
theorem WM (F:KF R) (c:Bool) (b:LA):∀ (n:Nat) (u:Int) (d:Nat) (e:LA),Ak (Alr N F) n (Alq c b u d e)=(Jy N (Dw F) c b n u d e)
 | 0,_,_,_=>by kernel_rfl
 | n+1,u,d,e=>Eq.trans (by kernel_rfl) (PQ (Yf N (Dw F) c b · · u d e) (funext fun u=>funext fun d=>funext fun e=>(WM F c b n u d e)) (funext fun z=>funext fun f=>funext fun g=>funext fun i=>funext fun l=>funext fun m=>funext fun o=>(Ac ..).trans (WL N F c b d e N z f g i l m o)):_)
theorem oZ (b:LA) (c:Bool) (F:KF R):C7 (uW N) oY N 188 [(.pagg b c)] [] F=(DP N b c (Dw F)):=by
 rw[ix]
 exact Eq.trans (by kernel_rfl) (Bv (SA N (Dw F) · b c) (funext fun u=>funext fun d=>funext fun e=>(Ac ..).trans (WM N F c b N u d e)):_)
def iy (a:LA) (h:Aj) (k:KF R):O R :=
 match a,h with
 | [(.pagg b c)],[]=>(DP N b c (Dw k))
 | _,_=>none
theorem o7:An N 188 @iy:=by
 intro R Q a h k j;unfold iy;split;exact A3 (oZ ..) (oZ ..) ⟨Alh N,trivial⟩;exact A5
def Als:=A4 (o7 N)
def Alt:=C8 (o7 N)
def cQ (r0:LA→LA→O R):O R :=
 (DP N [(.int .i64 1),(.imm [(.int .i64 0)] 1 1 false true),(.imm [(.str ([97]:List UInt8)),(.imm [(.int .i64 15)] 1 1 false false),(.int .i64 0)] 1 3 false true),.nsl,(.imm [(.str ([103]:List UInt8)),(.int .i64 0),(.int .i64 10),(.int .i64 20),(.imm [(.int .i64 10),(.int .i64 2)] 1 2 false false),(.int .i64 7),(.int .i64 20),(.int .i64 20),(.int .i64 20),(.int .i64 20),(.int .i64 1),(.int .i64 1),(.int .i64 0),(.int .i64 0),(.int .i64 0),(.int .i64 1),(.int .i64 0),(.int .i64 0),.nsl,(.int .i64 2),(.int .i64 1),(.int .i64 15)] 1 22 false true),.nsl,.nsl,.nsl] true (fun b c d e f g i l o p q r s t w=>(Ym N 15 (fun m=>(cond ((Nat.beq (m.length) 3)&&(Nat.ble 3 3)) (Yj N (fun n=>(cond ((Nat.beq (n.length) 3)&&(Nat.ble 3 3)) (cond (Ah 0 b) (cond ((Nat.beq 3 3)&&((Nat.ble 3 (l.length))&&(!false))) (r0 [(.int .i64 1),(.imm [(.int .i64 0)] 1 1 false false),(.imm [(.str ([97]:List UInt8)),(.imm [(.int .i64 15)] 1 1 false false),(.int .i64 0)] 1 3 false false),.nsl,(.imm [(.str ([103]:List UInt8)),(.int .i64 0),(.int .i64 10),(.int .i64 20),(.imm [(.int .i64 10),(.int .i64 2)] 1 2 false false),(.int .i64 7),(.int .i64 20),(.int .i64 20),(.int .i64 20),(.int .i64 20),(.int .i64 1),(.int .i64 1),(.int .i64 0),(.int .i64 0),(.int .i64 0),(.int .i64 1),(.int .i64 0),(.int .i64 0),.nsl,(.int .i64 2),(.int .i64 1),(.int .i64 15)] 1 22 false false),.nsl,.nsl,.nsl] [(.imm ((Cy l 0 [(.imm [(.int .i64 2)] 1 1 false false),(.imm ((setCells [(.bool false),.nsl,.nsl] 0 m).take 3) 1 3 false false),(.imm ((setCells [(.bool false),.nsl,.nsl] 0 n).take 3) 1 3 false false)]).take (b*3)) b 3 false false),(.imm (o.take (c*1)) c 1 false false),(.imm (p.take (d*1)) d 1 false false),(.imm (q.take (e*1)) e 1 false false),(.imm (r.take (f*1)) f 1 false false),(.imm (s.take (g*1)) g 1 false false),(.imm (t.take (i*1)) i 1 false false),(.imm [] 0 4 false false)]) none) none) none))) none)))))
def F_:=(Ai (@cQ R)).1
theorem cR:@F_ R=@cQ R:=(Ai _).2
def Aef:Hints:={ H:=hL,modes:=[(3,0),(3,0)] }
def Alu:Gm:=[(188,Als N),(94,yS N),(151,YL N)]
def iz (F:KF R):LA→LA→O R:=(fun u v=>F (.tup [(.pagg u false),(.pagg v false)]) [])
theorem jA (F:KF R):C7 (Alu N) Aef N 108 [] [] F=(F_ N (iz F)):=by
 rw[cR]
 kernel_rfl
def cS (a:LA) (h:Aj) (k:KF R):O R :=
 match a,h with
 | [],[]=>(F_ N (iz k))
 | _,_=>none
theorem jB:An N 108 @cS:=by
 intro R Q a h k j;unfold cS;split;exact A3 (jA ..) (jA ..) ⟨Alt N,yT N,YM N,trivial⟩;exact A5
def Aeg:=A4 (jB N)
def Aeh:=C8 (jB N)
def DC (N:Nat) (r0:Bool→O R) (c:LA) (e:Nat) (l g:Bool) (d:LA) (f:Nat) (m i:Bool) (k0:Int→O R) (b:Int):O R :=
 (cond (decide (b<((e:Nat):Int))) (cond (Ah b e) (cond (Nat.ble 4 ((c.drop ((b.toNat)*4)).length)) (cond ((!g)||(A0 ((c.drop ((b.toNat)*4)).take 4))) (cond (Ah b f) (cond (Nat.ble 4 ((d.drop ((b.toNat)*4)).length)) (cond ((!i)||(A0 ((d.drop ((b.toNat)*4)).take 4))) (cond ((Nat.ble 1 4)&&((Nat.beq (((c.drop ((b.toNat)*4)).take 4).length) 4)&&((Nat.beq (((d.drop ((b.toNat)*4)).take 4).length) 4)&&(true&&(!false))))) (At .i64 ((c.drop ((b.toNat)*4)).take 4) fun o=>(At .i64 ((d.drop ((b.toNat)*4)).take 4) fun p=>(At .i64 (((c.drop ((b.toNat)*4)).take 4).drop 1) fun q=>(At .i64 (((d.drop ((b.toNat)*4)).take 4).drop 1) fun r=>(At .i64 (((c.drop ((b.toNat)*4)).take 4).drop 2) fun s=>(At .i64 (((d.drop ((b.toNat)*4)).take 4).drop 2) fun t=>(At .i64 (((c.drop ((b.toNat)*4)).take 4).drop 3) fun u=>(At .i64 (((d.drop ((b.toNat)*4)).take 4).drop 3) fun v=>(cond (!((o==p)&&((q==r)&&((s==t)&&((u==v)&&true))))) (r0 false) (k0 (wrap .i64 (b+1)))))))))))) none) none) none) none) none) none) none) (r0 true))
def Py (r0:Bool→O R) (c:LA) (e:Nat) (l g:Bool) (d:LA) (f:Nat) (m i:Bool):Nat→Int→O R
 | 0,_=>none
 | n+1,b=>(DC N r0 c e l g d f m i (Py r0 c e l g d f m i n) b)
def ee (N:Nat) (r0:Bool→O R) (q0:Int→O R) (c:LA) (e:Nat) (l g:Bool) (d:LA) (f:Nat) (m i:Bool):O R :=
 (cond (((e:Nat):Int) != ((f:Nat):Int)) (r0 false) (q0 0))
def F':=(Ai (fun (N:Nat) (c:LA) (e:Nat) (l g:Bool) (d:LA) (f:Nat) (m i:Bool) (r0:Bool→O R)=>(ee N r0 (fun b=>(Py N r0 c e l g d f m i N b)) c e l g d f m i))).1
theorem o8 (c e l g d f m i r0):(@F' R N c e l g d f m i r0)=(ee N r0 (fun b=>(Py N r0 c e l g d f m i N b)) c e l g d f m i):=by rw[F',(Ai _).2]
def uX:Hints:={ H:=(hS hL (hS hL (hS (hS hL (hS (hP [0,1,5] hL) hL)) hL))) }
def Arm (F:KF R):=Ki Tryz.f53 uX [] [] N F
def Zv (F:KF R):Bool→O R:=(fun w=>F (.bool w) [])
def Arn (c:LA) (e:Nat) (l g:Bool) (d:LA) (f:Nat) (m i:Bool) (b:Int):St:=⟨[(0,(.imm c e 4 l g)),(1,(.imm d f 4 m i)),(5,(iv b))],[]⟩
def Aro (F:KF R):=Arm N F [1,1,0,1,0] []
theorem cT (F:KF R) (c:LA) (e:Nat) (l g:Bool) (d:LA) (f:Nat) (m i:Bool):∀ (n:Nat) (b:Int),Ak (Aro N F) n (Arn c e l g d f m i b)=(Py N (Zv F) c e l g d f m i n b)
 | 0,_=>by kernel_rfl
 | n+1,b=>Eq.trans (by kernel_rfl) (Bv (DC N (Zv F) c e l g d f m i · b) (funext fun b=>(cT F c e l g d f m i n b)):_)
theorem uY (c:LA) (e:Nat) (l g:Bool) (d:LA) (f:Nat) (m i:Bool) (F:KF R):C7 [] uX N 53 [(.imm c e 4 l g),(.imm d f 4 m i)] [] F=(F' N c e l g d f m i (Zv F)):=by
 rw[o8]
 exact Eq.trans (by kernel_rfl) (Bv (ee N (Zv F) · c e l g d f m i) (funext fun b=>(Ac ..).trans (cT N F c e l g d f m i N b)):_)
def o_ (a:LA) (h:Aj) (k:KF R):O R :=
 match a,h with
 | [(.imm c e 4 l g),(.imm d f 4 m i)],[]=>(F' N c e l g d f m i (Zv k))
 | _,_=>none
theorem uZ:An N 53 @o_:=by
 intro R Q a h k j;unfold o_;split;exact A3 (uY ..) (uY ..) trivial;exact A5
def Arp:=A4 (uZ N)
def Arq:=C8 (uZ N)
end
end Gx

namespace Gx
open Go Go.Proofs
open IntKind (wrap)
set_option maxRecDepth 100000
noncomputable section
variable {R:Type} (N:Nat)
def SB (r0:Bool→O R):O R :=
 (F_ N (fun b d=>(cond ((Nat.beq 0 0)&&((Nat.beq (b.length) 8)&&(Nat.beq 8 8))) (cond ((Nat.beq 0 0)&&((Nat.beq (d.length) 8)&&(Nat.beq 8 8))) (cond (Nat.ble 8 (b.length)) (Nh N (b.take 8) false ([116,114,105,112,32,103,32,49,32,35,32,98,111,105,108,101,114,10,10,115,116,101,112]:List UInt8) (fun c e f g=>(cond (Nat.ble 8 (b.length)) (Nh N (b.take 8) false ([115,116,101,112,32,110,111,119]:List UInt8) (fun q i l r=>(cond (Nat.ble 8 (b.length)) (Nh N (b.take 8) false ([100,101,109,97,110,100,32,97,32,57,57,32,53]:List UInt8) (fun s m n t=>(cond ((e==0)==true) (cond ((cond true (f==0) false)==true) (F' N (g.take (c*4)) c false true [(.int .i64 2),(.int .i64 0),(.int .i64 1),(.int .i64 0),(.int .i64 5),(.int .i64 0),(.int .i64 0),(.int .i64 0)] 2 false true (fun o=>(cond ((cond true o false)==true) (cond ((cond true (i==1) false)==true) (cond ((cond true (l==2) false)==true) (cond ((cond true (m==1) false)==true) (r0 (cond true (n==3) false)) (r0 false)) (r0 false)) (r0 false)) (r0 false)))) (r0 false)) (r0 false)))) none))) none))) none) none) none)))
def Fn:=(Ai (@SB R)).1
theorem WN:@Fn R=@SB R:=(Ai _).2
def Aei:Gm:=[(108,Aeg N),(44,uT N),(53,Arp N)]
def cU (F:KF R):Bool→O R:=(fun p=>F (.bool p) [])
theorem cV (F:KF R):C7 (Aei N) Dx N 45 [] [] F=(Fn N (cU F)):=by
 rw[WN]
 kernel_rfl
def WO (a:LA) (h:Aj) (k:KF R):O R :=
 match a,h with
 | [],[]=>(Fn N (cU k))
 | _,_=>none
theorem cW:An N 45 @WO:=by
 intro R Q a h k j;unfold WO;split;exact A3 (cV ..) (cV ..) ⟨Aeh N,uU N,Arq N,trivial⟩;exact A5
def cX:=A4 (cW N)
def cY:=C8 (cW N)
def Jz (r0:Bool→O R) (b c:Int) (d:LA) (k1:List UInt8→Int→O R) (g:List UInt8) (i:Int):O R :=
 (cond (decide (i<c)) (cond (Nat.ble ((g.length)+5) 140737488355328) (k1 (g++([115,116,101,112,10]:List UInt8)) (wrap .i64 (i+1))) none) (cond (Nat.ble 8 (d.length)) (Nh N (d.take 8) false g (fun r s t aa=>(cond (decide (c>256)) (Fn N (fun u=>(cond (u==true) (cond ((cond true (t==8) false)==true) (cond ((cond true (((r:Nat):Int)==0) false)==true) (Z6 N b 4 (fun v=>(r0 (cond true (s==(wrap .i64 ((wrap .i64 (v+256))+1))) false)))) (r0 false)) (r0 false)) (r0 false)))) (Fn N (fun w=>(cond (w==true) (cond ((cond true (t==0) false)==true) (cond ((cond true (s==0) false)==true) (r0 (cond true (((r:Nat):Int)==c) false)) (r0 false)) (r0 false)) (r0 false))))))) none))
def Fh (r0:Bool→O R) (b c:Int) (d:LA):Nat→List UInt8→Int→O R
 | 0,_,_=>none
 | n+1,g,i=>(Jz N r0 b c d (Fh r0 b c d n) g i)
def J3 (r0:Bool→O R) (b:Int) (d:LA) (k0:Int→List UInt8→Int→O R) (q1:List UInt8→Int→O R) (c:Int) (e:List UInt8) (f:Int):O R :=
 (Z6 N b 4 (fun x=>(cond (decide (f<x)) (cond (Nat.ble ((e.length)+1) 140737488355328) (k0 c (e++([10]:List UInt8)) (wrap .i64 (f+1))) none) (q1 e 0))))
def D0 (r0:Bool→O R) (b:Int) (d:LA):Nat→Int→List UInt8→Int→O R
 | 0,_,_,_=>none
 | n+1,c,e,f=>(J3 N r0 b d (D0 r0 b d n) (fun g i=>(Fh N r0 b c d N g i)) c e f)
def Ok (r0:Bool→O R) (q0:LA→Int→List UInt8→Int→O R) (m:LA) (l:Nat) (q o:Bool) (p b:Int):O R :=
 (cond (decide (((l:Nat):Int)>200)) (r0 true) (RD N m l false o (fun d=>(cond ((Nat.beq 0 0)&&((Nat.beq (d.length) 8)&&(Nat.beq 8 8))) (Z6 N p 5 (fun y=>(q0 d (wrap .i64 (254+y)) ([]:List UInt8) 0))) none))))
def Lm:=(Ai (fun (N:Nat) (m:LA) (l:Nat) (q o:Bool) (p b:Int) (r0:Bool→O R)=>(Ok N r0 (fun d c e f=>(D0 N r0 b d N c e f)) m l q o p b))).1
theorem Zw (m l q o p b r0):(@Lm R N m l q o p b r0)=(Ok N r0 (fun d c e f=>(D0 N r0 b d N c e f)) m l q o p b):=by rw[Lm,(Ai _).2]
def BG:Hints:={ H:=(hS hL (hS hL (hS hL (hS hL (hS hL (hS (hS hL (hS (hP [2,7,8,9,10] hL) hL)) (hS (hS hL (hS (hP [2,7,8,9,11] hL) hL)) hL))))))) }
def GA:Gm:=[(42,zS N),(43,pp N),(44,uT N),(45,cX N)]
def BH (F:KF R):=Ki Tryz.f9 BG (GA N) [] N F
def D1 (F:KF R):Bool→O R:=(fun z=>F (.bool z) [])
def fN (b c:Int) (d:LA) (g:List UInt8) (i:Int):St:=⟨[(2,(iv b)),(7,(op 0)),(8,(iv c)),(9,(.str g)),(11,(iv i))],(hq [(bQ 0 d)])⟩
def fO (F:KF R):=BH N F [1,1,1,1,1,1,0,1,0] []
def fP (b:Int) (d:LA) (c:Int) (e:List UInt8) (f:Int):St:=⟨[(2,(iv b)),(7,(op 0)),(8,(iv c)),(9,(.str e)),(10,(iv f))],(hq [(bQ 0 d)])⟩
def fQ (F:KF R):=BH N F [1,1,1,1,1,0,1,0] []
theorem Vb (F:KF R) (b c:Int) (d:LA):∀ (n:Nat) (g:List UInt8) (i:Int),Ak (fO N F) n (fN b c d g i)=(Fh N (D1 F) b c d n g i)
 | 0,_,_=>by kernel_rfl
 | n+1,g,i=>Eq.trans (by kernel_rfl) (Bv (Jz N (D1 F) b c d · g i) (funext fun g=>funext fun i=>(Vb F b c d n g i)):_)
theorem Vc (F:KF R) (b:Int) (d:LA):∀ (n:Nat) (c:Int) (e:List UInt8) (f:Int),Ak (fQ N F) n (fP b d c e f)=(D0 N (D1 F) b d n c e f)
 | 0,_,_,_=>by kernel_rfl
 | n+1,c,e,f=>Eq.trans (by kernel_rfl) (PQ (J3 N (D1 F) b d · · c e f) (funext fun c=>funext fun e=>funext fun f=>(Vc F b d n c e f)) (funext fun g=>funext fun i=>(Ac ..).trans (Vb N F b c d N g i)):_)
theorem BI (m:LA) (l:Nat) (q o:Bool) (p b:Int) (F:KF R):C7 (GA N) BG N 9 [(.imm m l 1 q o),(iv p),(iv b)] [] F=(Lm N m l q o p b (D1 F)):=by
 rw[Zw]
 exact Eq.trans (by kernel_rfl) (Bv (Ok N (D1 F) · m l q o p b) (funext fun d=>funext fun c=>funext fun e=>funext fun f=>(Ac ..).trans (Vc N F b d N c e f)):_)
def Zx (a:LA) (h:Aj) (k:KF R):O R :=
 match a,h with
 | [(.imm m l 1 q o),(.int .i64 p),(.int .i64 b)],[]=>(Lm N m l q o p b (D1 k))
 | _,_=>none
theorem BJ:An N 9 @Zx:=by
 intro R Q a h k j;unfold Zx;split;exact A3 (BI ..) (BI ..) ⟨zT N,pq N,uU N,cY N,trivial⟩;exact A5
def fR:=A4 (BJ N)
def fS:=C8 (BJ N)
def JK (N:Nat) (r0:Bool→O R) (c:Bool) (b:LA) (k1:Int→O R) (d:Int):O R :=
 (Bw 22 (b.drop 4) fun x e=>(cond (decide (d<((e:Nat):Int))) (Bw 22 (b.drop 4) fun f g=>(cond (Ah d g) (Bw 1 ((f.drop ((d.toNat)*22)).drop 18) fun y i=>(cond ((decide (((i:Nat):Int)>30))==false) (Bw 22 (b.drop 4) fun l m=>(cond (Ah d m) (Bw 2 ((l.drop ((d.toNat)*22)).drop 4) fun z o=>(cond (cond false true (decide (((o:Nat):Int)>20))) (r0 false) (k1 (wrap .i64 (d+1))))) none)) (r0 false))) none)) (r0 true)))
def Pz (r0:Bool→O R) (c:Bool) (b:LA):Nat→Int→O R
 | 0,_=>none
 | n+1,d=>(JK N r0 c b (Pz r0 c b n) d)
def cZ (N:Nat) (r0:Bool→O R) (c:Bool) (b:LA) (q1:Int→O R):O R :=
 (q1 0)
def SC (r0:Bool→O R) (c:Bool) (b:LA):O R:=(cZ N r0 c b (fun d=>(Pz N r0 c b N d)))
def oa (N:Nat) (r0:Bool→O R) (q0:O R) (b:LA) (c:Bool):O R :=
 (Bw 3 (b.drop 2) fun aa p=>(cond ((decide (((p:Nat):Int)>5))==false) (Bw 12 (b.drop 3) fun ab q=>(cond ((cond false true (decide (((q:Nat):Int)>6)))==false) (Bw 22 (b.drop 4) fun ac r=>(cond ((cond false true (decide (((r:Nat):Int)>4)))==false) (Bw 9 (b.drop 5) fun ad s=>(cond ((cond false true (decide (((s:Nat):Int)>4)))==false) (Bw 5 (b.drop 6) fun ae t=>(cond ((cond false true (decide (((t:Nat):Int)>4)))==false) (Bw 4 (b.drop 7) fun af u=>(cond ((cond false true (decide (((u:Nat):Int)>4)))==false) (At .i64 b fun v=>(cond (cond false true (decide (v>3))) (r0 false) q0)) (r0 false))) (r0 false))) (r0 false))) (r0 false))) (r0 false))) (r0 false)))
def SD:=(Ai (fun (N:Nat) (b:LA) (c:Bool) (r0:Bool→O R)=>(oa N r0 (SC N r0 c b) b c))).1
theorem u4 (b c r0):(@SD R N b c r0)=(oa N r0 (SC N r0 c b) b c):=by rw[SD,(Ai _).2]
def Aba:Hints:={ H:=(hS hL (hJ [1] hL (hS (hS hL (hS (hP [1,3] hL) hL)) hL))) }
def Abb (F:KF R):=Ki Tryz.f46 Aba [] [] N F
def Sx (F:KF R):Bool→O R:=(fun w=>F (.bool w) [])
def Ave (c:Bool) (b:LA) (d:Int):St:=⟨[(1,(op 0)),(3,(iv d))],(hq [(bP c 0 b)])⟩
def Avf (F:KF R):=Abb N F [1,1,0,1,0] []
def Avg (c:Bool) (b:LA):St:=⟨[(1,(op 0))],(hq [(bP c 0 b)])⟩
def Avh (F:KF R):=Abb N F [1,1] []
theorem jC (F:KF R) (c:Bool) (b:LA):∀ (n:Nat) (d:Int),Ak (Avf N F) n (Ave c b d)=(Pz N (Sx F) c b n d)
 | 0,_=>by kernel_rfl
 | n+1,d=>Eq.trans (by kernel_rfl) (Bv (JK N (Sx F) c b · d) (funext fun d=>(jC F c b n d)):_)
theorem Aej (F:KF R) (c:Bool) (b:LA):B8 (Avh N F) (Avg c b)=(SC N (Sx F) c b):=by
 exact Eq.trans (by kernel_rfl) (Bv (cZ N (Sx F) c b ·) (funext fun d=>(Ac ..).trans (jC N F c b N d)):_)
theorem Abc (b:LA) (c:Bool) (F:KF R):C7 [] Aba N 46 [(.pagg b c)] [] F=(SD N b c (Sx F)):=by
 rw[u4]
 exact Eq.trans (by kernel_rfl) (Bv (oa N (Sx F) · b c) ((A2 ..).trans (Aej N F c b)):_)
def u5 (a:LA) (h:Aj) (k:KF R):O R :=
 match a,h with
 | [(.pagg b c)],[]=>(SD N b c (Sx k))
 | _,_=>none
theorem Abd:An N 46 @u5:=by
 intro R Q a h k j;unfold u5;split;exact A3 (Abc ..) (Abc ..) trivial;exact A5
def Avi:=A4 (Abd N)
def Avj:=C8 (Abd N)
def qd (b:LA) (d:Bool) (c:LA) (e:Bool) (r0:Bool→O R):O R :=
 (cond (Nat.ble 8 (b.length)) (FY N (b.take 8) d (fun f g=>(cond ((Nat.beq (f.length) 3)&&((Nat.ble 3 3)&&(!false))) (cond (g != 0) (r0 false) (cond (Nat.ble 8 (b.length)) (cond (Nat.ble 4 (c.length)) (cond ((!e)||(A0 (c.take 4))) (FZ N (b.take 8) d (c.take 4) false (fun i=>(r0 i))) none) none) none)) none))) none)
def Rw:=(Ai (@qd R)).1
theorem oc:@Rw R=@qd R:=(Ai _).2
def Avk:Gm:=[(104,th N),(109,uI N)]
def u6 (F:KF R):Bool→O R:=(fun l=>F (.bool l) [])
theorem u7 (b:LA) (d:Bool) (c:LA) (e:Bool) (F:KF R):C7 (Avk N) Dx N 47 [(.pagg b d),(.pagg c e)] [] F=(Rw N b d c e (u6 F)):=by
 rw[oc]
 kernel_rfl
def od (a:LA) (h:Aj) (k:KF R):O R :=
 match a,h with
 | [(.pagg b d),(.pagg c e)],[]=>(Rw N b d c e (u6 k))
 | _,_=>none
theorem u9:An N 47 @od:=by
 intro R Q a h k j;unfold od;split;exact A3 (u7 ..) (u7 ..) ⟨ti N,uJ N,trivial⟩;exact A5
def Arr:=A4 (u9 N)
def Ars:=C8 (u9 N)
def Alv (N:Nat) (b c d:Int) (r0:Bool→O R):O R :=
 (cond ((decide (b≥c))==true) (r0 (cond true (decide (b≤d)) false)) (r0 false))
def Qw:=(Ai (@Alv R)).1
theorem Abe:@Qw R=@Alv R:=(Ai _).2
def Ag5 (F:KF R):Bool→O R:=(fun e=>F (.bool e) [])
theorem Ag6 (b c d:Int) (F:KF R):C7 [] Dx N 190 [(iv b),(iv c),(iv d)] [] F=(Qw N b c d (Ag5 F)):=by
 rw[Abe]
 kernel_rfl
def Abf (a:LA) (h:Aj) (k:KF R):O R :=
 match a,h with
 | [(.int .i64 b),(.int .i64 c),(.int .i64 d)],[]=>(Qw N b c d (Ag5 k))
 | _,_=>none
theorem Ag7:An N 190 @Abf:=by
 intro R Q a h k j;unfold Abf;split;exact A3 (Ag6 ..) (Ag6 ..) trivial;exact A5
def Aze:=A4 (Ag7 N)
def Azf:=C8 (Ag7 N)
def OS (r0:Bool→O R) (d:Int) (e:Bool) (c:LA) (f:Bool) (b:LA) (g:Bool):O R :=
 (cond g (At .i64 (b.drop 1) fun l=>(cond ((l==0)==true) (At .i64 (b.drop 2) fun m=>(cond ((cond true (m==0) false)==true) (At .i64 (b.drop 3) fun n=>(r0 (cond true (n==0) false))) (r0 false))) (r0 false))) (cond (d==6) (At .i64 (b.drop 1) fun o=>(cond ((o==0)==true) (At .i64 (b.drop 2) fun p=>(cond ((cond true (p==0) false)==true) (At .i64 (b.drop 3) fun q=>(Qw N q 0 16777216 (fun r=>(r0 (cond true r false))))) (r0 false))) (r0 false))) (cond (d==8) (At .i64 (b.drop 1) fun s=>(cond ((s==0)==true) (At .i64 (b.drop 2) fun t=>(At .i64 c fun u=>(Qw N t 0 (wrap .i64 (u - 1)) (fun v=>(cond ((cond true v false)==true) (At .i64 (b.drop 3) fun w=>(r0 (cond true (w==0) false))) (r0 false)))))) (r0 false))) (r0 false))))
def vt (r0:Bool→O R) (q0:Int→Bool→O R) (c:LA) (e:Bool) (b:LA) (f:Bool):O R :=
 (At .i64 b fun d=>(cond (d==1) (At .i64 (b.drop 1) fun x=>(Bw 3 (c.drop 2) fun bg y=>(Qw N x 0 (wrap .i64 (((y:Nat):Int) - 1)) (fun z=>(cond (z==true) (At .i64 (b.drop 2) fun aa=>(At .i64 c fun ab=>(Qw N aa 0 (wrap .i64 (ab - 1)) (fun ac=>(cond ((cond true ac false)==true) (At .i64 (b.drop 3) fun ad=>(Qw N ad 0 1048576 (fun ae=>(r0 (cond true ae false))))) (r0 false)))))) (r0 false)))))) (cond (d==2) (At .i64 (b.drop 1) fun af=>(Bw 22 (c.drop 4) fun bh ag=>(Qw N af 0 (wrap .i64 (((ag:Nat):Int) - 1)) (fun ah=>(cond (ah==true) (At .i64 (b.drop 2) fun ai=>(At .i64 c fun aj=>(Qw N ai 1 aj (fun ak=>(cond ((cond true ak false)==true) (At .i64 (b.drop 3) fun al=>(r0 (cond true (al==0) false))) (r0 false)))))) (r0 false)))))) (cond (d==3) (At .i64 (b.drop 1) fun am=>(Bw 12 (c.drop 3) fun bi an=>(Qw N am 0 (wrap .i64 (((an:Nat):Int) - 1)) (fun ao=>(cond (ao==true) (At .i64 (b.drop 2) fun ap=>(At .i64 c fun aq=>(Qw N ap 1 aq (fun ar=>(cond ((cond true ar false)==true) (At .i64 (b.drop 3) fun au=>(r0 (cond true (au==0) false))) (r0 false)))))) (r0 false)))))) (cond (d==4) (At .i64 (b.drop 1) fun av=>(Bw 22 (c.drop 4) fun bj aw=>(Qw N av 0 (wrap .i64 (((aw:Nat):Int) - 1)) (fun ax=>(cond (ax==true) (At .i64 (b.drop 2) fun ay=>(Bw 22 (c.drop 4) fun az ba=>(At .i64 (b.drop 1) fun i=>(cond (Ah i ba) (Bw 2 ((az.drop ((i.toNat)*22)).drop 4) fun bk bb=>(Qw N ay 0 (wrap .i64 (((bb:Nat):Int) - 1)) (fun bc=>(cond ((cond true bc false)==true) (At .i64 (b.drop 3) fun bd=>(Qw N bd (-1048576) 1048576 (fun be=>(r0 (cond true be false))))) (r0 false))))) none)))) (r0 false)))))) (cond (d==5) (q0 d (d==5)) (q0 d (d==7))))))))
def qe:=(Ai (fun (N:Nat) (c:LA) (e:Bool) (b:LA) (f:Bool) (r0:Bool→O R)=>(vt N r0 (fun d g=>(OS N r0 d e c f b g)) c e b f))).1
theorem Abg (c e b f r0):(@qe R N c e b f r0)=(vt N r0 (fun d g=>(OS N r0 d e c f b g)) c e b f):=by rw[qe,(Ai _).2]
def Ag8:Hints:={ H:=(hS hL (hS (hS hL (hS (hS hL (hS hL (hS hL (hS hL (hS hL (hS hL (hS hL (hS hL (hJ [2,3,6,99] hL hL))))))))) hL)) hL)) }
def Art:Gm:=[(190,Aze N)]
def Azg (F:KF R):=Ki Tryz.f110 Ag8 (Art N) [] N F
def ef (F:KF R):Bool→O R:=(fun bf=>F (.bool bf) [])
def Azh (d:Int) (e:Bool) (c:LA) (f:Bool) (b:LA) (g:Bool):St:=⟨[(2,(op 0)),(3,(op 1)),(6,(iv d)),(99,(.bool g))],(hq [(bP e 0 c),(bP f 0 b)])⟩
def Azi (F:KF R):=Azg N F [1,0,1,0,1,1,1,1,1,1,1,1,1] []
theorem Alw (F:KF R) (d:Int) (e:Bool) (c:LA) (f:Bool) (b:LA):∀ (g:Bool),B8 (Azi N F) (Azh d e c f b g)=(OS N (ef F) d e c f b g):=by
 intro g
 kernel_rfl
theorem Ag9 (c:LA) (e:Bool) (b:LA) (f:Bool) (F:KF R):C7 (Art N) Ag8 N 110 [(.pagg c e),(.pagg b f)] [] F=(qe N c e b f (ef F)):=by
 rw[Abg]
 exact Eq.trans (by kernel_rfl) (Bv (vt N (ef F) · c e b f) (funext fun d=>funext fun g=>(A2 ..).trans (Alw N F d e c f b g)):_)
def Abh (a:LA) (h:Aj) (k:KF R):O R :=
 match a,h with
 | [(.pagg c e),(.pagg b f)],[]=>(qe N c e b f (ef k))
 | _,_=>none
theorem Aha:An N 110 @Abh:=by
 intro R Q a h k j;unfold Abh;split;exact A3 (Ag9 ..) (Ag9 ..) ⟨Azf N,trivial⟩;exact A5
def Azj:=A4 (Aha N)
def Azk:=C8 (Aha N)
def jv (b:LA) (d:Bool) (c:LA) (e:Bool) (r0:Bool→O R):O R :=
 (cond (Nat.ble 8 (b.length)) (Wm N (b.take 8) d (fun f g=>(cond ((Nat.beq (f.length) 3)&&((Nat.ble 3 3)&&(!false))) (cond ((g==0)==true) (cond (Nat.ble 8 (b.length)) (cond (Nat.ble 4 (c.length)) (cond ((!e)||(A0 (c.take 4))) (qe N (b.take 8) d (c.take 4) false (fun i=>(r0 (cond true i false)))) none) none) none) (r0 false)) none))) none)
def Nt:=(Ai (@jv R)).1
theorem jD:@Nt R=@jv R:=(Ai _).2
def Aru:Gm:=[(103,m7 N),(110,Azj N)]
def oe (F:KF R):Bool→O R:=(fun l=>F (.bool l) [])
theorem oh (b:LA) (d:Bool) (c:LA) (e:Bool) (F:KF R):C7 (Aru N) Dx N 48 [(.pagg b d),(.pagg c e)] [] F=(Nt N b d c e (oe F)):=by
 rw[jD]
 kernel_rfl
def jE (a:LA) (h:Aj) (k:KF R):O R :=
 match a,h with
 | [(.pagg b d),(.pagg c e)],[]=>(Nt N b d c e (oe k))
 | _,_=>none
theorem oq:An N 48 @jE:=by
 intro R Q a h k j;unfold jE;split;exact A3 (oh ..) (oh ..) ⟨m8 N,Azk N,trivial⟩;exact A5
def Alx:=A4 (oq N)
def Aly:=C8 (oq N)
def J4 (r0:Bool→O R) (c:LA) (ag b:Int) (au av:Int):O R :=
 (cond ((ag != 6)==true) (cond ((cond true (ag != 1) false)==true) (cond (cond true (ag != 4) false) (Z6 N b 3 (fun aw=>(Fn N (fun az=>(cond (az==true) (cond (Nat.ble 8 (c.length)) (Rw N (c.take 8) false [(.int .i64 ag),(.int .i64 au),(.int .i64 av),(.int .i64 (wrap .i64 (Int.tdiv aw 2)))] false (fun ba=>(cond (Nat.ble 8 (c.length)) (Nt N (c.take 8) false [(.int .i64 ag),(.int .i64 au),(.int .i64 av),(.int .i64 (wrap .i64 (Int.tdiv aw 2)))] false (fun bb=>(r0 (cond true (ba==bb) false)))) none))) none) (r0 false)))))) (Fn N (fun bc=>(cond (bc==true) (cond (Nat.ble 8 (c.length)) (Rw N (c.take 8) false [(.int .i64 ag),(.int .i64 au),(.int .i64 av),(.int .i64 b)] false (fun bd=>(cond (Nat.ble 8 (c.length)) (Nt N (c.take 8) false [(.int .i64 ag),(.int .i64 au),(.int .i64 av),(.int .i64 b)] false (fun be=>(r0 (cond true (bd==be) false)))) none))) none) (r0 false))))) (Fn N (fun bf=>(cond (bf==true) (cond (Nat.ble 8 (c.length)) (Rw N (c.take 8) false [(.int .i64 ag),(.int .i64 au),(.int .i64 av),(.int .i64 b)] false (fun bg=>(cond (Nat.ble 8 (c.length)) (Nt N (c.take 8) false [(.int .i64 ag),(.int .i64 au),(.int .i64 av),(.int .i64 b)] false (fun bh=>(r0 (cond true (bg==bh) false)))) none))) none) (r0 false))))) (Fn N (fun bi=>(cond (bi==true) (cond (Nat.ble 8 (c.length)) (Rw N (c.take 8) false [(.int .i64 ag),(.int .i64 au),(.int .i64 av),(.int .i64 b)] false (fun bj=>(cond (Nat.ble 8 (c.length)) (Nt N (c.take 8) false [(.int .i64 ag),(.int .i64 au),(.int .i64 av),(.int .i64 b)] false (fun bk=>(r0 (cond true (bj==bk) false)))) none))) none) (r0 false)))))
def N0 (r0:Bool→O R) (ah:LA) (af:Nat) (ak ai aj:Bool) (n:Int) (o:LA) (p:Nat) (al d:Bool) (q:LA) (r:Nat) (am e:Bool) (s:LA) (t:Nat) (an f:Bool) (u:LA) (v:Nat) (ao g:Bool) (w:LA) (x:Nat) (ap i:Bool) (y:LA) (z:Nat) (aq l:Bool) (aa:LA) (ab:Nat) (ar m:Bool) (ac ad ae b:Int) (q1:LA→Int→Int→Int→O R):O R :=
 (cond aj (RD N ah af false ai (fun c=>(cond ((Nat.beq 0 0)&&((Nat.beq (c.length) 8)&&(Nat.beq 8 8))) (Z6 N ac 10 (fun ag=>(Z6 N ad 5 (fun ax=>(Z6 N ae 5 (fun ay=>(cond (decide (ag≥5)) (q1 c ag (wrap .i64 (Int.tdiv ax 4)) (wrap .i64 (ay - 1))) (q1 c ag ax (wrap .i64 (ay - 1)))))))))) none))) (Fn N (fun bl=>(cond (bl==true) (Rw N [(.int .i64 n),(.imm o p 1 false d),(.imm q r 3 false e),(.imm s t 12 false f),(.imm u v 22 false g),(.imm w x 9 false i),(.imm y z 5 false l),(.imm aa ab 4 false m)] (d||(e||(f||(g||(i||(l||(m||false))))))) [(.int .i64 ac),(.int .i64 ad),(.int .i64 ae),(.int .i64 b)] false (fun bm=>(Nt N [(.int .i64 n),(.imm o p 1 false d),(.imm q r 3 false e),(.imm s t 12 false f),(.imm u v 22 false g),(.imm w x 9 false i),(.imm y z 5 false l),(.imm aa ab 4 false m)] (d||(e||(f||(g||(i||(l||(m||false))))))) [(.int .i64 ac),(.int .i64 ad),(.int .i64 ae),(.int .i64 b)] false (fun bn=>(r0 (cond true (bm==bn) false)))))) (r0 false)))))
def J5 (r0:Bool→O R) (ah:LA) (af:Nat) (ak ai aj:Bool) (n:Int) (o:LA) (p:Nat) (al d:Bool) (q:LA) (r:Nat) (am e:Bool) (s:LA) (t:Nat) (an f:Bool) (u:LA) (v:Nat) (ao g:Bool) (w:LA) (x:Nat) (ap i:Bool) (y:LA) (z:Nat) (aq l:Bool) (aa:LA) (ab:Nat) (ar m:Bool) (ac ad ae b:Int):O R:=(N0 N r0 ah af ak ai aj n o p al d q r am e s t an f u v ao g w x ap i y z aq l aa ab ar m ac ad ae b (fun c ag au av=>(J4 N r0 c ag b au av)))
def M0 (r0:Bool→O R) (q0:O R) (n:Int) (o:LA) (p:Nat) (al d:Bool) (q:LA) (r:Nat) (am e:Bool) (s:LA) (t:Nat) (an f:Bool) (u:LA) (v:Nat) (ao g:Bool) (w:LA) (x:Nat) (ap i:Bool) (y:LA) (z:Nat) (aq l:Bool) (aa:LA) (ab:Nat) (ar m:Bool) (ah:LA) (af:Nat) (ak ai:Bool) (ac ad ae b:Int) (aj:Bool):O R :=
 (SD N [(.int .i64 n),(.imm o p 1 false d),(.imm q r 3 false e),(.imm s t 12 false f),(.imm u v 22 false g),(.imm w x 9 false i),(.imm y z 5 false l),(.imm aa ab 4 false m)] (d||(e||(f||(g||(i||(l||(m||false))))))) (fun bo=>(cond ((!bo)==false) (cond (cond false true (decide (((af:Nat):Int)>200))) (r0 true) q0) (r0 true))))
def J6:=(Ai (fun (N:Nat) (n:Int) (o:LA) (p:Nat) (al d:Bool) (q:LA) (r:Nat) (am e:Bool) (s:LA) (t:Nat) (an f:Bool) (u:LA) (v:Nat) (ao g:Bool) (w:LA) (x:Nat) (ap i:Bool) (y:LA) (z:Nat) (aq l:Bool) (aa:LA) (ab:Nat) (ar m:Bool) (ah:LA) (af:Nat) (ak ai:Bool) (ac ad ae b:Int) (aj:Bool) (r0:Bool→O R)=>(M0 N r0 (J5 N r0 ah af ak ai aj n o p al d q r am e s t an f u v ao g w x ap i y z aq l aa ab ar m ac ad ae b) n o p al d q r am e s t an f u v ao g w x ap i y z aq l aa ab ar m ah af ak ai ac ad ae b aj))).1
theorem Vv (n o p al d q r am e s t an f u v ao g w x ap i y z aq l aa ab ar m ah af ak ai ac ad ae b aj r0):(@J6 R N n o p al d q r am e s t an f u v ao g w x ap i y z aq l aa ab ar m ah af ak ai ac ad ae b aj r0)=(M0 N r0 (J5 N r0 ah af ak ai aj n o p al d q r am e s t an f u v ao g w x ap i y z aq l aa ab ar m ac ad ae b) n o p al d q r am e s t an f u v ao g w x ap i y z aq l aa ab ar m ah af ak ai ac ad ae b aj):=by rw[J6,(Ai _).2]
def Zy:Hints:={ H:=(hS hL (hJ [1,3,4,6] hL (hS (hS hL (hS (hS hL (hS hL (hJ [4,6] hL hL))) hL)) hL))) }
def BK:Gm:=[(46,Avi N),(42,zS N),(43,pp N),(45,cX N),(47,Arr N),(48,Alx N)]
def Zz (F:KF R):=Ki Tryz.f10 Zy (BK N) [] N F
def Ep (F:KF R):Bool→O R:=(fun bp=>F (.bool bp) [])
def c_ (c:LA) (ag b au av:Int):St:=⟨[(4,(op 0)),(6,(op 1))],(hq [(bQ 0 c),(bQ 0 [(iv ag),(iv au),(iv av),(iv b)])])⟩
def dA (F:KF R):=Zz N F [1,1,0,1,0,1,1,1] []
def dB (ah:LA) (af:Nat) (ak ai aj:Bool) (n:Int) (o:LA) (p:Nat) (al d:Bool) (q:LA) (r:Nat) (am e:Bool) (s:LA) (t:Nat) (an f:Bool) (u:LA) (v:Nat) (ao g:Bool) (w:LA) (x:Nat) (ap i:Bool) (y:LA) (z:Nat) (aq l:Bool) (aa:LA) (ab:Nat) (ar m:Bool) (ac ad ae b:Int):St:=⟨[(1,(.imm ah af 1 ak ai)),(3,(.bool aj)),(4,(op 0)),(6,(op 1))],(hq [(bN 0 [(iv n),(.imm o p 1 al d),(.imm q r 3 am e),(.imm s t 12 an f),(.imm u v 22 ao g),(.imm w x 9 ap i),(.imm y z 5 aq l),(.imm aa ab 4 ar m)]),(bQ 0 [(iv ac),(iv ad),(iv ae),(iv b)])])⟩
def dC (F:KF R):=Zz N F [1,1] []
theorem OT (F:KF R) (c:LA) (ag b:Int):∀ (au av:Int),B8 (dA N F) (c_ c ag b au av)=(J4 N (Ep F) c ag b au av):=by
 intro au av
 kernel_rfl
theorem OU (F:KF R) (ah:LA) (af:Nat) (ak ai aj:Bool) (n:Int) (o:LA) (p:Nat) (al d:Bool) (q:LA) (r:Nat) (am e:Bool) (s:LA) (t:Nat) (an f:Bool) (u:LA) (v:Nat) (ao g:Bool) (w:LA) (x:Nat) (ap i:Bool) (y:LA) (z:Nat) (aq l:Bool) (aa:LA) (ab:Nat) (ar m:Bool) (ac ad ae b:Int):B8 (dC N F) (dB ah af ak ai aj n o p al d q r am e s t an f u v ao g w x ap i y z aq l aa ab ar m ac ad ae b)=(J5 N (Ep F) ah af ak ai aj n o p al d q r am e s t an f u v ao g w x ap i y z aq l aa ab ar m ac ad ae b):=by
 exact Eq.trans (by kernel_rfl) (Bv (N0 N (Ep F) ah af ak ai aj n o p al d q r am e s t an f u v ao g w x ap i y z aq l aa ab ar m ac ad ae b ·) (funext fun c=>funext fun ag=>funext fun au=>funext fun av=>(A2 ..).trans (OT N F c ag b au av)):_)
theorem Z0 (n:Int) (o:LA) (p:Nat) (al d:Bool) (q:LA) (r:Nat) (am e:Bool) (s:LA) (t:Nat) (an f:Bool) (u:LA) (v:Nat) (ao g:Bool) (w:LA) (x:Nat) (ap i:Bool) (y:LA) (z:Nat) (aq l:Bool) (aa:LA) (ab:Nat) (ar m:Bool) (ah:LA) (af:Nat) (ak ai:Bool) (ac ad ae b:Int) (aj:Bool) (F:KF R):C7 (BK N) Zy N 10 [(.agg [(iv n),(.imm o p 1 al d),(.imm q r 3 am e),(.imm s t 12 an f),(.imm u v 22 ao g),(.imm w x 9 ap i),(.imm y z 5 aq l),(.imm aa ab 4 ar m)]),(.imm ah af 1 ak ai),(.agg [(iv ac),(iv ad),(iv ae),(iv b)]),(.bool aj)] [] F=(J6 N n o p al d q r am e s t an f u v ao g w x ap i y z aq l aa ab ar m ah af ak ai ac ad ae b aj (Ep F)):=by
 rw[Vv]
 exact Eq.trans (by kernel_rfl) (Bv (M0 N (Ep F) · n o p al d q r am e s t an f u v ao g w x ap i y z aq l aa ab ar m ah af ak ai ac ad ae b aj) ((A2 ..).trans (OU N F ah af ak ai aj n o p al d q r am e s t an f u v ao g w x ap i y z aq l aa ab ar m ac ad ae b)):_)
def Vw (a:LA) (h:Aj) (k:KF R):O R :=
 match a,h with
 | [(.agg [(.int .i64 n),(.imm o p 1 al d),(.imm q r 3 am e),(.imm s t 12 an f),(.imm u v 22 ao g),(.imm w x 9 ap i),(.imm y z 5 aq l),(.imm aa ab 4 ar m)]),(.imm ah af 1 ak ai),(.agg [(.int .i64 ac),(.int .i64 ad),(.int .i64 ae),(.int .i64 b)]),(.bool aj)],[]=>(J6 N n o p al d q r am e s t an f u v ao g w x ap i y z aq l aa ab ar m ah af ak ai ac ad ae b aj (Ep k))
 | _,_=>none
theorem Z1:An N 10 @Vw:=by
 intro R Q a h k j;unfold Vw;split;exact A3 (Z0 ..) (Z0 ..) ⟨Avj N,zT N,pq N,cY N,Ars N,Aly N,trivial⟩;exact A5
def dD:=A4 (Z1 N)
def dE:=C8 (Z1 N)
end
end Gx

namespace Gx.Cf
open Go Go.Proofs
section
variable {R:Type}
def Aek (c:CaseD) (k a b v:Int):Bool :=
 if k=1 then KS 0 ((c.buses.l.length:Int) - 1) a&&(KS 0 (c.hours - 1) b&&KS 0 1048576 v)
 else if k=2 then KS 0 ((c.units.l.length:Int) - 1) a&&(KS 1 c.hours b&&KS 0 0 v)
 else if k=3 then KS 0 ((c.lines.l.length:Int) - 1) a&&(KS 1 c.hours b&&KS 0 0 v)
 else if k=4 then KS 0 ((c.units.l.length:Int) - 1) a&&(KS 0 ((A15 c a:Int) - 1) b&&KS (-1048576) 1048576 v)
 else if k=5 then KS 0 0 a&&(KS 0 0 b&&KS 0 0 v)
 else if k=6 then KS 0 0 a&&(KS 0 0 b&&KS 0 16777216 v)
 else if k=7 then KS 0 0 a&&(KS 0 0 b&&KS 0 0 v)
 else if k=8 then KS 0 0 a&&(KS 0 (c.hours - 1) b&&KS 0 0 v)
 else false
theorem Azl {N n:Nat} {c:LA} {o o':Bool} {a b v:Int} {ev row:LA} {K:Bool→O R}:Fm N K a b v o c o' ev row (n+1) 3=K true:=by rw[Fm];unfold C';rfl
theorem jF {N:Nat} {c:CaseD} {o o':Bool} {k a b v:Int} {K:Bool→O R} (hs:Small c N) (hH:1≤c.hours∧c.hours≤24):FZ N c.av o (Alc k a b v) o' K=K (Aek c k a b v):=by
 have s:=hs.n64
 obtain⟨n,rfl⟩:∃ n,N=n+4:=⟨N - 4,by omega⟩
 rw[oP];unfold eY
 show W9 (n+4) k _=_
 rw[Aa5 (by omega)]
 by_cases m:1≤k∧k≤8
 ·rw[if_pos m]
  have three:∀ (row:LA) (d i l:Int),(∀ F:Int→O R,At .i64 (row.drop 2) F=F d)→(∀ F:Int→O R,At .i64 (row.drop 3) F=F i)→(∀ F:Int→O R,At .i64 (row.drop 4) F=F l)→d≠6→l≠6→(i=6→d=2) →
    Fm (n+4) K a b v o c.av o' (Alc k a b v) row (n+4) 0=K (KS (vr c a d).1 (vr c a d).2 a&&(KS (vr c a i).1 (vr c a i).2 b&&KS (vr c a l).1 (vr c a l).2 v)):=by
   intro row d i l t u x n0 n2 q
   have y:=ju (R:=R) (N:=n+4) (n:=n+3) (j:=0) (c:=c) (o:=o) (o':=o') (k:=k) (a:=a) (b:=b) (v:=v) (f:=d) (row:=row) (K:=K) (by omega) t hs hH (fun e=>absurd e n0)
   have s2:=ju (R:=R) (N:=n+4) (n:=n+1) (j:=2) (c:=c) (o:=o) (o':=o') (k:=k) (a:=a) (b:=b) (v:=v) (f:=l) (row:=row) (K:=K) (by omega) x hs hH (fun e=>absurd e n2)
   refine y.trans ?_
   show cond (KS (vr c a d).1 (vr c a d).2 a) _ _=_
   cases h0:KS (vr c a d).1 (vr c a d).2 a with
   | false=>rfl
   | true =>
    have s1:=ju (R:=R) (N:=n+4) (n:=n+2) (j:=1) (c:=c) (o:=o) (o':=o') (k:=k) (a:=a) (b:=b) (v:=v) (f:=i) (row:=row) (K:=K) (by omega) u hs hH (fun e=>by
     have z:=q e
     subst z
     unfold vr KS at h0
     simp at h0
     omega)
    show Fm (n+4) K a b v o c.av o' (Alc k a b v) row (n+3) ((0+1:Nat):Int)=_
    refine s1.trans ?_
    show cond (KS (vr c a i).1 (vr c a i).2 b) _ _=_
    cases q:KS (vr c a i).1 (vr c a i).2 b with
    | false=>rfl
    | true =>
     show Fm (n+4) K a b v o c.av o' (Alc k a b v) row (n+2) ((1+1:Nat):Int)=_
     refine s2.trans ?_
     show cond (KS (vr c a l).1 (vr c a l).2 v) _ _=_
     cases C:KS (vr c a l).1 (vr c a l).2 v with
     | false=>rfl
     | true=>exact Azl
  have A:k=1∨k=2∨k=3∨k=4∨k=5∨k=6∨k=7∨k=8:=by omega
  rcases A with rfl | rfl | rfl | rfl | rfl | rfl | rfl | rfl
  ·exact(three (U5 0) 1 4 7 (fun _=>rfl) (fun _=>rfl) (fun _=>rfl) (by decide) (by decide) (by decide)).trans rfl
  ·exact(three (U5 1) 2 5 0 (fun _=>rfl) (fun _=>rfl) (fun _=>rfl) (by decide) (by decide) (by decide)).trans rfl
  ·exact(three (U5 2) 3 5 0 (fun _=>rfl) (fun _=>rfl) (fun _=>rfl) (by decide) (by decide) (by decide)).trans rfl
  ·exact(three (U5 3) 2 6 8 (fun _=>rfl) (fun _=>rfl) (fun _=>rfl) (by decide) (by decide) (by decide)).trans rfl
  ·exact(three (U5 4) 0 0 0 (fun _=>rfl) (fun _=>rfl) (fun _=>rfl) (by decide) (by decide) (by decide)).trans rfl
  ·exact(three (U5 5) 0 0 9 (fun _=>rfl) (fun _=>rfl) (fun _=>rfl) (by decide) (by decide) (by decide)).trans rfl
  ·exact(three (U5 6) 0 0 0 (fun _=>rfl) (fun _=>rfl) (fun _=>rfl) (by decide) (by decide) (by decide)).trans rfl
  ·exact(three (U5 7) 0 4 0 (fun _=>rfl) (fun _=>rfl) (fun _=>rfl) (by decide) (by decide) (by decide)).trans rfl
 ·rw[if_neg m]
  have:Aek c k a b v=false:=by
   unfold Aek
   rw[if_neg (by omega),if_neg (by omega),if_neg (by omega),if_neg (by omega),if_neg (by omega),if_neg (by omega),if_neg (by omega),if_neg (by omega)]
  rw[this];rfl
theorem Gl {N:Nat} {b c d:Int} {K:Bool→O R}:Qw N b c d K=K (KS c d b):=by
 rw[Abe];unfold Alv KS
 by_cases h:b≥c
 ·rw[decide_eq_true h];rfl
 ·rw[decide_eq_false h];rfl
theorem A2l (b:Bool):cond true b false=b:=rfl
theorem OV (b:Bool):(b==true)=b:=by cases b<;>rfl
theorem A4s (a:Int):(a==0)=KS 0 0 a:=by
 unfold KS
 by_cases h:a=0
 ·subst h;rfl
 ·rw[show(a==0)=false by simpa using h]
  by_cases b:0≤a
  ·rw[decide_eq_true b,decide_eq_false (by omega)];rfl
  ·rw[decide_eq_false b];rfl
theorem u_ {a:Bool} {K:Bool→O R} {x:Bool}:cond a (K x) (K false)=K (a&&x):=by cases a<;>rfl
theorem Arv {N:Nat} {c:CaseD} {o o':Bool} {k a b v:Int} {K:Bool→O R} (hs:Small c N) (hH:1≤c.hours∧c.hours≤24):qe N c.av o (Alc k a b v) o' K=K (Aek c k a b v):=by
 have D:∀ F:Int→O R,At .i64 (Alc k a b v) F=F k:=fun F=>rfl
 have d:∀ F:Int→O R,At .i64 (List.drop 1 (Alc k a b v)) F=F a:=fun F=>rfl
 have f:∀ F:Int→O R,At .i64 (List.drop 2 (Alc k a b v)) F=F b:=fun F=>rfl
 have i:∀ F:Int→O R,At .i64 (List.drop 3 (Alc k a b v)) F=F v:=fun F=>rfl
 have j:IntKind.wrap .i64 (c.hours - 1)=c.hours - 1:=i64 (by omega)
 rw[Abg];unfold vt
 rw[D]
 unfold Aek
 by_cases m:k=1
 ·subst m
  rw[show((1:Int)==1)=true by rfl,ct,if_pos rfl,d,Ii,A26 hs.bus.2,Gl,OV]
  simp only[f,i,K6,j,Gl,A2l,OV,u_]
 rw[show(k==1)=false by simpa using m,cf,if_neg m]
 by_cases q:k=2
 ·subst q
  rw[show((2:Int)==2)=true by rfl,ct,if_pos rfl,d,Ft,A26 hs.uni.2,Gl,OV]
  simp only[f,i,K6,j,Gl,A2l,OV,A4s,u_]
 rw[show(k==2)=false by simpa using q,cf,if_neg q]
 by_cases s:k=3
 ·subst s
  rw[show((3:Int)==3)=true by rfl,ct,if_pos rfl,d,Gf,A26 hs.lin.2,Gl,OV]
  simp only[f,i,K6,j,Gl,A2l,OV,A4s,u_]
 rw[show(k==3)=false by simpa using s,cf,if_neg s]
 by_cases t:k=4
 ·subst t
  rw[show((4:Int)==4)=true by rfl,ct,if_pos rfl,d,Ft,A26 hs.uni.2,Gl,OV]
  cases C:KS 0 ((c.units.l.length:Int) - 1) a with
  | false=>rfl
  | true =>
   have G:0≤a∧a<(c.units.l.length:Int):=by unfold KS at C;simp at C;omega
   obtain⟨n,rfl⟩:∃ n:Nat,a=n:=⟨a.toNat,by omega⟩
   have hn:n<c.units.l.length:=by omega
   have u:=hs.seg _ (List.getElem_mem hn)
   have e:∀ F:LA→Nat→O R,Bw 2 (List.drop 4 (UnitD.av c.units.l[n]++(c.units.l.drop (n+1)).flatMap UnitD.av)) F=F (c.units.l[n].segs.l.flatMap SegD.av) c.units.l[n].segs.l.length:=fun F=>by
    unfold UnitD.av;exact D6
   have en:A15 c (n:Int)=c.units.l[n].segs.l.length:=by unfold A15;rw[Int.toNat_natCast,List.getElem?_eq_getElem hn]
   rw[ct,f,Ft,d,Ab hn,ct,Int.toNat_natCast,Ay Dg _ _ hn,e,A26 u.2,Gl,A2l,OV,en]
   simp only[i,Gl,A2l,u_,Bool.true_and]
 rw[show(k==4)=false by simpa using t,cf,if_neg t]
 by_cases x:k=5
 ·subst x
  rw[show((5:Int)==5)=true by rfl,ct,if_pos rfl]
  unfold OS
  dsimp only
  rw[ct,d]
  simp only[f,i,A2l,OV,A4s,u_]
 rw[show(k==5)=false by simpa using x,cf,if_neg x]
 unfold OS
 dsimp only
 by_cases y:k=7
 ·subst y
  rw[show((7:Int)==7)=true by rfl,ct,if_neg (by decide),if_pos rfl,d]
  simp only[f,i,A2l,OV,A4s,u_]
 rw[show(k==7)=false by simpa using y,cf]
 by_cases z:k=6
 ·subst z
  rw[show((6:Int)==6)=true by rfl,ct,if_pos rfl,d]
  simp only[f,i,Gl,A2l,OV,A4s,u_]
 rw[show(k==6)=false by simpa using z,cf,if_neg z,if_neg y]
 by_cases A:k=8
 ·subst A
  rw[show((8:Int)==8)=true by rfl,ct,if_pos rfl,d]
  simp only[f,i,K6,j,Gl,A2l,OV,A4s,u_]
 rw[show(k==8)=false by simpa using A,cf,if_neg A]
end
end Gx.Cf

namespace Gx
open Go Go.Proofs
section
variable {R:Type}
theorem Arw:∀ (s:List UInt8) (b k:Nat),b<10 ^ k→s.length+k≤18→s.all F3=true→Lib.parseUint10 b s=.ok (b*10 ^ s.length+Lj s)
 | [],b,_,_,_,_=>by simp[Lib.parseUint10,Lj]
 | c::r,b,k,m,l,e=>by
  simp only[List.all_cons,Bool.and_eq_true] at e
  have j:=e.1
  simp[F3] at j
  simp only[List.length_cons] at l
  have d:10 ^ (k+1)≤10 ^ 18:=Nat.pow_le_pow_right (by omega) (by omega)
  rw[Nat.pow_succ] at d
  have f:b*10+(c.toNat - 48)<10 ^ k*10:=by omega
  have i:(10:Nat) ^ 18=1000000000000000000:=by decide
  rw[i] at d
  rw[Lib.parseUint10,if_pos j,if_neg (by omega),if_neg (by omega),Arw r (b*10+(c.toNat - 48)) (k+1) (by rw[Nat.pow_succ];exact f) (by omega) e.2,Agt,List.length_cons,Nat.pow_succ,Nat.add_mul]
  congr 1
  rw[show b*10*10 ^ r.length=b*(10 ^ r.length*10) by rw[Nat.mul_assoc,Nat.mul_comm 10]]
  omega
theorem Azm {N:Nat} {s:List UInt8} {K:Int→O R} (hs:s.all F3=true) (h0:s≠[]) (b:s.length≤18):BZ N s K=K (Lj s:Int):=by
 have d:=vg hs
 have e:10 ^ s.length≤10 ^ 18:=Nat.pow_le_pow_right (by omega) b
 have f:(10:Nat) ^ 18=1000000000000000000:=by decide
 have key:Lib.atoiAll s=.ok (Lj s:Int):=by
  cases s with
  | nil=>exact absurd rfl h0
  | cons c r =>
   have i:F3 c=true:=by simp only[List.all_cons,Bool.and_eq_true] at hs;exact hs.1
   simp[F3] at i
   rw[Lib.atoiAll_plain c r (by omega) (by omega),Lib.parseMag,if_neg h0,Arw (c::r) 0 0 (by decide) (by omega) hs,Nat.zero_mul,Nat.zero_add,Lib.signless,if_neg (by omega)]
 rw[P9];unfold Q4
 rw[A5l (by omega),ct,key]
theorem A27 (k:Nat):10 ^ k<4294967296 ^ (k+1):=A14 k
theorem A17 {v k:Nat} (h:v<10 ^ k):(Ba v).length≤k+1:=JU (Nat.lt_trans h (A27 k))
theorem ua {N:Nat} {c:Bool} {q:Nat} {S9:List Nat} {K:LA→O R} (X:Av S9) (Y:val S9=10 ^ q) (hq:q=9):∀ (fuel j v:Nat) (g:List UInt8) (S:List Nat),g.length<fuel→g.all F3=true→v<10 ^ j→(v=0∨g.length%9=0)→fit (j+g.length+20) N→Av S→val S=v →
  Jk N K c false (Ba (10 ^ q)).length (As S9) fuel g false (Ba v).length (As S)=K (I9 (if c then -((v*10 ^ g.length+Lj g:Nat):Int) else ((v*10 ^ g.length+Lj g:Nat):Int))):=by
 intro fuel
 induction fuel with
 | zero=>intro j v g S h;omega
 | succ fuel ih =>
  intro j v g S hl u z i f hS hSv
  have f1:=f.1;have f2:=f.2
  have A:(Ba (10 ^ q)).length≤1:=by rw[hq];exact A59
  have hdv:=A17 z
  rw[Jk];unfold JY
  cases k:g with
  | nil =>
   rw[show(!(([]:List UInt8)==[]))=false by rfl,cf]
   rw[show v*10 ^ ([]:List UInt8).length+Lj []=v by simp[Lj]]
   cases c
   ·rw[cf,Ng hS hSv,if_neg (by simp)]
    congr 1
   ·rw[ct,Ng hS hSv,A22,Azb (OL _ _ _) (f.le (by show(Ba v).length≤_;omega)),A5k,show val (LS.of (Ba v) false true).l=v from Aw v,Int.natAbs_natCast,A4e,if_pos rfl]
    congr 1
    unfold I9
    rw[Int.natAbs_neg,Int.natAbs_natCast];rfl
  | cons d r =>
   rw[←k]
   have m:g≠[]:=by rw[k];simp
   have G:=List.length_pos_iff.2 m
   rw[show(!(g==[]))=true by simp[m],ct]
   have step:∀ o:Nat,1≤o→o≤9→o≤g.length→(g.length - o)%9=0→(v=0∨o=q)→T8 N (Jk N K c false (Ba (10 ^ q)).length (As S9) fuel) K c false (Ba (10 ^ q)).length (As S9) g (o:Int) false (Ba v).length (As S)=K (I9 (if c then -((v*10 ^ g.length+Lj g:Nat):Int) else ((v*10 ^ g.length+Lj g:Nat):Int))):=by
    intro o o1 o9 ol om oz
    have I:(g.take o).all F3=true:=by
     rw[List.all_eq_true] at u ⊢;exact fun x C=>u x (List.mem_of_mem_take C)
    have b:(g.take o).length=o:=by rw[List.length_take];omega
    have n:(g.drop o).length=g.length - o:=List.length_drop ..
    have s:=vg I
    rw[b] at s
    have y:10 ^ o≤10 ^ q:=Nat.pow_le_pow_right (by omega) (by omega)
    have e9:10 ^ q=1000000000:=by rw[hq]
    obtain⟨S1,a1,a2,a3⟩:=A13 (R:=R) (N:=N) (s1:=.of (Ba v) false true) (s2:=.of (Ba (10 ^ q)) false true) (o1:=true) (o2:=true) (OL _ _ _) (OL _ _ _) (f.le (by have:=A;show(Ba v).length+(Ba (10 ^ q)).length≤_;omega))
    rw[show val (LS.of (Ba v) false true).l=v from Aw v,show val (LS.of (Ba (10 ^ q)) false true).l=10 ^ q from Aw _] at a2 a3
    obtain⟨S2,b1,L,M⟩:=Yb (R:=R) (N:=N) (v:=(Lj (g.take o):Int)) (by omega) (by omega)
    rw[Int.natAbs_natCast] at L M
    have hm:v*10 ^ q<10 ^ (j+q):=by rw[Nat.pow_add];exact Nat.mul_lt_mul_of_pos_right z (Nat.pow_pos (by omega))
    have hdm:=A17 hm
    have hdx:(Ba (Lj (g.take o))).length≤1:=JU (by omega)
    obtain⟨S3,c1,T,U⟩:=Ay9 (R:=R) (N:=N) (n1:=false) (n2:=false) (s1:=.of (Ba (v*10 ^ q)) false true) (s2:=.of (Ba (Lj (g.take o))) false true) (o1:=true) (o2:=true) (OL _ _ _) (OL _ _ _) (f.le (by show(Ba (v*10 ^ q)).length+(Ba (Lj (g.take o))).length+1≤_;omega))
    rw[A5k,A5k,show val (LS.of (Ba (v*10 ^ q)) false true).l=v*10 ^ q from Aw _,show val (LS.of (Ba (Lj (g.take o))) false true).l=Lj (g.take o) from Aw _,Aim,Int.natAbs_natCast] at T U
    unfold T8
    rw[show((decide ((0:Int)≤(0:Int)))&&((decide (0≤(o:Int)))&&((decide ((o:Int)≤(((g.length):Nat):Int)))&&(decide ((((g.length):Nat):Int)≤(((g.length):Nat):Int))))))=true by simp;omega,ct,Int.toNat_natCast]
    rw[Azm I (by intro e;rw[e] at b;simp at b;omega) (by omega)]
    rw[Ng hS hSv,Ng X Y,A22,A22,a3,M,Ng a1 a2,Ng b1 L,A22,show decide (((Lj (g.take o):Nat):Int)<0)=false by simp,A22,U]
    rw[show decide (((v*10 ^ q+Lj (g.take o):Nat):Int)<0)=false by rw[decide_eq_false_iff_not];omega]
    rw[show((decide (0≤(o:Int)))&&((decide ((o:Int)≤(((g.length):Nat):Int)))&&((decide ((((g.length):Nat):Int)≤(((g.length):Nat):Int)))&&(decide ((((g.length):Nat):Int)≤(((g.length):Nat):Int))))))=true by simp;omega,ct]
    rw[List.take_of_length_le (l:=g.drop o) (by omega)]
    have D:v*10 ^ q+Lj (g.take o)<10 ^ (j+q):=by
     rcases oz with oz | oz
     ·subst oz;rw[Nat.zero_mul,Nat.zero_add]
      have:10 ^ q≤10 ^ (j+q):=Nat.pow_le_pow_right (by omega) (by omega)
      omega
     ·have:(v+1)*10 ^ q≤10 ^ j*10 ^ q:=Nat.mul_le_mul_right _ z
      rw[Nat.add_mul,Nat.one_mul] at this
      rw[Nat.pow_add];omega
    have F:v*10 ^ q+Lj (g.take o)<10 ^ (j+o):=by
     rcases oz with oz | oz
     ·subst oz;rw[Nat.zero_mul,Nat.zero_add]
      have:10 ^ o≤10 ^ (j+o):=Nat.pow_le_pow_right (by omega) (by omega)
      omega
     ·rw[show j+o=j+q by rw[oz]];exact D
    rw[ih (j+o) (v*10 ^ q+Lj (g.take o)) (g.drop o) S3 (by omega) (by rw[List.all_eq_true] at u ⊢;exact fun x C=>u x (List.mem_of_mem_drop C)) F (.inr (by rw[n];exact om)) (f.le (by omega)) c1 T]
    have e:(v*10 ^ q+Lj (g.take o))*10 ^ (g.drop o).length+Lj (g.drop o)=v*10 ^ g.length+Lj g:=by
     have V:=tj (g.take o) (g.drop o)
     rw[List.take_append_drop] at V
     rw[V,Nat.add_mul,Nat.add_assoc]
     congr 1
     rcases oz with oz | oz
     ·subst oz;simp
     ·rw[Nat.mul_assoc,←Nat.pow_add,n];congr 2;omega
    rw[e]
   have t:Int.tmod ((g.length:Nat):Int) 9=((g.length%9:Nat):Int):=rfl
   rw[t]
   by_cases y:g.length%9=0
   ·rw[y,show((((0:Nat):Int))==0)=true by rfl,ct]
    exact step 9 (by omega) (by omega) (by omega) (by omega) (.inr hq.symm)
   ·rw[A3q y,cf]
    exact step (g.length%9) (by omega) (by omega) (Nat.mod_le _ _) (by omega) (.inl (by rcases i with i | i;exact i;exact absurd i y))
def KW (s:List UInt8):Int:=match s with
 | 45::r=>-((Lj r:Nat):Int)
 | s=>((Lj s:Nat):Int)
def KX (s:List UInt8):Bool:=match s with
 | 45::r=>r.all F3
 | s=>s.all F3
theorem Arx {N:Nat} {s:List UInt8} {K:LA→O R} (hs:KX s=true) (b:fit (s.length+30) N):DK N s K=K (I9 (KW s)):=by
 have i:=b.1;have k:=b.2
 obtain⟨S0,a1,a2,a3⟩:=Yb (R:=R) (N:=N) (v:=0) (by omega) (by omega)
 obtain⟨S,d,e,f⟩:=Azd (R:=R) (N:=N) (n:=9) (b.le (by omega))
 rw[gR];unfold QF
 by_cases h:s.head?=some 45
 ·obtain⟨r,rfl⟩:∃ r,s=45::r:=by
   cases s with
   | nil=>simp at h
   | cons c r=>simp at h;exact⟨r,by rw[h]⟩
  rw[ia,a3]
  refine Eq.trans (f _) ?_
  have:=ua (R:=R) (N:=N) (c:=true) (K:=K) d e rfl N 0 0 r S0 (by rw[List.length_cons] at i;omega) hs (by decide) (.inl rfl) (b.le (by rw[List.length_cons];omega)) a1 a2
  rw[Nat.zero_mul,Nat.zero_add] at this
  exact this
 ·have e1:KW s=((Lj s:Nat):Int):=by
   unfold KW
   split
   ·simp at h
   ·rfl
  have j:s.all F3=true:=by
   rw[←hs];unfold KX
   split
   ·simp at h
   ·rfl
  rw[cH h,a3]
  refine Eq.trans (f _) ?_
  have:=ua (R:=R) (N:=N) (c:=false) (K:=K) d e rfl N 0 0 s S0 (by omega) j (by decide) (.inl rfl) (b.le (by omega)) a1 a2
  rw[Nat.zero_mul,Nat.zero_add] at this
  rw[e1]
  exact this
theorem Ahb {s:List UInt8} (h:W1 s=true):s.all F3=true:=by
 simp only[W1,Au7,Bool.and_eq_true] at h;exact h.1.1
theorem Alz {s:List UInt8} (h:vV s=true):KX s=true:=by
 by_cases h0:s.head?=some 45
 ·obtain⟨r,rfl⟩:∃ r,s=45::r:=by
   cases s with
   | nil=>simp at h0
   | cons c r=>simp at h0;exact⟨r,by rw[h0]⟩
  have h:(W1 r&&!(r==[48]))=true:=h
  simp only[Bool.and_eq_true] at h;exact Ahb h.1
 ·have e1:vV s=W1 s:=by
   unfold vV;split
   ·simp at h0
   ·rfl
  have b:KX s=s.all F3:=by
   unfold KX;split
   ·simp at h0
   ·rfl
  rw[b];rw[e1] at h;exact Ahb h
theorem Ahc {s:List UInt8} (h:s.all F3=true):∀ c ∈ s,c.toNat<128:=by
 intro c b
 have:=List.all_eq_true.1 h c b
 simp[F3] at this;omega
theorem A18 {s:List UInt8} (h:KX s=true):∀ c ∈ s,c.toNat<128:=by
 unfold KX at h
 split at h
 ·intro c b
  rcases List.mem_cons.1 b with rfl | b
  ·decide
  ·exact Ahc h c b
 ·exact Ahc h
theorem Ael {N:Nat} {s:List UInt8} {K:LA→Int→O R} (hs:vV s=true) (b:fit (s.length+30) N):Ta N s K=if 4096<Aee s then K [(.bool false),.nsl] 8 else K (I9 (KW s)) 0:=by
 have c:=b.1;have d:=b.2
 rw[Z5];unfold B'
 rw[ib (by omega),hs,show(!true)=false by rfl,cf,Ak1 (A18 (Alz hs)) (by omega) (by omega)]
 by_cases h:4096<Aee s
 ·rw[decide_eq_true h,ct,if_pos h]
 ·rw[decide_eq_false h,cf,Arx (Alz hs) b,A6j,ct,A5g,ct,A57,if_neg h]
theorem Al0 {N:Nat} {s:List UInt8} {K:LA→Int→O R} (hs:vV s=false) (b:fit (s.length+30) N):Ta N s K=K [(.bool false),.nsl] 2:=by
 have c:=b.1
 rw[Z5];unfold B'
 rw[ib (by omega),hs];rfl
end
end Gx

namespace Gx.Cf
open Go Go.Proofs
section
variable {R:Type}
theorem jG {N:Nat} {c:CaseD} {o:Bool} {K:Nat→Bool→LA→O R} (d:c.buses.l.length≤1000000):∀ (m j fuel:Nat),j+m=c.buses.l.length→m<fuel →
  Pu N K (c.buses.l.flatMap BusD.av) c.buses.l.length o fuel j (c.buses.l.length:Int) (j:Int) (Bg ((c.buses.l.take j).map (·.name)))=K c.buses.l.length true (Bg (c.buses.l.map (·.name)))
 | 0,j,fuel+1,e,_=>by
  rw[Pu];unfold CY
  have b:j=c.buses.l.length:=by omega
  rw[Iu (by omega),cf,List.take_of_length_le (by omega),b]
 | m+1,j,fuel+1,e,v=>by
  rw[Pu];unfold CY
  have h:j<c.buses.l.length:=by omega
  have i:(Nat.ble (j+1) 140737488355328&&Nat.ble ((j+1)*16) 140737488355328)=true:=by rw[Bx,Bx];simp;omega
  have k:List.take (j*1) (Bg ((c.buses.l.take j).map (·.name)))++[.str c.buses.l[j].name]=Bg ((c.buses.l.take (j+1)).map (·.name)):=by
   rw[List.take_of_length_le (by simp[Gg];omega),List.take_succ_eq_append_getElem h,List.map_append];simp[Bg]
  have n:List.drop (j*3) (List.flatMap BusD.av c.buses.l)=BusD.av c.buses.l[j]++(c.buses.l.drop (j+1)).flatMap BusD.av:=Ay K8 _ _ h
  have q:List.take 3 (BusD.av c.buses.l[j]++(c.buses.l.drop (j+1)).flatMap BusD.av)=BusD.av c.buses.l[j]:=rfl
  have s:∀ f:List UInt8→O R,BT (BusD.av c.buses.l[j]) f=f c.buses.l[j].name:=fun f=>rfl
  have t:Nat.ble 3 (List.length (BusD.av c.buses.l[j]++(c.buses.l.drop (j+1)).flatMap BusD.av))=true:=by rw[Bx,List.length_append,K8];simp
  have u:((Nat.beq 0 0)&&((Nat.beq (List.length (BusD.av c.buses.l[j])) 3)&&(Nat.beq 3 3)))=true:=rfl
  rw[Hh h,ct,Ab h,ct,Int.toNat_natCast,n,q,s,t,ct,u,ct,i,ct,k,wS (by omega),jG d m (j+1) fuel (by omega) (by omega)]
theorem Avl {N:Nat} {c:CaseD} {o:Bool} {K:Nat→Bool→LA→O R} (hs:Small c N):Rv N c.av o 1 K=K c.buses.l.length true (Bg (c.buses.l.map (·.name))):=by
 rw[U3];unfold W3
 have:=jG (R:=R) (N:=N) (c:=c) (o:=o) (K:=K) (by have:=hs.top;omega) c.buses.l.length 0 N (by omega) hs.bus.1
 rw[show((1:Int)==1)=true by rfl,ct,Ii]
 exact this
theorem jH {N:Nat} {c:CaseD} {o:Bool} {K:Nat→Bool→LA→O R} (d:c.units.l.length≤1000000):∀ (m j fuel:Nat),j+m=c.units.l.length→m<fuel →
  Pv N K (c.units.l.flatMap UnitD.av) c.units.l.length o fuel j (c.units.l.length:Int) (j:Int) (Bg ((c.units.l.take j).map (·.name)))=K c.units.l.length true (Bg (c.units.l.map (·.name)))
 | 0,j,fuel+1,e,_=>by
  rw[Pv];unfold CZ
  have b:j=c.units.l.length:=by omega
  rw[Iu (by omega),cf,List.take_of_length_le (by omega),b]
 | m+1,j,fuel+1,e,v=>by
  rw[Pv];unfold CZ
  have h:j<c.units.l.length:=by omega
  have i:(Nat.ble (j+1) 140737488355328&&Nat.ble ((j+1)*16) 140737488355328)=true:=by rw[Bx,Bx];simp;omega
  have k:List.take (j*1) (Bg ((c.units.l.take j).map (·.name)))++[.str c.units.l[j].name]=Bg ((c.units.l.take (j+1)).map (·.name)):=by
   rw[List.take_of_length_le (by simp[Gg];omega),List.take_succ_eq_append_getElem h,List.map_append];simp[Bg]
  have n:List.drop (j*22) (List.flatMap UnitD.av c.units.l)=UnitD.av c.units.l[j]++(c.units.l.drop (j+1)).flatMap UnitD.av:=Ay Dg _ _ h
  have q:List.take 22 (UnitD.av c.units.l[j]++(c.units.l.drop (j+1)).flatMap UnitD.av)=UnitD.av c.units.l[j]:=rfl
  have s:∀ f:List UInt8→O R,BT (UnitD.av c.units.l[j]) f=f c.units.l[j].name:=fun f=>rfl
  have t:Nat.ble 22 (List.length (UnitD.av c.units.l[j]++(c.units.l.drop (j+1)).flatMap UnitD.av))=true:=by rw[Bx,List.length_append,Dg];simp
  have u:((Nat.beq 0 0)&&((Nat.beq (List.length (UnitD.av c.units.l[j])) 22)&&(Nat.beq 22 22)))=true:=rfl
  rw[Hh h,ct,Ab h,ct,Int.toNat_natCast,n,q,s,t,ct,u,ct,i,ct,k,wS (by omega),jH d m (j+1) fuel (by omega) (by omega)]
theorem Avm {N:Nat} {c:CaseD} {o:Bool} {K:Nat→Bool→LA→O R} (hs:Small c N):Rv N c.av o 2 K=K c.units.l.length true (Bg (c.units.l.map (·.name))):=by
 rw[U3];unfold W3
 have:=jH (R:=R) (N:=N) (c:=c) (o:=o) (K:=K) (by have:=hs.top;omega) c.units.l.length 0 N (by omega) hs.uni.1
 rw[show((2:Int)==1)=false by rfl,cf,show((2:Int)==2)=true by rfl,ct,Ft]
 exact this
theorem jI {N:Nat} {c:CaseD} {o:Bool} {K:Nat→Bool→LA→O R} (d:c.lines.l.length≤1000000):∀ (m j fuel:Nat),j+m=c.lines.l.length→m<fuel →
  Pw N K (c.lines.l.flatMap LineD.av) c.lines.l.length o fuel j (c.lines.l.length:Int) (j:Int) (Bg ((c.lines.l.take j).map (·.name)))=K c.lines.l.length true (Bg (c.lines.l.map (·.name)))
 | 0,j,fuel+1,e,_=>by
  rw[Pw];unfold C_
  have b:j=c.lines.l.length:=by omega
  rw[Iu (by omega),cf,List.take_of_length_le (by omega),b]
 | m+1,j,fuel+1,e,v=>by
  rw[Pw];unfold C_
  have h:j<c.lines.l.length:=by omega
  have i:(Nat.ble (j+1) 140737488355328&&Nat.ble ((j+1)*16) 140737488355328)=true:=by rw[Bx,Bx];simp;omega
  have k:List.take (j*1) (Bg ((c.lines.l.take j).map (·.name)))++[.str c.lines.l[j].name]=Bg ((c.lines.l.take (j+1)).map (·.name)):=by
   rw[List.take_of_length_le (by simp[Gg];omega),List.take_succ_eq_append_getElem h,List.map_append];simp[Bg]
  have n:List.drop (j*12) (List.flatMap LineD.av c.lines.l)=LineD.av c.lines.l[j]++(c.lines.l.drop (j+1)).flatMap LineD.av:=Ay Cb _ _ h
  have q:List.take 12 (LineD.av c.lines.l[j]++(c.lines.l.drop (j+1)).flatMap LineD.av)=LineD.av c.lines.l[j]:=rfl
  have s:∀ f:List UInt8→O R,BT (LineD.av c.lines.l[j]) f=f c.lines.l[j].name:=fun f=>rfl
  have t:Nat.ble 12 (List.length (LineD.av c.lines.l[j]++(c.lines.l.drop (j+1)).flatMap LineD.av))=true:=by rw[Bx,List.length_append,Cb];simp
  have u:((Nat.beq 0 0)&&((Nat.beq (List.length (LineD.av c.lines.l[j])) 12)&&(Nat.beq 12 12)))=true:=rfl
  rw[Hh h,ct,Ab h,ct,Int.toNat_natCast,n,q,s,t,ct,u,ct,i,ct,k,wS (by omega),jI d m (j+1) fuel (by omega) (by omega)]
theorem Avn {N:Nat} {c:CaseD} {o:Bool} {K:Nat→Bool→LA→O R} (hs:Small c N):Rv N c.av o 3 K=K c.lines.l.length true (Bg (c.lines.l.map (·.name))):=by
 rw[U3];unfold W3
 have:=jI (R:=R) (N:=N) (c:=c) (o:=o) (K:=K) (by have:=hs.top;omega) c.lines.l.length 0 N (by omega) hs.lin.1
 rw[show((3:Int)==1)=false by rfl,cf,show((3:Int)==2)=false by rfl,cf,show((3:Int)==3)=true by rfl,ct,Gf]
 exact this
theorem Avo {N:Nat} {c:CaseD} {o:Bool} {f:Int} {K:Nat→Bool→LA→O R} (b:f≠1) (d:f≠2) (e:f≠3):Rv N c.av o f K=K 0 false []:=by
 rw[U3];unfold W3
 rw[show(f==1)=false by simpa using b,cf,show(f==2)=false by simpa using d,cf,show(f==3)=false by simpa using e,cf]
theorem Azn {N:Nat} {z:Int} {o:Bool} {K:Int→Bool→O R} (d:fit (Ba z.natAbs).length N) (i:¬ (-9223372036854775808≤z∧z≤9223372036854775807)):Yl N (I9 z) o K=K 0 false:=by
 have e:I9 z=Tt (decide (z<0)) (.of (Ba z.natAbs) false false):=rfl
 have f:=Au z.natAbs
 rw[e,QC];unfold MB
 rw[OK]
 show DI N (As (Ba z.natAbs)) (Ba z.natAbs).length false o _=_
 rw[tk rfl f d,Aw]
 by_cases b:z.natAbs<18446744073709551616
 ·rw[if_pos b,show(!true)=false by rfl,cf,CX]
  by_cases c:z<0
  ·rw[decide_eq_true c,show(true==true)=true by rfl,ct,show cond true (decide (((z.natAbs:Nat):Int)≤9223372036854775808)) false=false by rw[cond_true];exact decide_eq_false (by omega)]
   dsimp only
   unfold Ov
   rw[cf,CX];rfl
  ·rw[decide_eq_false c,show(false==true)=false by rfl,cf]
   dsimp only
   unfold Ov
   rw[cf,CX,show((!false)==true)=true by rfl,ct,show cond true (decide (((z.natAbs:Nat):Int)<9223372036854775808)) false=false by rw[cond_true];exact decide_eq_false (by omega),cf]
 ·rw[if_neg b];rfl
end
end Gx.Cf

namespace Gx
open Go Go.Proofs
section
variable {R:Type}
theorem jw (c b:UInt8) (l:List UInt8):Lib.index (b::l) [c]=if c=b then 0 else if Lib.index l [c]=-1 then -1 else Lib.index l [c]+1:=by
 rw[Lib.index]
 have f:([c].isPrefixOf (b::l)=true)↔c=b:=by simp[List.isPrefixOf]
 by_cases h:c=b
 ·rw[if_pos (f.2 h),if_pos h]
 ·rw[if_neg (fun e=>h (f.1 e)),if_neg h]
  by_cases d:Lib.index l [c]=-1
  ·rw[d];rfl
  ·rw[if_neg (by simpa using d),if_neg d]
theorem ot (c:UInt8):∀ s:List UInt8,c ∉ s→Lib.index s [c]=-1
 | [],_=>rfl
 | b::l,h=>by
  rw[jw,if_neg (fun e=>h (by simp[e])),ot c l (fun e=>h (by simp[e])),if_pos rfl]
theorem Abi (c:UInt8) (b:List UInt8):∀ a:List UInt8,c ∉ a→Lib.index (a++c::b) [c]=(a.length:Int)
 | [],_=>by rw[List.nil_append,jw,if_pos rfl];rfl
 | d::l,h=>by
  have:=Abi c b l (fun e=>h (by simp[e]))
  rw[List.cons_append,jw,if_neg (fun e=>h (by simp[e])),this,if_neg (by omega),List.length_cons];omega
theorem A4g {c:UInt8} {s:List UInt8} (h:c ∉ s):Lib.cut s [c]=(s,[],false):=by
 unfold Lib.cut;rw[ot c s h,if_neg (by omega)]
theorem A4h {c:UInt8} {a b:List UInt8} (h:c ∉ a):Lib.cut (a++c::b) [c]=(a,b,true):=by
 unfold Lib.cut;rw[Abi c b a h,if_pos (by omega),Int.toNat_natCast]
 rw[List.take_left,List.length_singleton,←List.drop_drop,List.drop_left];rfl
theorem A5m {N:Nat} {s t:List UInt8} {K:List UInt8→List UInt8→Bool→O R} (h:s.length≤4294967280):strings_Cut N s t K=K (Lib.cut s t).1 (Lib.cut s t).2.1 (Lib.cut s t).2.2:=by
 rw[Rz];unfold T5;rw[A5l h,ct]
end
end Gx

namespace Gx.Cf
open Go Go.Proofs
section
variable {R:Type}
def XA (c:UInt8):List UInt8→List (List UInt8)
 | []=>[[]]
 | b::r=>if b=c then []::XA c r else match XA c r with | []=>[[b]] | w::ws=>(b::w)::ws
theorem A4i (c:UInt8):∀ s,XA c s≠[]
 | []=>by simp[XA]
 | b::r=>by
  rw[XA]
  split
  ·simp
  ·split<;>simp
theorem Avp {c:UInt8}:∀ {s:List UInt8},c ∉ s→XA c s=[s]
 | [],_=>rfl
 | b::r,h=>by
  rw[XA,if_neg (fun e=>h (by simp[e])),Avp (fun hr=>h (List.mem_cons_of_mem _ hr))]
theorem Al1 {c:UInt8} {b:List UInt8}:∀ {a:List UInt8},c ∉ a→XA c (a++c::b)=a::XA c b
 | [],_=>by rw[List.nil_append,XA,if_pos rfl]
 | x::r,h=>by
  rw[List.cons_append,XA,if_neg (fun e=>h (by simp[e])),Al1 (fun hr=>h (List.mem_cons_of_mem _ hr))]
theorem qf {c:UInt8}:∀ {s:List UInt8},c ∈ s→∃ a b,s=a++c::b∧c ∉ a
 | x::r,h=>by
  by_cases e:c=x
  ·exact⟨[],r,by rw[e];rfl,by simp⟩
  ·obtain⟨a,b,d,f⟩:=qf (s:=r) (by rcases List.mem_cons.1 h with h | h;exact absurd h e;exact h)
   exact⟨x::a,b,by rw[d];rfl,by simp[e,f]⟩
theorem Azo (c:UInt8):∀ (n:Nat) (s:List UInt8),s.length≤n→Lib.splitK [c] 0 (Lib.count s [c]) s=XA c s:=by
 intro n
 induction n with
 | zero =>
  intro s hs
  have:s=[]:=List.eq_nil_of_length_eq_zero (by omega)
  subst this
  rw[Lib.count_miss (ot c [] (by simp))];rfl
 | succ n j =>
  intro s hs
  by_cases h:c ∈ s
  ·obtain⟨a,b,rfl,d⟩:=qf h
   have hi:=Abi c b a d
   have e:List.drop (a.length+[c].length) (a++c::b)=b:=by
    rw[←List.drop_drop,List.drop_left];rfl
   rw[List.length_append,List.length_cons] at hs
   have f:=Lib.count_hit (s:=a++c::b) (sub:=[c]) (i:=a.length) (by simp) hi
   rw[e] at f
   rw[f,Nat.add_comm 1,Lib.splitK,hi,if_neg (by simp),Int.toNat_natCast,e,j b (by omega),Nat.add_zero,List.take_left,Al1 d]
  ·rw[Lib.count_miss (ot c s h),Avp h];rfl
theorem Azp (c:UInt8) (s:List UInt8):KQ s [c]=XA c s:=by
 unfold KQ
 have:=Lib.splitB_data ⟨⟨[c]⟩⟩ 0 (Lib.countB ⟨⟨s⟩⟩ ⟨⟨[c]⟩⟩) ⟨⟨s⟩⟩
 rw[this]
 exact Azo c s.length s (Nat.le_refl _)
theorem vu {c:UInt8}:∀ s:List UInt8,(XA c s).length≤s.length+1
 | []=>by simp[XA]
 | b::r=>by
  have:=vu (c:=c) r
  rw[XA]
  split
  ·simp;omega
  ·split
   ·simp
   ·rename_i e;rw[e] at this;simp at this ⊢;omega
def Ln (w:List UInt8):Bool:=!(w==[])
def Xb (line:List UInt8):List (List UInt8):=(XA 32 (Lib.cut line [35]).1).filter Ln
theorem Al2 (s t:List UInt8):(Lib.cut s t).1.length≤s.length:=by
 unfold Lib.cut
 split
 ·rw[List.length_take];omega
 ·exact Nat.le_refl _
theorem jJ {N:Nat} {w:List UInt8} {K:Bool→O R}:Qh N w K=K (w==[]):=by rw[OF];rfl
theorem Aw8 {l:List (List UInt8)} {j:Nat} (h:j<l.length) {f:List UInt8→O R}:BT (List.drop j (Bg l)) f=f l[j]:=by
 have:List.drop j (Bg l)=.str l[j]::Bg (l.drop (j+1)):=by
  unfold Bg
  rw[←List.map_drop,List.drop_eq_getElem_cons h];rfl
 rw[this];rfl
theorem Aw9 {N:Nat} {l:List (List UInt8)} {o o':Bool} (k:l.length≤1000000000):∀ (m j fuel:Nat),j+m=l.length→m<fuel→(∀ i (h:i<l.length),i<j→l[i]≠[]) →
  (∃ g,∃ h:g<l.length,l[g]=[]∧(∀ i (h:i<l.length),i<g→l[i]≠[])∧∀ K:Int→O R,Ax N K (Bg l) l.length o o' fuel (l.length:Int) (j:Int)=K (g:Int)) ∨
  ((∀ i (h:i<l.length),l[i]≠[])∧∀ K:Int→O R,Ax N K (Bg l) l.length o o' fuel (l.length:Int) (j:Int)=K (-1))
 | 0,j,fuel+1,n,_,b=>by
  refine .inr ⟨fun i h=>b i h (by omega),fun K=>?_⟩
  rw[Ax];unfold Cq
  rw[Iu (by omega),cf]
 | m+1,j,fuel+1,n,u,b=>by
  have h:j<l.length:=by omega
  have step:∀ K:Int→O R,Ax N K (Bg l) l.length o o' (fuel+1) (l.length:Int) (j:Int)=cond (l[j]==[]) (K (j:Int)) (Ax N K (Bg l) l.length o o' fuel (l.length:Int) ((j+1:Nat):Int)):=fun K=>by
   rw[Ax];unfold Cq
   rw[Hh h,ct,Ab h,ct,Int.toNat_natCast,Nat.mul_one,Aw8 h,jJ,wS (by omega)]
  by_cases e:l[j]=[]
  ·exact .inl ⟨j,h,e,b,fun K=>by rw[step,e];rfl⟩
  ·have f:(l[j]==[])=false:=by simpa using e
   rcases Aw9 k m (j+1) fuel (by omega) (by omega) (fun i hi q=>by
    by_cases e3:i=j
    ·subst e3;exact e
    ·exact b i hi (by omega)) with⟨g,c,d,s,t⟩ | ⟨c,d⟩
   ·exact .inl ⟨g,c,d,s,fun K=>by rw[step,f];exact t K⟩
   ·exact .inr ⟨c,fun K=>by rw[step,f];exact d K⟩
end
end Gx.Cf

namespace Gx.Cf
open Go Go.Proofs
section
variable {R:Type}
def jx (n:Nat):LA:=List.replicate n (.str [])
theorem DQ (l:List (List UInt8)) (j:Nat):List.take j (Bg l)=Bg (l.take j):=by unfold Bg;rw[List.map_take]
theorem DR (l:List (List UInt8)) (j:Nat):List.drop j (Bg l)=Bg (l.drop j):=by unfold Bg;rw[List.map_drop]
theorem A19 (l m:List (List UInt8)):Bg (l++m)=Bg l++Bg m:=by unfold Bg;rw[List.map_append]
theorem Abj {l:List (List UInt8)} (h:∀ i (h:i<l.length),l[i]≠[]):l.filter Ln=l:=by
 rw[List.filter_eq_self]
 intro w b
 obtain⟨i,hi,rfl⟩:=List.getElem_of_mem b
 have:=h i hi
 unfold Ln;simpa using this
theorem Azq (A:List (List UInt8)) (x:List UInt8) (D:LA):List.take (A.length+1) (Bg A++.str x::D)=Bg A++Bg [x]:=by
 have e:Bg A++.str x::D=(Bg A++Bg [x])++D:=by simp[Bg]
 rw[e,List.take_left' (by simp[Bg])]
theorem Abk {N:Nat} {l:List (List UInt8)} {d0:LA} (q:l.length≤1000000000):∀ (m e fuel:Nat) (f:LA),e+m=l.length→m<fuel→f.length=l.length→f.take ((l.take e).filter Ln).length=Bg ((l.take e).filter Ln)→f.drop e=Bg (l.drop e) →
  ∀ K:Nat→LA→O R,Bd N K l.length d0 fuel (((l.take e).filter Ln).length:Int) (e:Int) f=K (l.filter Ln).length (Bg (l.filter Ln)++jx (l.length - (l.filter Ln).length))
 | 0,e,fuel+1,f,u,_,i,c,j,K=>by
  have v:e=l.length:=by omega
  have x:l.take e=l:=List.take_of_length_le (by omega)
  rw[x] at c ⊢
  have k:=List.length_filter_le Ln l
  rw[Bd];unfold Ci
  rw[Iu (by omega),cf]
  rw[show((decide (0≤((l.filter Ln).length:Int)))&&((decide (((l.filter Ln).length:Int)≤((l.length:Nat):Int)))&&((decide (((l.length:Nat):Int)≤((l.length:Nat):Int)))&&(decide (((l.length:Nat):Int)≤((l.length:Nat):Int))))))=true by simp;omega,ct]
  rw[show((decide ((0:Int)≤(0:Int)))&&((decide (0≤((l.filter Ln).length:Int)))&&((decide (((l.filter Ln).length:Int)≤((l.length:Nat):Int)))&&(decide (((l.length:Nat):Int)≤((l.length:Nat):Int))))))=true by simp;omega,ct]
  rw[Int.toNat_natCast,Nat.mul_one,Nat.zero_add]
  have hs:Cy f (l.filter Ln).length (List.replicate (l.length - (l.filter Ln).length) (.str []))=Bg (l.filter Ln)++jx (l.length - (l.filter Ln).length):=by
   unfold Cy jx
   rw[c,List.length_replicate,List.drop_eq_nil_of_le (by omega),List.append_nil]
  rw[hs]
 | m+1,e,fuel+1,f,u,y,i,c,j,K=>by
  have h:e<l.length:=by omega
  have k:((l.take e).filter Ln).length≤e:=by
   have:=List.length_filter_le Ln (l.take e)
   rw[List.length_take] at this;omega
  have s:l.take (e+1)=l.take e++[l[e]]:=List.take_succ_eq_append_getElem h
  have n:∀ F:List UInt8→O R,BT (List.drop (0+(e*1)) f) F=F l[e]:=fun F=>by
   rw[Nat.zero_add,Nat.mul_one,j,List.drop_eq_getElem_cons h];rfl
  rw[Bd];unfold Ci
  rw[Hh h,ct,Ab h,ct,Int.toNat_natCast,n,jJ,wS (by omega)]
  cases t:(l[e]==[]) with
  | true =>
   have b:(l.take (e+1)).filter Ln=(l.take e).filter Ln:=by
    rw[s,List.filter_append,List.filter_cons]
    have:Ln l[e]=false:=by unfold Ln;rw[t];rfl
    rw[if_neg (by simp[this])];simp
   rw[show(!true)=false by rfl,cf,wS (by omega)]
   have:=Abk (N:=N) (d0:=d0) q m (e+1) fuel f (by omega) (by omega) i (by rw[b];exact c) (by rw[←List.drop_drop,j,DR,List.drop_drop]) K
   rw[b] at this
   exact this
  | false =>
   have b:(l.take (e+1)).filter Ln=(l.take e).filter Ln++[l[e]]:=by
    rw[s,List.filter_append,List.filter_cons]
    have:Ln l[e]=true:=by unfold Ln;rw[t];rfl
    rw[if_pos this];simp
   rw[show(!false)=true by rfl,ct,Ab (show((l.take e).filter Ln).length<l.length by omega),ct,Int.toNat_natCast,Nat.mul_one,Nat.zero_add]
   rw[show((Nat.beq 1 1)&&((Nat.ble (((l.take e).filter Ln).length+1) f.length)&&true))=true by rw[Bx,i];simp;omega,ct,wS (by omega)]
   have d:f.set ((l.take e).filter Ln).length (.str l[e])=Bg ((l.take e).filter Ln)++.str l[e]::f.drop (((l.take e).filter Ln).length+1):=by
    rw[List.set_eq_take_append_cons_drop,if_pos (by omega),c]
   have:=Abk (N:=N) (d0:=d0) q m (e+1) fuel (f.set ((l.take e).filter Ln).length (.str l[e])) (by omega) (by omega) (by rw[List.length_set,i])
    (by rw[b,d,List.length_append,List.length_singleton,A19];exact Azq _ _ _)
    (by rw[List.drop_set,if_pos (by omega),←List.drop_drop,j,DR,List.drop_drop]) K
   rw[b,List.length_append,List.length_singleton] at this
   exact this
theorem A2a {N:Nat} {l:List (List UInt8)} (j:l.length≤1000000000) (hN:l.length+1≤N) (K:Nat→LA→O R):Br N l.length (Bg l) K=K (l.filter Ln).length (Bg (l.filter Ln)++jx (l.length - (l.filter Ln).length)):=by
 rw[G4];unfold C4
 rw[Nat.mul_one,DQ,List.take_length,Hp];unfold Df
 rcases Aw9 (R:=R) (N:=N) (l:=l) (o:=false) (o':=true) j l.length 0 N (by omega) (by omega) (fun i h hi=>by omega) with⟨g,k,m,d,e⟩ | ⟨d,e⟩
 ·refine(e _).trans ?_
  rw[show(((g:Nat):Int)==-1)=false by rw[beq_eq_false_iff_ne];omega,cf,wS (by omega)]
  have f:(l.take g).filter Ln=l.take g:=Abj (fun i hi=>by
   rw[List.getElem_take]
   rw[List.length_take] at hi
   exact d i (by omega) (by omega))
  have b:(l.take (g+1)).filter Ln=l.take g:=by
   rw[List.take_succ_eq_append_getElem k,List.filter_append,f,List.filter_cons]
   have:Ln l[g]=false:=by unfold Ln;rw[m];rfl
   rw[if_neg (by simp[this])];simp
  have c:(l.take g).length=g:=by rw[List.length_take];omega
  have:=Abk (R:=R) (N:=N) (l:=l) (d0:=Bg l) j (l.length - (g+1)) (g+1) N (Bg l) (by omega) (by omega) (Gg l) (by rw[b,DQ,c]) (DR _ _) K
  rw[b,c] at this
  exact this
 ·refine(e _).trans ?_
  rw[show(((-1:Int))==-1)=true by rfl,ct,Abj d,Nat.sub_self]
  unfold jx
  rw[List.replicate_zero,List.append_nil]
theorem Aem {N:Nat} {line:List UInt8} (b:line.length≤100000000) (hN:line.length+3≤N) (K:Nat→LA→O R):cI N line K=K (Xb line).length (Bg (Xb line)++jx ((XA 32 (Lib.cut line [35]).1).length - (Xb line).length)):=by
 have d:=Al2 line [35]
 have e:=vu (c:=32) (Lib.cut line [35]).1
 rw[oB];unfold qc
 rw[A5m (by omega),Oi];unfold Pt
 rw[show(Nat.ble (Lib.cut line [35]).1.length 4294967280&&Nat.ble 1 ([32]:List UInt8).length)=true by simp;omega,ct,Azp]
 exact A2a (by omega) (by omega) K
end
end Gx.Cf

namespace Gx.Cf
open Go Go.Proofs
section
variable {R:Type}
def A4t (z:Int):Bool:=decide (-9223372036854775808≤z)&&decide (z≤9223372036854775807)
def A2b (w:List UInt8):Int×Bool:=if 4096<Aee w then (0,false) else if A4t (KW w)=true then (KW w,true) else (0,false)
theorem A28 {w:List UInt8} (h:KX w=true):(KW w).natAbs<10 ^ w.length:=by
 by_cases h0:w.head?=some 45
 ·obtain⟨r,rfl⟩:∃ r,w=45::r:=by
   cases w with
   | nil=>simp at h0
   | cons c r=>simp at h0;exact⟨r,by rw[h0]⟩
  have hr:r.all F3=true:=h
  have b:=vg hr
  show(-((Lj r:Nat):Int)).natAbs<_
  rw[Int.natAbs_neg,Int.natAbs_natCast,List.length_cons]
  exact Nat.lt_of_lt_of_le b (Nat.pow_le_pow_right (by decide) (by omega))
 ·have e1:KX w=w.all F3:=by
   unfold KX;split
   ·exact absurd rfl h0
   ·rfl
  have d:KW w=((Lj w:Nat):Int):=by
   unfold KW;split
   ·exact absurd rfl h0
   ·rfl
  rw[e1] at h
  rw[d,Int.natAbs_natCast]
  exact vg h
theorem Avq {N:Nat} {z:Int} {o:Bool} {K:Int→Bool→O R} (b:fit (Ba z.natAbs).length N):Yl N (I9 z) o K=if A4t z=true then K z true else K 0 false:=by
 by_cases h:A4t z=true
 ·rw[if_pos h]
  have e:I9 z=Tt (decide (z<0)) (.of (Ba z.natAbs) false false):=rfl
  rw[e,Aqy (OL _ _ _) b (by rw[nz];unfold A4t at h;simpa using h),nz]
 ·rw[if_neg h]
  exact Azn b (by unfold A4t at h;simpa using h)
theorem Abl {N:Nat} {w:List UInt8} {K:Int→Bool→Int→O R} (d:w.length≤100000000) (c:fit (w.length+30) N):OQ N w K=if vV w=true then K (A2b w).1 (A2b w).2 0 else K 0 false 2:=by
 rw[ic];unfold js
 cases hn:vV w with
 | false=>rw[Al0 hn c,if_neg (by simp)];rfl
 | true =>
  rw[Ael hn c,if_pos rfl]
  unfold A2b
  by_cases b:4096<Aee w
  ·rw[if_pos b,if_pos b];rfl
  ·rw[if_neg b,if_neg b]
   have e:=A17 (A28 (Alz hn))
   rw[A6j,ct,show((0:Int)==8)=false by rfl,cf,show((0:Int) != 0)=false by rfl,cf,A5g,ct,A57,Avq (c.le (by omega))]
   by_cases hr:A4t (KW w)=true
   ·rw[if_pos hr,if_pos hr]
   ·rw[if_neg hr,if_neg hr]
def qg (c:CaseD) (f:Int):Option (List (List UInt8)):=if f=1 then some (c.buses.l.map (·.name)) else if f=2 then some (c.units.l.map (·.name)) else if f=3 then some (c.lines.l.map (·.name)) else none
theorem Aen {N:Nat} {c:CaseD} {o:Bool} {f:Int} {K:Nat→Bool→LA→O R} (hs:Small c N):Rv N c.av o f K=match qg c f with | some l=>K l.length true (Bg l) | none=>K 0 false []:=by
 unfold qg
 by_cases b:f=1
 ·subst b;rw[Avl hs,if_pos rfl];simp
 by_cases d:f=2
 ·subst d;rw[Avm hs,if_neg (by decide),if_pos rfl];simp
 by_cases e:f=3
 ·subst e;rw[Avn hs,if_neg (by decide),if_neg (by decide),if_pos rfl];simp
 rw[Avo b d e,if_neg b,if_neg d,if_neg e]
def Ve:List (List UInt8)→List UInt8→Int
 | [],_=>-1
 | x::r,w=>if w=x then 0 else if Ve r w<0 then -1 else Ve r w+1
theorem ou (l:List (List UInt8)) (w:List UInt8):-1≤Ve l w:=by
 induction l with
 | nil=>simp[Ve]
 | cons x r b=>rw[Ve];split;omega;split<;>omega
theorem Ahd {N:Nat} {l:List (List UInt8)} {o o':Bool} {w:List UInt8} {K:Int→O R} (b:l.length≤1000000000):∀ (m j fuel:Nat),j+m=l.length→m<fuel →
  Bl N K (Bg l) l.length o o' w fuel (l.length:Int) (j:Int)=K (if Ve (l.drop j) w<0 then -1 else (j:Int)+Ve (l.drop j) w)
 | 0,j,fuel+1,c,_=>by
  rw[Bl];unfold Dl
  rw[Iu (by omega),cf,Cx (by omega)];rfl
 | m+1,j,fuel+1,c,f=>by
  have h:j<l.length:=by omega
  have d:=ou (l.drop (j+1)) w
  rw[Bl];unfold Dl
  rw[Hh h,ct,Ab h,ct,Int.toNat_natCast,Nat.mul_one,Aw8 h,wS (by omega),Ahd b m (j+1) fuel (by omega) (by omega),List.drop_eq_getElem_cons h,Ve]
  by_cases e:w=l[j]
  ·rw[show(w==l[j])=true by simpa using e,ct,if_pos e];simp
  ·rw[show(w==l[j])=false by simpa using e,cf,if_neg e]
   by_cases h0:Ve (l.drop (j+1)) w<0
   ·rw[if_pos h0,if_pos h0];rfl
   ·rw[if_neg h0,if_neg h0,if_neg (by omega)]
    congr 1;omega
theorem Avr {N:Nat} {l:List (List UInt8)} {o o':Bool} {w:List UInt8} {K:Int→O R} (b:l.length≤1000000000) (hN:l.length+1≤N):Ce N (Bg l) l.length o o' w K=K (Ve l w):=by
 rw[Km];unfold Ef
 have:=Ahd (R:=R) (N:=N) (l:=l) (o:=o) (o':=o') (w:=w) (K:=K) b l.length 0 N (by omega) (by omega)
 have c:=ou l w
 refine this.trans ?_
 rw[List.drop_zero]
 congr 1
 split<;>omega
end
end Gx.Cf

namespace Gx.Cf
open Go Go.Proofs
section
variable {R:Type}
def M1:List (List UInt8):=[[100,101,109,97,110,100],[116,114,105,112],[108,105,110,101],[111,102,102,101,114],[115,116,101,112],[99,114,97,115,104],[98,111,111,116],[114,101,116,114,121]]
theorem JL {N:Nat} {row:LA} {w0 w:List UInt8} {r:List (List UInt8)} {b o o':Bool} {K:Bool→O R} (c:∀ F:List UInt8→O R,BT (row.drop 1) F=F w0):U2 N row b (Bg (w::r)) (r.length+1) o o' K=K (w0==w):=by
 rw[OO];unfold KR
 rw[c,show Ah (0:Int) (r.length+1)=true from Ab (i:=0) (by omega),ct];rfl
theorem Azr {N n i:Nat} {w:List UInt8} {r:List (List UInt8)} {o o':Bool} {K:Int→O R} (h:i<8):Az N K 8 vY (Bg (w::r)) (r.length+1) o o' (n+1) 8 (i:Int)=cond (M1.getD i []==w) (K (i:Int)) (Az N K 8 vY (Bg (w::r)) (r.length+1) o o' n 8 ((i+1:Nat):Int)):=by
 rw[Az];unfold Cd
 rcases i with _ | _ | _ | _ | _ | _ | _ | _ | i
 ·exact(JL (row:=U5 0) (fun _=>rfl)).trans rfl
 ·exact(JL (row:=U5 1) (fun _=>rfl)).trans rfl
 ·exact(JL (row:=U5 2) (fun _=>rfl)).trans rfl
 ·exact(JL (row:=U5 3) (fun _=>rfl)).trans rfl
 ·exact(JL (row:=U5 4) (fun _=>rfl)).trans rfl
 ·exact(JL (row:=U5 5) (fun _=>rfl)).trans rfl
 ·exact(JL (row:=U5 6) (fun _=>rfl)).trans rfl
 ·exact(JL (row:=U5 7) (fun _=>rfl)).trans rfl
 ·omega
theorem Ary {N:Nat} {w:List UInt8} {r:List (List UInt8)} {o o':Bool} {K:Int→O R}:∀ (m i fuel:Nat),i+m=8→m<fuel →
  Az N K 8 vY (Bg (w::r)) (r.length+1) o o' fuel 8 (i:Int)=K (if Ve (M1.drop i) w<0 then -1 else (i:Int)+Ve (M1.drop i) w)
 | 0,i,fuel+1,hi,_=>by
  obtain rfl:i=8:=by omega
  rw[Az];unfold Cd
  rfl
 | m+1,i,fuel+1,hi,c=>by
  have h:i<M1.length:=by show i<8;omega
  have b:=ou (M1.drop (i+1)) w
  rw[Azr (by omega),Ary m (i+1) fuel (by omega) (by omega),List.drop_eq_getElem_cons h,Ve,List.getD_eq_getElem?_getD,List.getElem?_eq_getElem h]
  by_cases e:w=M1[i]
  ·rw[show((some M1[i]).getD []==w)=true by rw[Option.getD_some,←e];simp,ct,if_pos e];simp
  ·rw[show((some M1[i]).getD []==w)=false by rw[Option.getD_some];simpa using fun h=>e h.symm,cf,if_neg e]
   by_cases h0:Ve (M1.drop (i+1)) w<0
   ·rw[if_pos h0,if_pos h0];rfl
   ·rw[if_neg h0,if_neg h0,if_neg (by omega)]
    congr 1;omega
theorem Azs {N:Nat} {w:List UInt8} {r:List (List UInt8)} {o o':Bool} {K:Int→O R} (hN:9≤N):Bm N 8 vY (Bg (w::r)) (r.length+1) o o' K=K (Ve M1 w):=by
 rw[Gr];unfold Cw
 have b:=ou M1 w
 refine(Ary 8 0 N rfl (by omega)).trans ?_
 rw[List.drop_zero]
 congr 1
 split<;>omega
def jK (c:CaseD) (f:Int) (I6:List (List UInt8)) (q r:Bool):Option (List (List UInt8)×Bool×Bool×Int) :=
 if f=0 then some (I6,q,r,0) else
 match I6 with
 | []=>none
 | w::rest'=>match qg c f with
  | some l=>some (rest',q&&decide (Ve l w≥0),r,Ve l w)
  | none=>if vV w=true then some (rest',q,r&&(A2b w).2,(A2b w).1) else none
theorem Ahe {c:CaseD} {f:Int} {I6 d:List (List UInt8)} {q r e t':Bool} {v:Int} (h:jK c f I6 q r=some (d,e,t',v)):∀ x ∈ d,x ∈ I6:=by
 unfold jK at h
 split at h
 ·cases h;exact fun x b=>b
 ·split at h
  ·cases h
  ·rename_i w rest'
   split at h
   ·cases h;exact fun x b=>List.mem_cons_of_mem _ b
   ·split at h
    ·cases h;exact fun x b=>List.mem_cons_of_mem _ b
    ·cases h
def A5n:LA:=[.int .i64 0,.int .i64 0,.int .i64 0,.int .i64 0]
theorem Avs (l:List Int) (j:Nat) (u:Int):(Aq l).set j (.int .i64 u)=Aq (l.set j u):=by unfold Aq;rw[List.map_set]
theorem A6a {n:Nat}:((decide ((0:Int)≤(1:Int)))&&((decide (1≤((n+1:Nat):Int)))&&((decide (((n+1:Nat):Int)≤((n+1:Nat):Int)))&&(decide (((n+1:Nat):Int)≤((n+1:Nat):Int))))))=true:=by simp;omega
theorem Azt {c:CaseD} {N:Nat} (hs:Small c N) {f:Int} {l:List (List UInt8)} (h:qg c f=some l):l.length≤1000000∧l.length+1≤N:=by
 have t:=hs.top
 have b:=hs.bus.1;have d:=hs.uni.1;have e:=hs.lin.1
 unfold qg at h
 split at h
 ·cases h;rw[List.length_map];omega
 ·split at h
  ·cases h;rw[List.length_map];omega
  ·split at h
   ·cases h;rw[List.length_map];omega
   ·cases h
theorem A2c {N n j:Nat} {c:CaseD} {l f:Int} {g i o q r:Bool} {I6:List (List UInt8)} {fl:LA} {vs:List Int} {K:LA→Int→O R} (C:j<3) (m:vs.length=3) (I:vs.set j 0=vs) (z:∀ F:Int→O R,At .i64 (List.drop (j*1) fl) F=F f) (hs:Small c N) (D:∀ w ∈ I6,w.length≤1100000) (G:fit 1200000 N) :
  Jw N K l g i o c.av vY (n+1) q r (Bg I6) I6.length fl (j:Int) (Aq vs) =
   match jK c f I6 q r with
   | none=>K A5n 2
   | some (rest',M,S,v)=>Jw N K l g i o c.av vY n M S (Bg rest') rest'.length fl ((j+1:Nat):Int) (Aq (vs.set j v)):=by
 have hN:=G.1
 rw[Jw];unfold DA
 rw[show decide ((j:Int)<3)=true by simp;omega,ct,show Ah (j:Int) 3=true from Ab C,ct,Int.toNat_natCast,z,wS (by omega)]
 unfold jK
 by_cases h0:f=0
 ·rw[show(f==0)=true by simpa using h0,ct,if_pos h0]
  dsimp only
  rw[I]
 rw[show(f==0)=false by simpa using h0,cf,if_neg h0]
 cases I6 with
 | nil=>rfl
 | cons w rest' =>
  have k:(Nat.beq 1 1&&(Nat.ble ((0+(j*1))+1) (Aq vs).length&&(!false)))=true:=by rw[Bx,Ek,m];simp;omega
  have d:List.take ((rest'.length+1 - 1)*1) (List.drop 1 (Bg (w::rest')))=Bg rest':=by
   rw[Nat.add_sub_cancel,Nat.mul_one,DR,DQ];simp
  have b:List.take (rest'.length*1) (List.drop 1 (Bg (w::rest')))=Bg rest':=by
   rw[Nat.mul_one,DR,DQ];simp
  have e:∀ u:Int,(Aq vs).set (0+(j*1)) (.int .i64 u)=Aq (vs.set j u):=fun u=>by rw[Nat.zero_add,Nat.mul_one,Avs]
  have A:∀ (u:Int) (F:Int→O R),At .i64 (List.drop (0+(j*1)) (Aq (vs.set j u))) F=F u:=fun u F=>by
   rw[Nat.zero_add,Nat.mul_one,kX (by rw[List.length_set,m];omega)];simp
  have s:∀ F:List UInt8→O R,BT (Bg (w::rest')) F=F w:=fun F=>rfl
  have t:Ah (0:Int) (rest'.length+1)=true:=Ab (i:=0) (by omega)
  have x:Ah (j:Int) 3=true:=Ab C
  dsimp only
  rw[List.length_cons,show(((rest'.length+1:Nat):Int)==0)=false by rw[beq_eq_false_iff_ne];omega,cf,F1,ct,Co,Aen hs]
  cases hn:qg c f with
  | some L =>
   have hL:=Azt hs hn
   dsimp only
   rw[ct,t,ct,s,Nat.mul_one,DQ,List.take_length,Avr (by omega) hL.2]
   simp only[x,ct,k,e,A,A6a,d,b,Nat.add_sub_cancel]
   cases q with
   | true=>rfl
   | false=>rfl
  | none =>
   dsimp only
   rw[cf,t,ct,s,Abl (by have:=D w (by simp);omega) (G.le (by have:=D w (by simp);omega))]
   by_cases y:vV w=true
   ·rw[if_pos y,if_pos y]
    simp only[x,ct,cf,k,e,A6a,d,b,Nat.add_sub_cancel,show((0:Int) != 0)=false from rfl]
    cases r with
    | true=>rfl
    | false=>rfl
   ·rw[if_neg y,if_neg y];rfl
def Aeo (i j:Nat):Int:=([[1,4,7],[2,5,0],[3,5,0],[2,6,8],[0,0,0],[0,0,9],[0,0,0],[0,4,0]].getD i []).getD j 0
structure EvD where
 k:Int
 a:Int
 b:Int
 v:Int
def EvD.av (e:EvD):LA:=Alc e.k e.a e.b e.v
def Al3 (c:CaseD) (i:Nat) (I6:List (List UInt8)) (q r:Bool) (a b v:Int):EvD×Int :=
 if I6≠[] then (⟨0,0,0,0⟩,2) else if q=false then (⟨0,0,0,0⟩,12) else if r=false then (⟨0,0,0,0⟩,3) else if Aek c ((i:Int)+1) a b v=true then (⟨(i:Int)+1,a,b,v⟩,0) else (⟨0,0,0,0⟩,3)
def Avt (c:CaseD) (i:Nat) (I6:List (List UInt8)):EvD×Int :=
 match jK c (Aeo i 0) I6 true true with
 | none=>(⟨0,0,0,0⟩,2)
 | some (r0,q0,t0,a)=>match jK c (Aeo i 1) r0 q0 t0 with
  | none=>(⟨0,0,0,0⟩,2)
  | some (r1,q1,t1,b)=>match jK c (Aeo i 2) r1 q1 t1 with
   | none=>(⟨0,0,0,0⟩,2)
   | some (r2,q2,t2,v)=>Al3 c i r2 q2 t2 a b v
def M2 (c:CaseD) (W:List (List UInt8)):EvD×Int:=match W with
 | []=>(⟨0,0,0,0⟩,2)
 | w::r=>if Ve M1 w<0 then (⟨0,0,0,0⟩,2) else Avt c (Ve M1 w).toNat r
theorem Arz {c:CaseD} {w:List UInt8} {r:List (List UInt8)}:M2 c (w::r)=if Ve M1 w<0 then (⟨0,0,0,0⟩,2) else Avt c (Ve M1 w).toNat r:=rfl
theorem A6b {N n i:Nat} {c:CaseD} {g i1 o q r:Bool} {I6:List (List UInt8)} {fl:LA} {a b v:Int} {K:LA→Int→O R} (hi:i<8) (hs:Small c N) (hH:1≤c.hours∧c.hours≤24) :
  Jw N K (i:Int) g i1 o c.av vY (n+1) q r (Bg I6) I6.length fl 3 (Aq [a,b,v])=K (Al3 c i I6 q r a b v).1.av (Al3 c i I6 q r a b v).2:=by
 have d:∀ F:Int→O R,At .i64 (List.drop (0+(i*5)) vY) F=F ((i:Int)+1):=fun F=>by
  rcases i with _ | _ | _ | _ | _ | _ | _ | _ | i
  ·rfl
  ·rfl
  ·rfl
  ·rfl
  ·rfl
  ·rfl
  ·rfl
  ·rfl
  ·omega
 have h0:∀ F:Int→O R,At .i64 (Aq [a,b,v]) F=F a:=fun F=>rfl
 have e:∀ F:Int→O R,At .i64 (List.drop 1 (Aq [a,b,v])) F=F b:=fun F=>rfl
 have f:∀ F:Int→O R,At .i64 (List.drop 2 (Aq [a,b,v])) F=F v:=fun F=>rfl
 rw[Jw];unfold DA
 rw[show decide ((3:Int)<3)=false by decide,cf,show Ah (i:Int) 8=true from Ab hi,ct,Int.toNat_natCast,d,h0,e,f]
 unfold Al3
 cases I6 with
 | cons w rest' =>
  rw[if_pos (by simp),show decide ((((w::rest').length:Nat):Int)>0)=true by simp,ct];rfl
 | nil =>
  rw[if_neg (by simp),show decide (((([]:List (List UInt8)).length:Nat):Int)>0)=false by decide,cf]
  cases q with
  | false=>rfl
  | true =>
   rw[show(!true)=false by rfl,cf,if_neg (by decide)]
   cases r with
   | false=>rfl
   | true =>
    rw[show((!true)==false)=true by rfl,ct,F1,ct,Co,if_neg (by decide)]
    refine(jF hs hH).trans ?_
    cases j:Aek c ((i:Int)+1) a b v with
    | true=>rw[if_pos rfl];rfl
    | false=>rw[if_neg (by decide)];rfl
theorem Aep {N:Nat} {c:CaseD} {o o1 o2:Bool} {w:List UInt8} {r:List (List UInt8)} {K:LA→Int→O R} (hs:Small c N) (hH:1≤c.hours∧c.hours≤24) (D:∀ x ∈ r,x.length≤1100000) (m:fit 1200000 N) :
  OR N c.av o (Bg (w::r)) (r.length+1) o1 o2 K=K (M2 c (w::r)).1.av (M2 c (w::r)).2:=by
 have hN:=m.1
 have I:=ou M1 w
 obtain⟨n,rfl⟩:∃ n,N=n+4:=⟨N - 4,by omega⟩
 have s:Ve M1 w<8:=by
  have:∀ (l:List (List UInt8)),Ve l w<(l.length:Int)∨Ve l w=-1:=by
   intro l
   induction l with
   | nil=>right;rfl
   | cons x l L =>
    rw[Ve,List.length_cons]
    split
    ·left;omega
    ·split
     ·right;rfl
     ·left;rcases L with h | h<;>omega
  rcases this M1 with h | h
  ·exact h
  ·omega
 rw[oR];unfold eZ
 rw[ip,Azs (by omega)]
 rw[Arz]
 by_cases h0:Ve M1 w<0
 ·rw[decide_eq_true h0,ct,if_pos h0];rfl
 rw[decide_eq_false h0,cf,if_neg h0]
 obtain⟨i,hi⟩:∃ i:Nat,Ve M1 w=i:=⟨(Ve M1 w).toNat,by omega⟩
 rw[hi] at s ⊢
 have e:i<8:=by omega
 have d:List.take ((r.length+1 - 1)*1) (List.drop 1 (Bg (w::r)))=Bg r:=by
  rw[Nat.add_sub_cancel,Nat.mul_one,DR,DQ];simp
 rw[A6a,ct,show Ah (i:Int) 8=true from Ab e,ct,d,Nat.add_sub_cancel,Int.toNat_natCast]
 obtain⟨t,u⟩:Nat.ble 3 ((vY.drop ((0+(i*5))+2)).length)=true∧(vY.drop ((0+(i*5))+2)).take 3=Aq [Aeo i 0,Aeo i 1,Aeo i 2]:=by
  rcases i with _ | _ | _ | _ | _ | _ | _ | _ | i
  ·exact⟨rfl,rfl⟩
  ·exact⟨rfl,rfl⟩
  ·exact⟨rfl,rfl⟩
  ·exact⟨rfl,rfl⟩
  ·exact⟨rfl,rfl⟩
  ·exact⟨rfl,rfl⟩
  ·exact⟨rfl,rfl⟩
  ·exact⟨rfl,rfl⟩
  ·omega
 rw[t,ct,u]
 unfold Avt
 have M:=A2c (R:=R) (N:=n+4) (n:=n+3) (j:=0) (c:=c) (l:=(i:Int)) (f:=Aeo i 0) (g:=o1) (i:=o2) (o:=o) (q:=true) (r:=true) (I6:=r) (fl:=Aq [Aeo i 0,Aeo i 1,Aeo i 2]) (vs:=[0,0,0]) (K:=K) (by omega) rfl rfl (fun _=>rfl) hs D m
 refine M.trans ?_
 cases S:jK c (Aeo i 0) r true true with
 | none=>rfl
 | some x0 =>
  obtain⟨y,F,t0,a⟩:=x0
  dsimp only
  have k:∀ x ∈ y,x.length≤1100000:=fun x z=>D x (Ahe S x z)
  have s1:=A2c (R:=R) (N:=n+4) (n:=n+2) (j:=1) (c:=c) (l:=(i:Int)) (f:=Aeo i 1) (g:=o1) (i:=o2) (o:=o) (q:=F) (r:=t0) (I6:=y) (fl:=Aq [Aeo i 0,Aeo i 1,Aeo i 2]) (vs:=[a,0,0]) (K:=K) (by omega) rfl rfl (fun _=>rfl) hs k m
  refine s1.trans ?_
  cases e1:jK c (Aeo i 1) y F t0 with
  | none=>rfl
  | some x1 =>
   obtain⟨A,G,t1,b⟩:=x1
   dsimp only
   have C:∀ x ∈ A,x.length≤1100000:=fun x z=>k x (Ahe e1 x z)
   have s2:=A2c (R:=R) (N:=n+4) (n:=n+1) (j:=2) (c:=c) (l:=(i:Int)) (f:=Aeo i 2) (g:=o1) (i:=o2) (o:=o) (q:=G) (r:=t1) (I6:=A) (fl:=Aq [Aeo i 0,Aeo i 1,Aeo i 2]) (vs:=[a,b,0]) (K:=K) (by omega) rfl rfl (fun _=>rfl) hs C m
   refine s2.trans ?_
   cases T:jK c (Aeo i 2) A G t1 with
   | none=>rfl
   | some x2 =>
    obtain⟨U,V,t2,v⟩:=x2
    dsimp only
    exact A6b e hs hH
end
end Gx.Cf

namespace Gx.Cf
open Go Go.Proofs
section
variable {R:Type}
def Hf (c:CaseD):List (List UInt8)→Nat→List EvD→List EvD×Int×Int
 | [],_,acc=>(acc,0,0)
 | x::ls,at_,acc=>match Xb x with
  | []=>Hf c ls (at_+1) acc
  | w::r=>if (M2 c (w::r)).2=0 then (if acc.length=256 then ([],(at_:Int),8) else Hf c ls (at_+1) (acc++[(M2 c (w::r)).1])) else ([],(at_:Int),(M2 c (w::r)).2)
theorem A29 (l:List EvD):(l.flatMap EvD.av).length=l.length*4:=by
 induction l with
 | nil=>rfl
 | cons e l b=>rw[List.flatMap_cons,List.length_append,b,show e.av.length=4 from rfl,List.length_cons];omega
theorem vw {c:UInt8}:∀ {s w:List UInt8},w ∈ XA c s→w.length≤s.length
 | [],w,h=>by simp[XA] at h;subst h;exact Nat.le_refl _
 | b::r,w,h=>by
  rw[XA] at h
  split at h
  ·rcases List.mem_cons.1 h with rfl | h
   ·simp
   ·have:=vw h;simp;omega
  ·split at h
   ·simp at h;subst h;simp
   ·rename_i w0 ws d
    rcases List.mem_cons.1 h with rfl | h
    ·have:=vw (c:=c) (s:=r) (w:=w0) (by rw[d];simp);simp;omega
    ·have:=vw (c:=c) (s:=r) (w:=w) (by rw[d];exact List.mem_cons_of_mem _ h);simp;omega
theorem Azu {x w:List UInt8} (h:w ∈ Xb x):w.length≤x.length:=by
 have b:=vw (List.mem_filter.1 h).1
 exact Nat.le_trans b (Al2 _ _)
theorem A2d (e:EvD):((Nat.beq (List.length e.av) 4)&&((Nat.ble 4 4)&&(!false)))=true:=rfl
theorem Avu {N:Nat} {c:CaseD} {o:Bool} {K:Nat→Int→Int→LA→O R} (hs:Small c N) (hH:1≤c.hours∧c.hours≤24) (G:fit 1200000 N):∀ (ls:List (List UInt8)) (g:List UInt8) (i:Bool) (at_ fuel:Nat) (d:List EvD),((i=true∧XA 10 g=ls)∨(i=false∧ls=[]))→g.length≤1048576→ls.length<fuel→at_+ls.length≤100000000→d.length≤256 →
  Lv N K o c.av fuel g d.length (at_:Int) i (d.flatMap EvD.av)=K (Hf c ls at_ d).1.length (Hf c ls at_ d).2.1 (Hf c ls at_ d).2.2 ((Hf c ls at_ d).1.flatMap EvD.av):=by
 have hN:=G.1
 intro ls
 induction ls with
 | nil =>
  intro g i at_ fuel d hi C j q k
  rcases hi with⟨rfl,hi⟩ | ⟨rfl,_⟩
  ·exact absurd hi (A4i _ _)
  ·cases fuel with
   | zero=>simp at j
   | succ fuel=>rw[Lv];unfold DB;rfl
 | cons x ls I =>
  intro g i at_ fuel d hi C j q k
  rw[List.length_cons] at j q
  rcases hi with⟨rfl,hi⟩ | ⟨_,hi⟩
  ·cases fuel with
   | zero=>simp at j
   | succ fuel =>
    obtain⟨g',m,s,e,t,T⟩:∃ g' m,Lib.cut g [10]=(x,g',m)∧((m=true∧XA 10 g'=ls)∨(m=false∧ls=[]))∧g'.length≤1048576∧x.length≤1048576:=by
     by_cases h:(10:UInt8) ∈ g
     ·obtain⟨a,b,rfl,L⟩:=qf h
      rw[Al1 L] at hi
      obtain⟨rfl,rfl⟩:=List.cons.inj hi
      rw[List.length_append,List.length_cons] at C
      exact⟨b,true,A4h L,.inl ⟨rfl,rfl⟩,by omega,by omega⟩
     ·rw[Avp h] at hi
      obtain⟨rfl,rfl⟩:=List.cons.inj hi
      exact⟨[],false,A4g h,.inr ⟨rfl,rfl⟩,by simp,C⟩
    have M:(Xb x).length≤x.length+1:=Nat.le_trans (List.length_filter_le _ _) (Nat.le_trans (vu _) (by have:=Al2 x [35];omega))
    rw[Lv];unfold DB
    rw[ct,A5m (by omega),s]
    dsimp only
    rw[Aem (by omega) (by omega),wS (by omega)]
    have D:List.take ((Xb x).length*1) (Bg (Xb x)++jx ((XA 32 (Lib.cut x [35]).1).length - (Xb x).length))=Bg (Xb x):=by
     rw[Nat.mul_one,List.take_left' (Gg _)]
    rw[D,Hf]
    cases hW:Xb x with
    | nil =>
     rw[show(((([]:List (List UInt8)).length:Nat):Int)==0)=true by rfl,ct]
     exact I g' m (at_+1) fuel d e t (by omega) (by omega) k
    | cons w r =>
     have F:∀ y ∈ r,y.length≤1100000:=fun y S=>by
      have:=Azu (x:=x) (w:=y) (by rw[hW];exact List.mem_cons_of_mem _ S)
      omega
     dsimp only
     rw[show((((w::r).length:Nat):Int)==0)=false by rw[beq_eq_false_iff_ne,List.length_cons];omega,cf,F1,ct,Co,List.length_cons,Aep hs hH F G,A2d,ct]
     have l:setCells [(.int .i64 0),(.int .i64 0),(.int .i64 0),(.int .i64 0)] 0 (M2 c (w::r)).1.av=(M2 c (w::r)).1.av:=rfl
     rw[l]
     by_cases u:(M2 c (w::r)).2=0
     ·rw[if_pos u,u,show(((0:Int)==0)==true)=true by rfl,ct,A2l]
      by_cases f:d.length=256
      ·rw[if_pos f,show(((d.length:Nat):Int)==256)=true by rw[f];rfl,ct]
       unfold To
       rfl
      ·rw[if_neg f,show(((d.length:Nat):Int)==256)=false by rw[beq_eq_false_iff_ne];omega,cf]
       unfold To
       rw[show((0:Int) != 0)=false by rfl,cf]
       have n:((Nat.ble (d.length+1) 140737488355328)&&(Nat.ble ((d.length+1)*32) 140737488355328))=true:=by rw[Bx,Bx];simp;omega
       have v:List.take (d.length*4) (d.flatMap EvD.av)=d.flatMap EvD.av:=by rw[List.take_of_length_le (by rw[A29];exact Nat.le_refl _)]
       have z:List.take 4 (M2 c (w::r)).1.av=(M2 c (w::r)).1.av:=rfl
       rw[z,show Nat.ble 4 (M2 c (w::r)).1.av.length=true by rfl,ct,show((Nat.beq (M2 c (w::r)).1.av.length 4)&&(Nat.ble 4 4))=true by rfl,ct,n,ct,v,l,z,wS (by omega)]
       have A:d.flatMap EvD.av++(M2 c (w::r)).1.av=(d++[(M2 c (w::r)).1]).flatMap EvD.av:=by rw[List.flatMap_append];simp
       have:=I g' m (at_+1) fuel (d++[(M2 c (w::r)).1]) e t (by omega) (by omega) (by rw[List.length_append,List.length_singleton];omega)
       rw[List.length_append,List.length_singleton] at this
       rw[A]
       exact this
     ·rw[if_neg u,show((((M2 c (w::r)).2)==0)==true)=false by rw[OV,beq_eq_false_iff_ne];exact u,cf]
      unfold To
      rw[show(((M2 c (w::r)).2) != 0)=true by simpa using u,ct]
      rfl
  ·cases hi
theorem Yg {N:Nat} {c:CaseD} {o:Bool} {s:List UInt8} {K:Nat→Int→Int→LA→O R} (hs:Small c N) (b:Dz c=none) (e:s.length≤1048576) (d:fit 1200000 N) :
  Nh N c.av o s K=K (Hf c (XA 10 s) 1 []).1.length (Hf c (XA 10 s) 1 []).2.1 (Hf c (XA 10 s) 1 []).2.2 ((Hf c (XA 10 s) 1 []).1.flatMap EvD.av):=by
 have hN:=d.1
 have f:=vu (c:=10) s
 have hH:1≤c.hours∧c.hours≤24:=by
  unfold Dz at b
  split at b
  ·cases b
  ·rename_i i;exact(eD i).hours
 rw[oT];unfold e_
 rw[F1,ct,Co,i8 hs,b]
 show cond (decide (((s.length:Nat):Int)>1048576)) _ _=_
 rw[decide_eq_false (by omega),cf]
 exact Avu hs hH d (XA 10 s) s true 1 N [] (.inl ⟨rfl,rfl⟩) e (by omega) (by omega) (by simp)
end
end Gx.Cf

namespace Gx.Cf
open Go Go.Proofs
section
variable {R:Type}
theorem Ahf {N:Nat} (hN:4096≤N) {c:CaseD} (g:aR c):Small c N:=by
 obtain⟨H,d,bs,ls,us,ss,ts,os,b,og,_,rfl⟩:=g
 exact Agl hN b og
theorem OW {N:Nat} {v n:Int} (b:1≤n) (c:n≤4611686018427387904):∃ r:Int,0≤r∧r<n∧∀ K:Int→O R,Z6 N v n K=K r:=by
 obtain⟨a1,a2,a3⟩:=Ao9 v n b c
 refine⟨_,a2,a3,fun K=>?_⟩
 rw[j9];unfold va
 rw[a1,cf]
end
end Gx.Cf

namespace Gx.Cf
open Go Go.Proofs
section
variable {R:Type}
theorem Sc {ok:Bool} {w:Int×Int×Int} {e:{ e:Int // e≠0 }} (h:ok=true):nd none ok w e=none:=by rw[h];rfl
theorem GB {α:Type} {f:Nat→α→C1→C1}:∀ (l:List α) (j:Nat),(∀ i (h:i<l.length),f (j+i) l[i] none=none)→Bj f l j none=none
 | [],_,_=>rfl
 | a::r,j,h=>by
  rw[Bj]
  have h0:=h 0 (by simp)
  simp only[Nat.add_zero,List.getElem_cons_zero] at h0
  rw[h0]
  exact GB r (j+1) (fun i hi=>by have:=h (i+1) (by simpa using hi);rw[show j+1+i=j+(i+1) by omega];simpa using this)
theorem Al4:∀ i,i<16→∀ j,j<16→A54.getD i 0=A54.getD j 0→i=j:=by decide
theorem jy:∀ i,i<16→Mm [98,A54.getD i 0]=true∧Mm [108,A54.getD i 0]=true∧Mm [117,A54.getD i 0]=true∧Mm [111,A54.getD i 0]=true:=by decide
theorem OX {names:List (List UInt8)} {k:Int} {i:Nat} {s:List UInt8} (b:Mm s=true) (c:∀ x ∈ names.take i,x≠s):Kj (names.take i) k i s none=none:=by
 unfold Kj
 rw[Sc b,Sc]
 rw[List.all_eq_true]
 intro x d
 have:=c x d
 simpa using this
theorem ov {α β:Type} {f:α→β} {l:List α} {i:Nat} {x:β} (h:x ∈ (l.map f).take i):∃ j,∃ (b:j<l.length),j<i∧x=f l[j]:=by
 obtain⟨j,b,rfl⟩:=List.getElem_of_mem h
 have c:j<i∧j<l.length:=by simp at b;omega
 exact⟨j,c.2,c.1,by simp⟩
theorem ow {H:Nat} {l:List Int} {lo hi:Int} {w:Int×Int×Int} (b:l.length=H) (c:∀ x ∈ l,lo≤x∧x≤hi):gc (H:Int) l lo hi w none=none:=by
 unfold gc
 rw[Sc (by simp[b]),Sc]
 rw[List.all_eq_true];intro x d;exact Fo (c x d)
theorem Axa {H:Nat} {l:List Int} {w:Int×Int×Int} (hH:1≤H∧H≤3) (b:l.length≤1) (c:∀ x ∈ l,0≤x∧x<(H:Int)):aF (H:Int) l w none=none:=by
 unfold aF
 rw[Pa (by omega),Sc,Sc]
 ·match l,b with
  | [],_=>exact mL
  | [a],_=>exact QM a
 ·rw[List.all_eq_true];intro x d;have:=c x d;exact Fo (by omega)
structure OutV (nl nu:Nat) (x:OutD):Prop where
 ll:x.lines.l.length=1∨x.lines.l.length=2
 lr:∀ y ∈ x.lines.l,0≤y∧y<(nl:Int)
 la:jd x.lines.l=true
 ml:x.moves.l.length≤16
 mc:((x.moves.l.length:Int)==0||x.corr)=true
 mr:∀ m ∈ x.moves.l,0≤m.unit∧m.unit<(nu:Int)
 ma:jd (x.moves.l.map (·.unit))=true
 mi:x.moves.l.all Acy=true
theorem Abm {c:CaseD} {b:Int} (h:0≤b∧b<(c.buses.l.length:Int)):UP c b=true:=by
 unfold UP;rw[decide_eq_true h.1,decide_eq_true h.2];rfl
theorem A3a {c:CaseD} {H:Nat} {s:List Int} {bs:List BusD} {ls:List LineD} {us:List UnitD} {ss:List StoreD} {ts:List TieD} {os:List OutD} (eH:c.hours=(H:Int)) (eR:c.reserve.l=s) (eB:c.buses.l=bs) (eL:c.lines.l=ls) (eU:c.units.l=us) (eS:c.stores.l=ss) (eT:c.ties.l=ts) (eO:c.outs.l=os)
  (b:BaseG H s bs ls us ss ts) (D:os.length≤4) (F:∀ x ∈ os,OutV ls.length us.length x)
  (hn:∀ i (h:i<os.length),Mm os[i].name=true∧∀ j (k:j<os.length),j<i→os[j].name≠os[i].name):KC c=none:=by
 have A:=b.h;have bl:=b.bl;have ll:=b.ll;have ul:=b.ul;have sl:=b.sl;have tl:=b.tl
 have G:aG c none=none:=by
  unfold aG
  simp only[eH,eR,eB,eL,eU,eS,eT,eO]
  rw[Sc (Fo (by omega)),ow b.rl (fun x d=>by have:=b.rr x d;omega),Sc (Fo (by omega)),Sc (decide_eq_true (by omega)),Sc (decide_eq_true (by omega)),Sc (decide_eq_true (by omega)),Sc (decide_eq_true (by omega)),Sc (decide_eq_true (by omega))]
 have I:Bj (Acw c) bs 0 none=none:=by
  refine GB _ _ fun i hi=>?_
  have g:=b.bg i hi
  unfold Acw
  simp only[eH,eB,eL,eU,eS,eT,eO,Nat.zero_add]
  rw[OX (by rw[g.name];exact(jy i (by omega)).1) (by
   intro x d
   obtain⟨j,k,f,rfl⟩:=ov d
   rw[(b.bg j k).name,g.name]
   intro e;simp at e;have:=Al4 j (by omega) i (by omega) (by simpa using e);omega),ow g.dl (fun x d=>by have:=g.dr x d;omega),Sc (Fo (by have:=g.shed;omega))]
 have K:Bj (MY c) ls 0 none=none:=by
  refine GB _ _ fun i hi=>?_
  have g:=b.lg i hi
  unfold MY
  simp only[eH,eB,eL,eU,eS,eT,eO,Nat.zero_add]
  rw[OX (by rw[g.g.name];exact(jy i (by omega)).2.1) (by
   intro x d
   obtain⟨j,k,f,rfl⟩:=ov d
   rw[(b.lg j k).g.name,g.g.name]
   intro e;simp at e;have:=Al4 j (by omega) i (by omega) (by simpa using e);omega)]
  have t:=g.fr;have q:=g.tx;have C:=g.ne
  rw[Sc (Abm (by rw[eB];omega)),Sc (Abm (by rw[eB];omega)),Sc (by simpa using fun e=>C e.symm),Sc g.g.re,Sc g.g.smin,Sc g.g.smax,Sc g.g.lim,Sc g.g.em,Axa A g.g.aw g.g.awr]
 have L:Bj (UQ c) us 0 none=none:=by
  refine GB _ _ fun i hi=>?_
  have g:=b.ug i hi
  unfold UQ Ajy
  simp only[eH,eB,eL,eU,eS,eT,eO,Nat.zero_add]
  have t:=g.bus
  have e1:Kj ((us.map (·.name)).take i) 3 (i:Int) us[i].name none=none:=OX (by rw[g.name];exact(jy i (by omega)).2.2.1) (by
   intro x d
   obtain⟨j,k,f,rfl⟩:=ov d
   rw[(b.ug j k).name,g.name]
   intro e;simp at e;have:=Al4 j (by omega) i (by omega) (by simpa using e);omega)
  rw[e1,Sc (Abm (by rw[eB];omega)),Sc g.min,Sc g.max,Sc (decide_eq_true (by have:=g.sl;omega)),Sc g.sok,Sc g.sord,Sc g.ssum,Sc g.noLoad,Sc g.rampUp,Sc g.rampDown,Sc g.startRamp,Sc g.stopRamp,Sc g.upTime,Sc g.downTime,Sc g.startTime,Sc g.hotCost,Sc g.coldCost,Sc g.hotHours,Sc g.reserve,Sc g.reservePrice,Axa A g.aw g.awr,Sc g.state,Sc g.starting,Sc g.hours,Sc g.started]
  have q:=g.output
  cases d:us[i].state==2 with
  | true=>rw[d] at q;exact Sc q
  | false=>rw[d] at q;exact Sc q
 have u:Bj (Z8 c) ss 0 none=none:=by
  refine GB _ _ fun i hi=>?_
  have g:=b.sg _ (List.getElem_mem hi)
  have n:i=0:=by omega
  unfold Z8 I7
  simp only[eH,eB,eL,eU,eS,eT,eO,Nat.zero_add]
  have t:=g.bus;have q:=g.cap;have C:=g.ini;have S:=g.fin;have T:=g.ch;have U:=g.dis;have V:=g.eff
  have e1:Kj ((ss.map (·.name)).take i) 4 (i:Int) ss[i].name none=none:=OX (by rw[g.name];decide) (by subst n;simp)
  rw[e1,Sc (Abm (by rw[eB];omega)),Sc (Fo (by omega)),Sc (Fo (by omega)),Sc (Fo (by omega)),Sc (Fo (by omega)),Sc (Fo (by omega)),Sc]
  rw[Fo (by omega),Fo (by omega)];simp;omega
 have v:Bj (Acx c) ts 0 none=none:=by
  refine GB _ _ fun i hi=>?_
  have g:=b.tg _ (List.getElem_mem hi)
  have n:i=0:=by omega
  unfold Acx
  simp only[eH,eB,eL,eU,eS,eT,eO,Nat.zero_add]
  have t:=g.bus
  have e1:Kj ((ts.map (·.name)).take i) 5 (i:Int) ts[i].name none=none:=OX (by rw[g.name];decide) (by subst n;simp)
  rw[e1,Sc (Abm (by rw[eB];omega)),ow g.il (fun x d=>by have:=g.ir x d;omega),ow g.el (fun x d=>by have:=g.er x d;omega),ow g.pl (fun x d=>by have:=g.pr x d;omega)]
 have z:Bj (jf c) os 0 none=none:=by
  refine GB _ _ fun i hi=>?_
  have g:=F _ (List.getElem_mem hi)
  obtain⟨n1,n2⟩:=hn i hi
  unfold jf je
  simp only[eH,eB,eL,eU,eS,eT,eO,Nat.zero_add]
  have e1:Kj ((os.map (·.name)).take i) 6 (i:Int) os[i].name none=none:=OX n1 (by
   intro x d
   obtain⟨j,k,f,rfl⟩:=ov d
   exact n2 j k f)
  rw[e1,Sc (by have:=g.ll;simp;omega),Sc,Sc g.la,Sc g.mc,Sc (decide_eq_true (by have:=g.ml;omega)),Sc,Sc g.ma,Sc g.mi]
  ·rw[List.all_eq_true];intro m M;have:=g.mr m M;unfold Ao2;rw[eU];simp;omega
  ·rw[List.all_eq_true];intro y O;have:=g.lr y O;simp;omega
 unfold KC
 simp only[eB,eL,eU,eS,eT,eO]
 rw[G,I,K,L,u,v,z]
theorem A4j {f:Bool} {H:Nat} {c:List Int} {bs:List BusD} {ls:List LineD} {us:List UnitD} {ss:List StoreD} {ts:List TieD} {os:List OutD} (b:BaseG H c bs ls us ss ts) (d:os.length≤4) (e:∀ x ∈ os,OutV ls.length us.length x)
  (hn:∀ i (h:i<os.length),Mm os[i].name=true∧∀ j (k:j<os.length),j<i→os[j].name≠os[i].name):KC (z_ f H c bs ls us ss ts os)=none :=
 A3a rfl rfl rfl rfl rfl rfl rfl rfl b d e hn
end
end Gx.Cf

namespace Gx.Cf
open Go Go.Proofs
section
variable {R:Type}
theorem qh {c:CaseD} (h:c.outs.l=[]):∀ m j,Mn c m j none=none
 | 0,_=>rfl
 | m+1,j=>by rw[Mn,h];exact qh h m (j+1)
theorem Azv {c:CaseD} (g:aR c):Dz c=none:=by
 obtain⟨H,d,bs,ls,us,ss,ts,os,b,og,e,rfl⟩:=g
 rcases e with rfl | e
 ·unfold Dz
  rw[A4j b (by simp) (by simp) (by simp)]
  exact qh rfl _ _
 ·have e1:KC (z_ false H d bs ls us ss ts os)=KC (z_ true H d bs ls us ss ts os):=rfl
  have f:∀ m j p,Mn (z_ false H d bs ls us ss ts os) m j p=Mn (z_ true H d bs ls us ss ts os) m j p:=by
   intro m
   induction m with
   | zero=>intro j p;rfl
   | succ m i =>
    intro j p
    rw[Mn,Mn]
    refine(i _ _).trans ?_
    rfl
  unfold Dz at e ⊢
  rw[e1,f]
  exact e
theorem ud {c:CaseD} (b:Dz c=none):1≤c.hours∧c.hours≤24:=by
 unfold Dz at b
 split at b
 ·cases b
 ·rename_i d;exact(eD d).hours
def A6k:BusD:=⟨[97],.of [15] false false,0⟩
def A6l:UnitD:=⟨[103],0,10,20,.of [⟨10,2⟩] false false,7,20,20,20,20,1,1,0,0,0,1,0,0,.nil,2,1,15⟩
def Avv:CaseD:=⟨1,.of [0] false false,.of [A6k] false false,.nil,.of [A6l] false false,.nil,.nil,.nil⟩
theorem A4k:KC Avv=none:=by kernel_rfl
theorem Abn:Dz Avv=none:=by
 unfold Dz
 rw[A4k]
 exact qh rfl _ _
theorem A2e {N:Nat} (hN:4096≤N):Small Avv N:=by
 have fit:∀ n:Nat,n≤100→Es n N:=fun n hn=>⟨by omega,by omega⟩
 refine⟨by omega,fit _ (by simp[Avv,Sl.l]),fit _ (by simp[Avv,Sl.l]),fit _ (by simp[Avv,Sl.l]),fit _ (by simp[Avv,Sl.l]),fit _ (by simp[Avv,Sl.l]),fit _ (by simp[Avv,Sl.l]),fit _ (by simp[Avv,Sl.l]),
  fun x b=>?_,fun x b=>?_,fun x b=>?_,fun x b=>?_,fun x b=>?_,fun x b=>?_,fun x b=>?_,fun x b=>?_,fun x b=>?_,fun x b=>?_,by simp[Avv,Sl.l]⟩
 all_goals simp[Avv,Sl.l] at b
 all_goals subst b
 all_goals exact fit _ (by simp[A6k,A6l,Sl.l])
def A3u:LA:=[(.int .i64 1),(.imm [(.int .i64 0)] 1 1 false true),(.imm [(.str ([97]:List UInt8)),(.imm [(.int .i64 15)] 1 1 false false),(.int .i64 0)] 1 3 false true),.nsl,(.imm [(.str ([103]:List UInt8)),(.int .i64 0),(.int .i64 10),(.int .i64 20),(.imm [(.int .i64 10),(.int .i64 2)] 1 2 false false),(.int .i64 7),(.int .i64 20),(.int .i64 20),(.int .i64 20),(.int .i64 20),(.int .i64 1),(.int .i64 1),(.int .i64 0),(.int .i64 0),(.int .i64 0),(.int .i64 1),(.int .i64 0),(.int .i64 0),.nsl,(.int .i64 2),(.int .i64 1),(.int .i64 15)] 1 22 false true),.nsl,.nsl,.nsl]
theorem A4l {N:Nat} (hN:2≤N):∃ z:LA,z.length=3∧∀ K:Nat→LA→O R,Fg N 1 K=K 1 z:=by
 refine⟨setCells [(.bool false),.nsl,.nsl] 0 (cq 0),rfl,fun K=>?_⟩
 obtain⟨n,hn⟩:∃ n,N=n+2:=⟨N - 2,by omega⟩
 have k:Jx N K 1 (n+2) 1 0 [(.bool false),.nsl,.nsl]=K 1 (setCells [(.bool false),.nsl,.nsl] 0 (cq 0)):=by
  rw[Jx];unfold Yd
  rw[jq]
  show Jx N K 1 (n+1) 1 1 (setCells [(.bool false),.nsl,.nsl] 0 (cq 0))=_
  rw[Jx];unfold Yd
  rfl
 rw[←hn] at k
 rw[iq];unfold R_
 exact k
theorem A2f {N:Nat} (hN:4096≤N):∃ e s:LA,e.length=3∧∀ K:Nat→Nat→Nat→Nat→Nat→Nat→Nat→LA→LA→LA→LA→LA→LA→LA→LA→O R,DP N A3u true K=K 1 0 0 0 0 1 0 e [] [] [] [] s [] []:=by
 obtain⟨z,l,c⟩:=A4l (R:=R) (N:=N) (by omega)
 obtain⟨n,hn⟩:∃ n,N=n+2:=⟨N - 2,by omega⟩
 refine⟨[(.imm [.int .i64 0] 1 1 false false),(.imm (z.take 3) 1 3 false false),(.imm (z.take 3) 1 3 false false)],[(.imm (z.take 3) 1 3 false false)],rfl,fun K=>?_⟩
 have d:∀ s,U7 N K true A3u 1 0 0 0 0 1 [(.imm [.int .i64 0] 1 1 false false),(.imm (z.take 3) 1 3 false false),(.imm (z.take 3) 1 3 false false)] [] [] [] [] s (n+2) 0 0 []=K 1 0 0 0 0 1 0 [(.imm [.int .i64 0] 1 1 false false),(.imm (z.take 3) 1 3 false false),(.imm (z.take 3) 1 3 false false)] [] [] [] [] s [] []:=fun s=>by
  rw[U7];unfold KT;rfl
 rw[←hn] at d
 have f:Mz N K true A3u 1 0 0 0 0 [(.imm [.int .i64 0] 1 1 false false),(.imm (z.take 3) 1 3 false false),(.imm (z.take 3) 1 3 false false)] [] [] [] [] (n+2) 0 0 []=K 1 0 0 0 0 1 0 [(.imm [.int .i64 0] 1 1 false false),(.imm (z.take 3) 1 3 false false),(.imm (z.take 3) 1 3 false false)] [] [] [] [] [(.imm (z.take 3) 1 3 false false)] [] []:=by
  rw[Mz];unfold Ye
  show Fg N 1 _=_
  rw[c]
  refine Eq.trans (b:=Mz N K true A3u 1 0 0 0 0 [(.imm [.int .i64 0] 1 1 false false),(.imm (z.take 3) 1 3 false false),(.imm (z.take 3) 1 3 false false)] [] [] [] [] (n+1) 1 1 [(.imm (z.take 3) 1 3 false false)]) rfl ?_
  rw[Mz];unfold Ye
  exact d _
 rw[←hn] at f
 have i:U8 N K true A3u 1 0 0 0 [(.imm [.int .i64 0] 1 1 false false),(.imm (z.take 3) 1 3 false false),(.imm (z.take 3) 1 3 false false)] [] [] [] (n+2) 0 0 []=K 1 0 0 0 0 1 0 [(.imm [.int .i64 0] 1 1 false false),(.imm (z.take 3) 1 3 false false),(.imm (z.take 3) 1 3 false false)] [] [] [] [] [(.imm (z.take 3) 1 3 false false)] [] []:=by
  rw[U8];unfold KU
  exact f
 rw[←hn] at i
 have j:U9 N K true A3u 1 [(.imm [.int .i64 0] 1 1 false false),(.imm (z.take 3) 1 3 false false),(.imm (z.take 3) 1 3 false false)] (n+2) 0 0 0 0 [] [] []=K 1 0 0 0 0 1 0 [(.imm [.int .i64 0] 1 1 false false),(.imm (z.take 3) 1 3 false false),(.imm (z.take 3) 1 3 false false)] [] [] [] [] [(.imm (z.take 3) 1 3 false false)] [] []:=by
  rw[U9];unfold KV
  exact i
 rw[←hn] at j
 have k:Jy N K true A3u (n+2) 0 0 []=K 1 0 0 0 0 1 0 [(.imm [.int .i64 0] 1 1 false false),(.imm (z.take 3) 1 3 false false),(.imm (z.take 3) 1 3 false false)] [] [] [] [] [(.imm (z.take 3) 1 3 false false)] [] []:=by
  rw[Jy];unfold Yf
  show Fg N 1 _=_
  rw[c]
  show Fg N 1 _=_
  rw[c]
  refine Eq.trans (b:=Jy N K true A3u (n+1) 1 1 [(.imm [.int .i64 0] 1 1 false false),(.imm (z.take 3) 1 3 false false),(.imm (z.take 3) 1 3 false false)]) rfl ?_
  rw[Jy];unfold Yf
  exact j
 rw[←hn] at k
 rw[ix];unfold SA
 exact k
theorem Al5 {N:Nat} (hN:4096≤N):∃ P:LA,P.length=8∧∀ K:LA→LA→O R,F_ N K=K Avv.av P:=by
 obtain⟨e,s,c,d⟩:=A2f (R:=R) hN
 refine⟨?P,?h1,fun K=>?h2⟩
 case f =>
  rw[cR];unfold cQ
  refine(d _).trans ?_
  rw[Aa1 (by omega) (by omega)]
  refine Eq.trans (b:=Yj N _) rfl ?_
  rw[jq,c]
  exact rfl
 case i=>rfl
end
end Gx.Cf

namespace Gx.Cf
open Go Go.Proofs
section
variable {R:Type}
theorem Ar0:∀ (l:List EvD) (j:Nat) (h:j<l.length),((l.flatMap EvD.av).drop (j*4)).take 4=l[j].av∧Nat.ble 4 ((l.flatMap EvD.av).drop (j*4)).length=true
 | e::l,0,_=>⟨rfl,rfl⟩
 | e::l,j+1,h=>by
  have b:((e::l).flatMap EvD.av).drop ((j+1)*4)=(l.flatMap EvD.av).drop (j*4):=by
   rw[show(j+1)*4=4+j*4 by omega,←List.drop_drop];rfl
  rw[b]
  exact Ar0 l j (by simpa using h)
theorem Azw {N:Nat} {l:List EvD} {a b c d:Bool} {K:Bool→O R} (e:l.length<N) (C:l.length≤1000000):F' N (l.flatMap EvD.av) l.length a b (l.flatMap EvD.av) l.length c d K=K true:=by
 have go:∀ (m j fuel:Nat),j+m=l.length→m<fuel→Py N K (l.flatMap EvD.av) l.length a b (l.flatMap EvD.av) l.length c d fuel (j:Int)=K true:=by
  intro m
  induction m with
  | zero =>
   intro j fuel i n
   obtain⟨f,rfl⟩:∃ f,fuel=f+1:=⟨fuel - 1,by omega⟩
   rw[Py];unfold DC
   rw[Iu (by omega),cf]
  | succ m q =>
   intro j fuel i n
   obtain⟨f,rfl⟩:∃ f,fuel=f+1:=⟨fuel - 1,by omega⟩
   have h:j<l.length:=by omega
   obtain⟨s,t⟩:=Ar0 l j h
   have u:∀ g:Bool,((!g)||A0 l[j].av)=true:=fun g=>by cases g<;>rfl
   have x:∀ F:Int→O R,At .i64 l[j].av F=F l[j].k:=fun F=>rfl
   have y:∀ F:Int→O R,At .i64 (l[j].av.drop 1) F=F l[j].a:=fun F=>rfl
   have z:∀ F:Int→O R,At .i64 (l[j].av.drop 2) F=F l[j].b:=fun F=>rfl
   have A:∀ F:Int→O R,At .i64 (l[j].av.drop 3) F=F l[j].v:=fun F=>rfl
   rw[Py];unfold DC
   rw[Hh h,ct,Ab h,ct]
   simp only[Int.toNat_natCast,s,t,u,ct,x,y,z,A]
   rw[show((Nat.ble 1 4)&&((Nat.beq (l[j].av.length) 4)&&((Nat.beq (l[j].av.length) 4)&&(true&&(!false)))))=true from rfl,ct]
   simp only[beq_self_eq_true,Bool.and_self,Bool.not_true]
   rw[cf,wS (by omega)]
   exact q (j+1) f (by omega) (by omega)
 rw[o8];unfold ee
 rw[show(((l.length:Nat):Int) != ((l.length:Nat):Int))=false by simp,cf]
 exact go l.length 0 N (by omega) e
theorem A3b:Hf Avv (XA 10 ([116,114,105,112,32,103,32,49,32,35,32,98,111,105,108,101,114,10,10,115,116,101,112]:List UInt8)) 1 []=([⟨2,0,1,0⟩,⟨5,0,0,0⟩],0,0):=by kernel_rfl
theorem A3c:Hf Avv (XA 10 ([115,116,101,112,32,110,111,119]:List UInt8)) 1 []=([],1,2):=by kernel_rfl
theorem A3d:Hf Avv (XA 10 ([100,101,109,97,110,100,32,97,32,57,57,32,53]:List UInt8)) 1 []=([],1,3):=by kernel_rfl
theorem vz {N:Nat} (c:fit 1200000 N) {K:Bool→O R}:Fn N K=K true:=by
 have hN:=c.1
 obtain⟨P,hP,d⟩:=Al5 (R:=R) (N:=N) (by omega)
 have hs:=A2e (N:=N) (by omega)
 rw[WN];unfold SB
 refine(d _).trans ?_
 rw[hP]
 simp only[Co,F1]
 refine Eq.trans (b:=Nh N Avv.av false _ _) rfl ?_
 rw[Yg hs Abn (by decide) c,A3b]
 refine Eq.trans (b:=Nh N Avv.av false _ _) rfl ?_
 rw[Yg hs Abn (by decide) c,A3c]
 refine Eq.trans (b:=Nh N Avv.av false _ _) rfl ?_
 rw[Yg hs Abn (by decide) c,A3d]
 refine Eq.trans (b:=F' N (([⟨2,0,1,0⟩,⟨5,0,0,0⟩]:List EvD).flatMap EvD.av) ([⟨2,0,1,0⟩,⟨5,0,0,0⟩]:List EvD).length false true (([⟨2,0,1,0⟩,⟨5,0,0,0⟩]:List EvD).flatMap EvD.av) ([⟨2,0,1,0⟩,⟨5,0,0,0⟩]:List EvD).length false true _) rfl ?_
 rw[Azw (by simp;omega) (by simp)]
 rfl
end
end Gx.Cf

namespace Gx.Cf
open Go Go.Proofs
section
variable {R:Type}
def BL:Nat→List UInt8
 | 0=>[]
 | n+1=>[115,116,101,112,10]++BL n
def A2g:EvD:=⟨5,0,0,0⟩
theorem Abo:∀ n,BL n++[115,116,101,112,10]=BL (n+1)
 | 0=>rfl
 | n+1=>by rw[BL,List.append_assoc,Abo n,BL];rfl
theorem qi:∀ n,(BL n).length=n*5
 | 0=>rfl
 | n+1=>by rw[BL,List.length_append,qi n,List.length_cons];simp;omega
theorem Avw:Xb [115,116,101,112]=[[115,116,101,112]]:=by kernel_rfl
theorem Avx {c:CaseD}:M2 c [[115,116,101,112]]=(A2g,0):=by kernel_rfl
theorem Avy {c:CaseD} {ls:List (List UInt8)} {at_:Nat} {b:List EvD}:Hf c ([115,116,101,112]::ls) at_ b=if b.length=256 then ([],(at_:Int),8) else Hf c ls (at_+1) (b++[A2g]):=by
 rw[Hf,Avw]
 dsimp only
 rw[Avx,if_pos rfl]
theorem Ahg {c:CaseD} {ls:List (List UInt8)} {at_:Nat} {b:List EvD}:Hf c ([]::ls) at_ b=Hf c ls (at_+1) b:=by
 rw[Hf,show Xb []=[] from rfl]
theorem ue {c:CaseD}:∀ (n at_:Nat) (b:List EvD),b.length≤256→Hf c (XA 10 (BL n)) at_ b=if b.length+n≤256 then (b++List.replicate n A2g,0,0) else ([],((at_+(256 - b.length):Nat):Int),8)
 | 0,at_,b,h=>by
  rw[BL,show XA 10 []=[[]] from rfl,Ahg,Hf,if_pos (by omega)]
  simp
 | n+1,at_,b,h=>by
  rw[BL,show([115,116,101,112,10]:List UInt8)++BL n=[115,116,101,112]++10::BL n from rfl,Al1 (by decide),Avy]
  by_cases d:b.length=256
  ·rw[if_pos d,if_neg (by omega),d];simp
  ·rw[if_neg d,ue n (at_+1) _ (by rw[List.length_append,List.length_singleton];omega),List.length_append,List.length_singleton]
   by_cases e:b.length+1+n≤256
   ·rw[if_pos e,if_pos (by omega),List.append_assoc,List.replicate_succ];rfl
   ·rw[if_neg e,if_neg (by omega),show at_+1+(256 - (b.length+1))=at_+(256 - b.length) by omega]
theorem pA {c:CaseD} {s:List UInt8} {b:List EvD}:∀ (f at_:Nat),Hf c (XA 10 (List.replicate f 10++s)) at_ b=Hf c (XA 10 s) (at_+f) b
 | 0,_=>rfl
 | f+1,at_=>by
  rw[List.replicate_succ,List.cons_append,XA,if_pos rfl,Ahg,pA f (at_+1),show at_+1+f=at_+(f+1) by omega]
theorem Azx {N:Nat} {l:List Int} {n:Nat} {t o:Bool} {p b:Int} (hn:n=l.length) (j:fit 1200000 N) (z:l.length≤9223372036854775807) {K:Bool→O R}:Lm N (Aq l) n t o p b K=K true:=by
 have hN:=j.1
 rw[Zw];unfold Ok
 by_cases d:((n:Nat):Int)>200
 ·rw[decide_eq_true d,ct]
 rw[decide_eq_false d,cf]
 obtain⟨c,g,A⟩:=mq (R:=R) (N:=N) (l:=l) (n:=n) (t:=false) (o:=o) hn (by omega) z
 have hs:=Ahf (N:=N) (by omega) g
 have D:=Azv g
 obtain⟨y,y0,y1,F⟩:=OW (R:=R) (N:=N) (v:=p) (n:=5) (by omega) (by omega)
 obtain⟨x',x0,x1,k⟩:=OW (R:=R) (N:=N) (v:=b) (n:=4) (by omega) (by omega)
 obtain⟨x,rfl⟩:∃ x:Nat,x'=x:=⟨x'.toNat,by omega⟩
 rw[A,show((Nat.beq 0 0)&&((Nat.beq (List.length c.av) 8)&&(Nat.beq 8 8)))=true from rfl,ct,F]
 obtain⟨C,hC⟩:∃ C:Nat,254+y=C:=⟨(254+y).toNat,by omega⟩
 rw[i64 (by omega),hC]
 have two:∀ (m i fuel:Nat),i+m=C→m<fuel→Fh N K b (C:Int) c.av fuel (List.replicate x 10++BL i) (i:Int)=K true:=by
  intro m
  induction m with
  | zero =>
   intro i fuel hi e
   obtain⟨f,rfl⟩:∃ f,fuel=f+1:=⟨fuel - 1,by omega⟩
   obtain rfl:i=C:=by omega
   rw[Fh];unfold Jz
   rw[Iu (by omega),cf,F1,ct,Co,Yg hs D (by rw[List.length_append,qi,List.length_replicate];omega) j,pA,ue _ _ _ (by simp)]
   by_cases h:i≤256
   ·rw[if_pos (by simp;omega),decide_eq_false (by omega),cf,vz j]
    simp
   ·rw[if_neg (by simp;omega),decide_eq_true (by omega),ct,vz j,k,i64 (a:=(x:Int)+256) (by omega),i64 (a:=(x:Int)+256+1) (by omega)]
    simp
    congr 1
    simp
    omega
  | succ m q =>
   intro i fuel hi e
   obtain⟨f,rfl⟩:∃ f,fuel=f+1:=⟨fuel - 1,by omega⟩
   have s:(List.replicate x (10:UInt8)++BL i).length≤5000:=by rw[List.length_append,qi,List.length_replicate];omega
   rw[Fh];unfold Jz
   rw[Hh (by omega),ct,show Nat.ble ((List.replicate x (10:UInt8)++BL i).length+5) 140737488355328=true by rw[Bx];exact decide_eq_true (by omega),ct,wS (by omega),List.append_assoc,Abo]
   exact q (i+1) f (by omega) (by omega)
 have one:∀ (m f fuel:Nat),f+m=x→m<fuel→D0 N K b c.av fuel (C:Int) (List.replicate f 10) (f:Int)=K true:=by
  intro m
  induction m with
  | zero =>
   intro f fuel hi e
   obtain⟨u,rfl⟩:∃ u,fuel=u+1:=⟨fuel - 1,by omega⟩
   obtain rfl:f=x:=by omega
   rw[D0];unfold J3
   rw[k,Iu (by omega),cf]
   have:=two C 0 N (by omega) (by omega)
   rw[BL,List.append_nil] at this
   exact this
  | succ m q =>
   intro f fuel hi e
   obtain⟨u,rfl⟩:∃ u,fuel=u+1:=⟨fuel - 1,by omega⟩
   rw[D0];unfold J3
   rw[k,Hh (by omega),ct,show Nat.ble ((List.replicate f (10:UInt8)).length+1) 140737488355328=true by rw[Bx,List.length_replicate];simp;omega,ct,wS (by omega),←List.replicate_succ']
   exact q (f+1) u (by omega) (by omega)
 exact one x 0 N (by omega) (by omega)
end
end Gx.Cf

namespace Gx
open Go Go.Proofs Go.RowKit Go.ChangeShapes
open Go.Proofs.YtjmfofdghmlldaaGreatDoor (Rows.uptoBulk Rows.uptoBulkAll)
structure OpensU (B:Nat) (P:Program) (t:TypeId) {α:Type} (e:α→List AV) (n:Nat):Prop where
 size:P.cellsOf t=n
 pos:0<n
 len:∀ a,(e a).length=n
 read:∀ {H:Type} (enc:TypeId×Value→H) (W:World) (fuel:Nat) (cs:List Value) (d:DataW H) (ps:List MemPlace),DataW.trod enc P W 0 (fun _=>true) true fuel t cs=some (d,ps)→Rows.uptoBulk d≤B →
  cs.length=n∧∃ a,RepCs (fun k=>k<W.heap.size) W (e a) (fun j=>cs[j]?) 0
theorem Opens.u {B:Nat} {P:Program} {t:TypeId} {α:Type} {e:α→LA} {n:Nat} (h:Opens P t e n):OpensU B P t e n:=⟨h.size,h.pos,h.len,fun enc W fuel cs d ps b _=>h.read enc W fuel cs d ps b⟩
theorem Abp {H:Type}:∀ {l:List (DataW H)} {i:Nat} {x:DataW H},l[i]?=some x→Rows.uptoBulk x≤Rows.uptoBulkAll l
 | a::r,0,x,h=>by simp at h;subst h;simp only[Rows.uptoBulkAll];omega
 | a::r,i+1,x,h=>by
  have:=Abp (l:=r) (i:=i) (x:=x) (by simpa using h)
  simp only[Rows.uptoBulkAll];omega
theorem Ahh {H:Type} {k:Nat}:∀ {l:List (DataW H)},(∀ x ∈ l,k≤Rows.uptoBulk x)→l.length*k≤Rows.uptoBulkAll l
 | [],_=>by simp
 | a::r,h=>by
  have c:=h a (by simp)
  have d:=Ahh (l:=r) fun x b=>h x (List.mem_cons_of_mem _ b)
  simp only[Rows.uptoBulkAll,List.length_cons,Nat.succ_mul];omega
def Al7 (P:Program) (t:TypeId) (k:Nat):Prop:=∀ {H:Type} (enc:TypeId×Value→H) (W:World) (fuel:Nat) (cs:List Value) (d:DataW H) (ps:List MemPlace),DataW.trod enc P W 0 (fun _=>true) true fuel t cs=some (d,ps)→k≤Rows.uptoBulk d
theorem JM {P:Program} {t:TypeId}:Al7 P t 1:=fun _ _ _ _ d _ _=>A02 d
theorem Abq {P:Program} {t:TypeId} {fs:Array Field} (b:P.underlying t=some (.struct fs)) (e:1≤fs.size):Al7 P t 2:=fun enc W fuel cs d ps h=>by
 obtain⟨xs,m,_,c,_,f,_⟩:=DataW.trod_struct b h
 obtain rfl:d=.agg (xs.map (·.1)):=(Prod.mk.inj c).1
 have:=A03 (xs.map (·.1))
 rw[List.length_map] at this
 simp only[Rows.uptoBulk];omega
theorem Vd {B k:Nat} {P:Program} {t L:TypeId} {α:Type} {e:α→LA} {n:Nat} (V:P.underlying t=some (.slice L)) (X:P.cellsOf t=1) (v:OpensU B P L e n) (Y:Al7 P L k) :
  OpensU B P t (α:={ l:List α // l.length*k≤B }) (fun l=>[.imm (l.1.flatMap e) l.1.length n false false]) 1:=by
 refine⟨X,by omega,fun _=>rfl,fun enc W fuel cs d ps h hb=>?_⟩
 rcases DataW.trod_slice V h with⟨rfl,_⟩ | ⟨a,len,cap,SF,I6,m,_,rfl,z,hb0,hlc,hcm,f,A,_⟩
 ·refine⟨rfl,⟨[],by simp⟩,?_⟩
  simp[RepCs,RepC]
 ·obtain rfl:d=.slice (SF.map (·.1)) (I6.map (·.1)):=(Prod.mk.inj z).1
  simp only[Rows.uptoBulk] at hb
  rw[v.size] at A
  have each:∀ i:Nat,i<len→∃ x:α,∃ cs,W.cells? 0 (a.add (i*n)) n=some cs∧RepCs (fun k=>k<W.heap.size) W (e x) (fun j=>cs[j]?) 0:=by
   intro i hi
   have c:=A i hi
   have G:i<SF.length:=by omega
   rw[List.getElem?_eq_getElem G] at c
   cases b:W.cells? 0 (a.add (i*n)) n with
   | none=>rw[b] at c;simp at c
   | some cs =>
    rw[b] at c
    have hbi:=Abp (l:=SF.map (·.1)) (i:=i) (x:=SF[i].1) (by rw[List.getElem?_map,List.getElem?_eq_getElem G];rfl)
    obtain⟨_,x,z⟩:=v.read enc W m cs SF[i].1 SF[i].2 c (by omega)
    exact⟨x,cs,rfl,z⟩
  have M:len*k≤B:=by
   have:=Ahh (k:=k) (l:=SF.map (·.1)) (fun x z=>by
    obtain⟨y,q,rfl⟩:=List.mem_map.1 z
    obtain⟨i,hi,rfl⟩:=List.getElem_of_mem q
    have c:=A i (by omega)
    rw[List.getElem?_eq_getElem hi] at c
    cases b:W.cells? 0 (a.add (i*n)) n with
    | none=>rw[b] at c;simp at c
    | some cs=>rw[b] at c;exact Y enc W m cs SF[i].1 SF[i].2 c)
   rw[List.length_map,f] at this
   omega
  refine⟨rfl,?_⟩
  have build:∀ m,m≤len→∃ l:List α,l.length=m∧∀ i x,l[i]?=some x→∃ cs,W.cells? 0 (a.add (i*n)) n=some cs∧RepCs (fun k=>k<W.heap.size) W (e x) (fun j=>cs[j]?) 0:=by
   intro m
   induction m with
   | zero=>intro _;exact⟨[],rfl,by simp⟩
   | succ m ih =>
    intro hm
    obtain⟨l,I,C⟩:=ih (by omega)
    obtain⟨x,cs,O,S⟩:=each m (by omega)
    refine⟨l++[x],by simp[I],fun i y q=>?_⟩
    rw[List.getElem?_append] at q
    split at q
    ·exact C i y q
    ·have:i=m:=by
      have:=(List.getElem?_eq_some_iff.1 q).1
      simp at this;omega
     subst this
     simp[I] at q;subst q
     exact⟨cs,O,S⟩
  obtain⟨l,I,C⟩:=build len (Nat.le_refl _)
  refine⟨⟨l,by rw[I];exact M⟩,?_⟩
  simp only[RepCs,RepC,and_true]
  refine⟨_,rfl,?_,some a,cap,by rw[I],by omega,by simp,?_⟩
  ·exact X_ v.len l
  ·by_cases h0:l.length=0
   ·exact .inl h0
   ·right
    refine⟨a,rfl,?_,?_⟩
    ·obtain⟨x,cs,z,_⟩:=each 0 (by omega)
     have:=World.cells?_block z v.pos
     rwa [Sz] at this
    ·rw[Bz]
     intro j x F
     rw[XZ v.pos v.len] at F
     cases hq:l[j/n]? with
     | none=>rw[hq] at F;simp at F
     | some y =>
      rw[hq] at F
      simp at F
      obtain⟨cs,b,s⟩:=C (j/n) y hq
      rw[Bz] at s
      obtain⟨u,K,T⟩:=s (j%n) x F
      refine⟨u,?_,T⟩
      obtain⟨_,f,D⟩:=World.cells?_some b
      have U:j%n<n:=Nat.mod_lt _ v.pos
      have:=D (j%n) U
      rw[Addr.add_add,show j/n*n+j%n=j by rw[Nat.mul_comm];exact Nat.div_add_mod j n] at this
      simp only[Nat.zero_add] at K ⊢
      rw[this];exact K
theorem OpensU.map {B:Nat} {P:Program} {t:TypeId} {α β:Type} {e:α→LA} {n:Nat} (h:OpensU B P t e n) (c:β→LA) (g:α→β) (f:∀ a,e a=c (g a)) (i:∀ b,(c b).length=n):OpensU B P t c n:=by
 refine⟨h.size,h.pos,i,fun enc W fuel cs d ps j k=>?_⟩
 obtain⟨l,a,m⟩:=h.read enc W fuel cs d ps j k
 exact⟨l,g a,by rw[←f];exact m⟩
structure OpensUF (B:Nat) (P:Program) (fs:List Field) (off:Nat) {α:Type} (e:α→List AV) (n:Nat):Prop where
 len:∀ a,(e a).length=n
 read:∀ {H:Type} (enc:TypeId×Value→H) (W:World) (fuel:Nat) (cs:List Value),(∀ (i:Nat) (f:Field),fs[i]?=some f→∃ d ps,DataW.trod enc P W 0 (fun _=>true) true fuel f.type ((cs.drop f.offset).take (P.cellsOf f.type))=some (d,ps)∧Rows.uptoBulk d≤B) →
  ∃ a,RepCs (fun k=>k<W.heap.size) W (e a) (fun j=>cs[j]?) off
theorem Hv {B:Nat} {P:Program} {off:Nat}:OpensUF B P [] off (α:=Unit) (fun _=>[]) 0:=⟨fun _=>rfl,fun _ _ _ _ _=>⟨(),by simp[RepCs]⟩⟩
theorem Ag {B:Nat} {P:Program} {f:Field} {fs:List Field} {off:Nat} {α β:Type} {e:α→LA} {n:Nat} {t:β→LA} {m:Nat} (z:f.offset=off) (c:OpensU B P f.type e n) (v:OpensUF B P fs (off+n) t m) :
  OpensUF B P (f::fs) off (α:=α×β) (fun p=>e p.1++t p.2) (n+m):=by
 refine⟨fun p=>by rw[List.length_append,c.len,v.len],fun enc W fuel cs h=>?_⟩
 obtain⟨d,ps,A,q⟩:=h 0 f rfl
 obtain⟨D,a,y⟩:=c.read enc W fuel _ _ _ A q
 obtain⟨b,q⟩:=v.read enc W fuel cs fun i g C=>h (i+1) g (by simpa using C)
 refine⟨(a,b),?_⟩
 rw[Bz] at y q ⊢
 intro j x s
 by_cases l:j<n
 ·rw[List.getElem?_append_left (by rw[c.len];exact l)] at s
  obtain⟨u,k,hr⟩:=y j x s
  refine⟨u,?_,hr⟩
  simp only[Nat.zero_add] at k
  rw[c.size,List.getElem?_take_of_lt l,List.getElem?_drop,z] at k
  exact k
 ·rw[List.getElem?_append_right (by rw[c.len];omega),c.len] at s
  obtain⟨u,k,hr⟩:=q (j - n) x s
  refine⟨u,?_,hr⟩
  rw[show off+n+(j - n)=off+j by omega] at k
  exact k
theorem Ex {B:Nat} {P:Program} {t:TypeId} {fs:Array Field} {α:Type} {e:α→LA} {n:Nat} (m:P.underlying t=some (.struct fs)) (j:P.cellsOf t=n) (hn:0<n) (h:OpensUF B P fs.toList 0 e n):OpensU B P t e n:=by
 refine⟨j,hn,h.len,fun enc W fuel cs d ps q s=>?_⟩
 obtain⟨xs,g,_,u,v,b,y⟩:=DataW.trod_struct m q
 obtain rfl:d=.agg (xs.map (·.1)):=(Prod.mk.inj u).1
 simp only[Rows.uptoBulk] at s
 refine⟨by rw[v,j],?_⟩
 exact h.read enc W g cs fun i f hi=>by
  have k:fs[i]?=some f:=by simpa using hi
  have:=y i f k
  have c:i<xs.length:=by
   rw[b];exact(Array.getElem?_eq_some_iff.1 k).1
  rw[List.getElem?_eq_getElem c] at this
  have z:=Abp (l:=xs.map (·.1)) (i:=i) (x:=xs[i].1) (by rw[List.getElem?_map,List.getElem?_eq_getElem c];rfl)
  exact⟨xs[i].1,xs[i].2,this,by omega⟩
end Gx

namespace Gx
open Go Go.Proofs Go.RowKit Go.ChangeShapes
open Go.Proofs.YtjmfofdghmlldaaGreatDoor (Rows.uptoBulk Rows.uptoBulkAll)
open Cf
section
variable {B:Nat}
def A3e (B:Nat) (s:Sl Int):Prop:=∃ l:List Int,s=.of l false false∧l.length≤B
theorem Er:OpensU B Tryz.prog 3 (α:=Int) (fun n=>[.int .i64 n]) 1 :=
 (DG Tryz.underlying3 (by kernel_rfl)).u.map _ (fun n=>n.1) (fun _=>rfl) (fun _=>rfl)
theorem Ahi:OpensU B Tryz.prog 9 (α:=List UInt8) (fun s=>[.str s]) 1 :=
 (Aik Tryz.underlying9 (by kernel_rfl)).u.map _ (fun n=>n.1) (fun _=>rfl) (fun _=>rfl)
theorem A4n:OpensU B Tryz.prog 4 (α:=Bool) (fun b=>[.bool b]) 1:=(Asz Tryz.underlying4 (by kernel_rfl)).u
theorem jz:OpensU B Tryz.prog 33 (α:={ s:Sl Int // A3e B s }) (fun s=>[s.1.av 1 JV]) 1 :=
 (Vd (k:=1) Tryz.underlying33 (by kernel_rfl) Er JM).map _ (fun l=>⟨.of l.1 false false,l.1,rfl,by have:=l.2;omega⟩) (fun _=>rfl) (fun _=>rfl)
theorem Al8:OpensU B Tryz.prog 125 (α:=FracD) (fun f=>[.int .i64 f.num,.int .i64 f.den]) 2 :=
 (Ex Tryz.underlying125 (by kernel_rfl) (by decide) (Ag rfl Er (Ag rfl Er Hv))).map _ (fun p=>⟨p.1,p.2.1⟩) (fun _=>rfl) (fun _=>rfl)
theorem A5o:OpensU B Tryz.prog 139 (α:={ s:Sl SegD // ∃ l,s=.of l false false∧l.length≤B }) (fun s=>[s.1.av 2 SegD.av]) 1 :=
 (Vd (k:=1) Tryz.underlying139 (by kernel_rfl) ((Ex Tryz.underlying209 (by kernel_rfl) (by decide) (Ag rfl Er (Ag rfl Er Hv))).map SegD.av (fun p=>⟨p.1,p.2.1⟩) (fun _=>rfl) (fun _=>rfl)) JM).map _ (fun l=>⟨.of l.1 false false,l.1,rfl,by have:=l.2;omega⟩) (fun _=>rfl) (fun _=>rfl)
theorem A3f:OpensU B Tryz.prog 147 (α:={ s:Sl MoveD // ∃ l,s=.of l false false∧l.length≤B }) (fun s=>[s.1.av 3 MoveD.av]) 1 :=
 (Vd (k:=1) Tryz.underlying147 (by kernel_rfl) ((Ex Tryz.underlying211 (by kernel_rfl) (by decide) (Ag rfl Er (Ag rfl Er (Ag rfl Er Hv)))).map MoveD.av (fun p=>⟨p.1,p.2.1,p.2.2.1⟩) (fun _=>rfl) (fun _=>rfl)) JM).map _ (fun l=>⟨.of l.1 false false,l.1,rfl,by have:=l.2;omega⟩) (fun _=>rfl) (fun _=>rfl)
def A3v (B:Nat) (b:BusD):Prop:=A3e B b.demand
theorem A5p:OpensU B Tryz.prog 135 (α:={ b:BusD // A3v B b }) (fun b=>b.1.av) 3 :=
 (Ex Tryz.underlying135 (by kernel_rfl) (by decide) (Ag rfl Ahi (Ag rfl jz (Ag rfl Er Hv)))).map _ (fun p=>⟨⟨p.1,p.2.1.1,p.2.2.1⟩,p.2.1.2⟩) (fun _=>rfl) (fun _=>rfl)
def A2h (B:Nat) (b:LineD):Prop:=A3e B b.away
theorem A4o:OpensU B Tryz.prog 137 (α:={ b:LineD // A2h B b }) (fun b=>b.1.av) 12 :=
 (Ex Tryz.underlying137 (by kernel_rfl) (by decide) (Ag rfl Ahi (Ag rfl Er (Ag rfl Er (Ag rfl Al8 (Ag rfl Al8 (Ag rfl Al8 (Ag rfl Er (Ag rfl Er (Ag rfl jz Hv)))))))))).map _
  (fun p=>⟨⟨p.1,p.2.1,p.2.2.1,p.2.2.2.1,p.2.2.2.2.1,p.2.2.2.2.2.1,p.2.2.2.2.2.2.1,p.2.2.2.2.2.2.2.1,p.2.2.2.2.2.2.2.2.1.1⟩,p.2.2.2.2.2.2.2.2.1.2⟩) (fun _=>rfl) (fun _=>rfl)
structure OkUnit (B:Nat) (b:UnitD):Prop where
 segs:∃ l,b.segs=.of l false false∧l.length≤B
 away:A3e B b.away
theorem A4p:OpensU B Tryz.prog 141 (α:={ b:UnitD // OkUnit B b }) (fun b=>b.1.av) 22 :=
 (Ex Tryz.underlying141 (by kernel_rfl) (by decide) (Ag rfl Ahi (Ag rfl Er (Ag rfl Er (Ag rfl Er (Ag rfl A5o (Ag rfl Er (Ag rfl Er (Ag rfl Er (Ag rfl Er (Ag rfl Er (Ag rfl Er
  (Ag rfl Er (Ag rfl Er (Ag rfl Er (Ag rfl Er (Ag rfl Er (Ag rfl Er (Ag rfl Er (Ag rfl jz (Ag rfl Er (Ag rfl Er (Ag rfl Er Hv))))))))))))))))))))))).map _
  (fun ⟨a,b,c,d,s,f,g,h,i,j,k,l,m,n,o,p,q,r,w,x,y,z,_⟩=>⟨⟨a,b,c,d,s.1,f,g,h,i,j,k,l,m,n,o,p,q,r,w.1,x,y,z⟩,s.2,w.2⟩) (fun _=>rfl) (fun _=>rfl)
theorem A5u:OpensU B Tryz.prog 144 (α:=StoreD) StoreD.av 9 :=
 (Ex Tryz.underlying144 (by kernel_rfl) (by decide) (Ag rfl Ahi (Ag rfl Er (Ag rfl Er (Ag rfl Er (Ag rfl Er (Ag rfl Er (Ag rfl Er (Ag rfl Al8 Hv))))))))).map _
  (fun ⟨a,b,c,d,e,f,g,h,_⟩=>⟨a,b,c,d,e,f,g,h⟩) (fun _=>rfl) (fun _=>rfl)
structure OkTie (B:Nat) (b:TieD):Prop where
 imp:A3e B b.imp
 exp:A3e B b.exp
 price:A3e B b.price
theorem A5q:OpensU B Tryz.prog 146 (α:={ b:TieD // OkTie B b }) (fun b=>b.1.av) 5 :=
 (Ex Tryz.underlying146 (by kernel_rfl) (by decide) (Ag rfl Ahi (Ag rfl Er (Ag rfl jz (Ag rfl jz (Ag rfl jz Hv)))))).map _
  (fun ⟨a,b,c,d,e,_⟩=>⟨⟨a,b,c.1,d.1,e.1⟩,c.2,d.2,e.2⟩) (fun _=>rfl) (fun _=>rfl)
structure OkOut (B:Nat) (b:OutD):Prop where
 lines:A3e B b.lines
 moves:∃ l,b.moves=.of l false false∧l.length≤B
theorem A5r:OpensU B Tryz.prog 149 (α:={ b:OutD // OkOut B b }) (fun b=>b.1.av) 4 :=
 (Ex Tryz.underlying149 (by kernel_rfl) (by decide) (Ag rfl Ahi (Ag rfl jz (Ag rfl A4n (Ag rfl A3f Hv))))).map _
  (fun ⟨a,b,c,d,_⟩=>⟨⟨a,b.1,c,d.1⟩,b.2,d.2⟩) (fun _=>rfl) (fun _=>rfl)
structure OkL {α:Type} (B:Nat) (ok:α→Prop) (l:List α):Prop where
 len:l.length*2≤B
 each:∀ x ∈ l,ok x
theorem qk {t c:TypeId} {α:Type} {ok:α→Prop} {e:α→LA} {n:Nat} {fs:Array Field} (d:Tryz.prog.underlying t=some (.slice c)) (f:Tryz.prog.cellsOf t=1) (i:Tryz.prog.underlying c=some (.struct fs)) (j:1≤fs.size)
  (h:OpensU B Tryz.prog c (α:={ b:α // ok b }) (fun b=>e b.1) n):OpensU B Tryz.prog t (α:={ l:List α // OkL B ok l }) (fun l=>[.imm (l.1.flatMap e) l.1.length n false false]) 1 :=
 (Vd d f h (Abq i j)).map _ (fun l=>⟨l.1.map (·.1),by rw[List.length_map];exact l.2,fun x k=>by obtain⟨y,_,rfl⟩:=List.mem_map.1 k;exact y.2⟩)
  (fun l=>by show [AV.imm (l.1.flatMap fun b=>e b.1) l.1.length n false false]=[AV.imm ((l.1.map (·.1)).flatMap e) (l.1.map (·.1)).length n false false];rw[List.flatMap_map,List.length_map]) (fun _=>rfl)
structure OkCase (B:Nat) (res:List Int) (bs:List BusD) (ls:List LineD) (us:List UnitD) (ss:List StoreD) (ts:List TieD) (os:List OutD):Prop where
 res:res.length≤B
 bus:OkL B (A3v B) bs
 line:OkL B (A2h B) ls
 unit:OkL B (OkUnit B) us
 store:OkL B (fun _:StoreD=>True) ss
 tie:OkL B (OkTie B) ts
 out:OkL B (OkOut B) os
def A2i (H:Int) (res:List Int) (bs:List BusD) (ls:List LineD) (us:List UnitD) (ss:List StoreD) (ts:List TieD) (os:List OutD):CaseD:=⟨H,.of res false false,.of bs false false,.of ls false false,.of us false false,.of ss false false,.of ts false false,.of os false false⟩
theorem A4q:OpensU B Tryz.prog 70 (α:={ c:CaseD // ∃ H d bs ls us ss ts os,c=A2i H d bs ls us ss ts os∧OkCase B d bs ls us ss ts os }) (fun c=>c.1.av) 8 :=
 (Ex Tryz.underlying70 (by kernel_rfl) (by decide) (Ag rfl Er (Ag rfl (Vd (k:=1) Tryz.underlying33 (by kernel_rfl) Er JM) (Ag rfl (qk Tryz.underlying63 (by kernel_rfl) Tryz.underlying135 (by decide) A5p)
  (Ag rfl (qk Tryz.underlying64 (by kernel_rfl) Tryz.underlying137 (by decide) A4o) (Ag rfl (qk Tryz.underlying65 (by kernel_rfl) Tryz.underlying141 (by decide) A4p) (Ag rfl (qk (ok:=fun _=>True) Tryz.underlying66 (by kernel_rfl) Tryz.underlying144 (by decide) (A5u.map _ (fun s=>⟨s,trivial⟩) (fun _=>rfl) (fun _=>rfl)))
   (Ag rfl (qk Tryz.underlying67 (by kernel_rfl) Tryz.underlying146 (by decide) A5q) (Ag rfl (qk Tryz.underlying68 (by kernel_rfl) Tryz.underlying149 (by decide) A5r) Hv))))))))).map _
  (fun ⟨h,r,b,l,u,s,t,o,_⟩=>⟨A2i h r.1 b.1 l.1 u.1 s.1 t.1 o.1,h,r.1,b.1,l.1,u.1,s.1,t.1,o.1,rfl,by have:=r.2;omega,b.2,l.2,u.2,s.2,t.2,o.2⟩) (fun _=>rfl) (fun _=>rfl)
theorem A2j {N:Nat} {h:Int} {f:List Int} {bs:List BusD} {ls:List LineD} {us:List UnitD} {ss:List StoreD} {ts:List TieD} {os:List OutD} (hN:1048576<N) (k:OkCase 1048576 f bs ls us ss ts os):Small (A2i h f bs ls us ss ts os) N:=by
 have fit:∀ n:Nat,n≤1048576→Es n N:=fun n hn=>⟨by omega,by omega⟩
 have oi:∀ s:Sl Int,A3e 1048576 s→Es s.l.length N:=fun s hs=>by obtain⟨l,rfl,d⟩:=hs;exact fit _ d
 have b:=k.bus.len;have l:=k.line.len;have u:=k.unit.len;have s:=k.store.len;have t:=k.tie.len;have o:=k.out.len
 refine⟨by omega,fit _ k.res,fit _ (by show bs.length≤_;omega),fit _ (by show ls.length≤_;omega),fit _ (by show us.length≤_;omega),fit _ (by show ss.length≤_;omega),fit _ (by show ts.length≤_;omega),fit _ (by show os.length≤_;omega),
  fun x c=>oi _ (k.bus.each x c),fun x c=>oi _ (k.line.each x c),fun x c=>?_,fun x c=>oi _ (k.unit.each x c).away,fun x c=>oi _ (k.tie.each x c).imp,fun x c=>oi _ (k.tie.each x c).exp,fun x c=>oi _ (k.tie.each x c).price,
  fun x c=>oi _ (k.out.each x c).lines,fun x c=>?_,fun x c=>?_,?_⟩
 ·obtain⟨l,e,d⟩:=(k.unit.each x c).segs;rw[e];exact fit _ d
 ·obtain⟨l,e,d⟩:=(k.out.each x c).moves;rw[e];exact fit _ d
 ·obtain⟨l,e,d⟩:=(k.out.each x c).moves;rw[e];exact Nat.lt_of_le_of_lt d (by decide)
 ·show bs.length≤1000000∧ls.length≤1000000∧us.length≤1000000∧ss.length≤1000000∧ts.length≤1000000∧os.length≤1000000
  omega
end
section
variable {W:World} {H:Type} {enc:TypeId×Value→H} {β:Cj} {h:Aj}
theorem Azy {v:Value} {d:DataW H} {p:List MemPlace} (e:∃ cs,v=.agg cs) (f:DataW.Trod enc Tryz.prog W 0 (fun _=>true) true 70 v d p) (i:Rows.uptoBulk d≤1048576) :
  ∃ (H:Int) (b:List Int) (bs:List BusD) (ls:List LineD) (us:List UnitD) (ss:List StoreD) (ts:List TieD) (os:List OutD),OkCase 1048576 b bs ls us ss ts os∧Rep (fun _ k=>k<W.heap.size) β h W (.agg (A2i H b bs ls us ss ts os).av) v:=by
 obtain⟨cs,rfl⟩:=e
 obtain⟨fuel,j⟩:=f
 obtain⟨l,⟨c,H,b,bs,ls,us,ss,ts,os,rfl,k⟩,hr⟩:=(A4q (B:=1048576)).read enc W fuel _ _ _ j i
 refine⟨H,b,bs,ls,us,ss,ts,os,k,Awn ?_⟩
 rw[Rep]
 exact⟨cs.toList,rfl,l,hr⟩
theorem Av2 {v:Value} {d:DataW H} {p:List MemPlace} (f:∃ cs,v=.agg cs) (i:DataW.Trod enc Tryz.prog W 0 (fun _=>true) true 78 v d p) :
  ∃ a b c e:Int,Rep (fun _ k=>k<W.heap.size) β h W (.agg [.int .i64 a,.int .i64 b,.int .i64 c,.int .i64 e]) v:=by
 obtain⟨cs,rfl⟩:=f
 obtain⟨⟨⟨a,j⟩,⟨b,l⟩,⟨c,m⟩,⟨e,n⟩,_⟩,hr⟩:=A0x (β:=β) (h:=h) (Ail Tryz.underlying78 (by kernel_rfl) (by decide) (GM rfl (DG Tryz.underlying3 (by kernel_rfl)) (GM rfl (DG Tryz.underlying3 (by kernel_rfl)) (GM rfl (DG Tryz.underlying3 (by kernel_rfl)) (GM rfl (DG Tryz.underlying3 (by kernel_rfl)) As2))))) i
 exact⟨a,b,c,e,Awn hr⟩
end
end Gx

namespace Gx.Cf
open Go Go.Proofs
section
variable {R:Type}
theorem Ar1 {c:CaseD}:(Bp (Dz c)==0)=(Dz c).isNone:=by
 cases h:Dz c with
 | none=>rfl
 | some x=>show(x.2.1==0)=false;rw[beq_eq_false_iff_ne];exact x.2.2
theorem jL {N:Nat} {c:CaseD} {o o':Bool} {k a b v:Int} {K:Bool→O R} (hs:Small c N):Rw N c.av o (Alc k a b v) o' K=K ((Dz c).isNone&&Aek c k a b v):=by
 have d:((!o')||A0 (List.take 4 (Alc k a b v)))=true:=by cases o'<;>rfl
 rw[oc];unfold qd
 rw[F1,ct,Co,i8 hs,show(((Bp (Dz c)) != 0))=!(Dz c).isNone by rw[←Ar1];rfl]
 cases h:Dz c with
 | some x=>rfl
 | none =>
  rw[d]
  exact jF hs (ud h)
theorem dF {N:Nat} {c:CaseD} {o o':Bool} {k a b v:Int} {K:Bool→O R} (hs:Small c N) (hN:4096≤N):Nt N c.av o (Alc k a b v) o' K=K ((Dz c).isNone&&Aek c k a b v):=by
 have d:((!o')||A0 (List.take 4 (Alc k a b v)))=true:=by cases o'<;>rfl
 rw[jD];unfold jv
 rw[F1,ct,Co,aN hs hN,Ar1]
 cases h:Dz c with
 | some x=>rfl
 | none =>
  rw[d]
  refine(Arv hs (ud h)).trans ?_
  cases Aek c k a b v<;>rfl
theorem A3g {u:UnitD} {r:LA} {F:LA→Nat→O R}:Bw 1 (List.drop 18 (u.av++r)) F=F (u.away.l.flatMap JV) u.away.l.length:=by
 unfold UnitD.av;exact D6
theorem A3h {u:UnitD} {r:LA} {F:LA→Nat→O R}:Bw 2 (List.drop 4 (u.av++r)) F=F (u.segs.l.flatMap SegD.av) u.segs.l.length:=by
 unfold UnitD.av;exact D6
theorem Azz {N:Nat} {c:CaseD} {o:Bool} (hs:Small c N):∃ t:Bool,∀ K:Bool→O R,SD N c.av o K=K t:=by
 have go:∀ (m j fuel:Nat),j+m=c.units.l.length→m<fuel→∃ t:Bool,∀ K:Bool→O R,Pz N K o c.av fuel (j:Int)=K t:=by
  intro m
  induction m with
  | zero =>
   intro j fuel k n
   obtain⟨f,rfl⟩:∃ f,fuel=f+1:=⟨fuel - 1,by omega⟩
   refine⟨true,fun K=>?_⟩
   rw[Pz];unfold JK
   rw[Ft,Iu (by omega),cf]
  | succ m q =>
   intro j fuel k n
   obtain⟨f,rfl⟩:∃ f,fuel=f+1:=⟨fuel - 1,by omega⟩
   have h:j<c.units.l.length:=by omega
   have s:=hs.uni
   obtain⟨t,b⟩:=q (j+1) f (by omega) (by omega)
   have step:∀ K:Bool→O R,Pz N K o c.av (f+1) (j:Int)=cond ((decide (((c.units.l[j].away.l.length:Nat):Int)>30))==false) (cond (cond false true (decide (((c.units.l[j].segs.l.length:Nat):Int)>20))) (K false) (K t)) (K false):=fun K=>by
    rw[Pz];unfold JK
    rw[Ft,Hh h,ct,Ft,Ab h,ct,Int.toNat_natCast,Ay Dg _ _ h,A3g]
    rw[Ft,Ab h,ct,Ay Dg _ _ h,A3h,Bo (by have:=s.2;omega),b]
   by_cases d:((c.units.l[j].away.l.length:Nat):Int)>30
   ·exact⟨false,fun K=>by rw[step,decide_eq_true d];rfl⟩
   ·by_cases i:((c.units.l[j].segs.l.length:Nat):Int)>20
    ·exact⟨false,fun K=>by rw[step,decide_eq_false d,decide_eq_true i];rfl⟩
    ·exact⟨t,fun K=>by rw[step,decide_eq_false d,decide_eq_false i];rfl⟩
 obtain⟨t,b⟩:=go c.units.l.length 0 N (by omega) hs.uni.1
 have e:∀ K:Bool→O R,SD N c.av o K=cond (decide (((c.buses.l.length:Nat):Int)>5)==false) (cond (decide (((c.lines.l.length:Nat):Int)>6)==false) (cond (decide (((c.units.l.length:Nat):Int)>4)==false) (cond (decide (((c.stores.l.length:Nat):Int)>4)==false) (cond (decide (((c.ties.l.length:Nat):Int)>4)==false) (cond (decide (((c.outs.l.length:Nat):Int)>4)==false) (cond (decide (c.hours>3)) (K false) (K t)) (K false)) (K false)) (K false)) (K false)) (K false)) (K false):=fun K=>by
  rw[u4];unfold oa
  rw[Ii,Gf,Ft,Wj,QO,Xy,K6]
  unfold SC cZ
  dsimp only
  rw[show Pz N K o c.av N 0=K t from b K]
  rfl
 refine⟨cond (decide (((c.buses.l.length:Nat):Int)>5)==false) (cond (decide (((c.lines.l.length:Nat):Int)>6)==false) (cond (decide (((c.units.l.length:Nat):Int)>4)==false) (cond (decide (((c.stores.l.length:Nat):Int)>4)==false) (cond (decide (((c.ties.l.length:Nat):Int)>4)==false) (cond (decide (((c.outs.l.length:Nat):Int)>4)==false) (cond (decide (c.hours>3)) false t) false) false) false) false) false) false,fun K=>?_⟩
 rw[e]
 generalize decide (((c.buses.l.length:Nat):Int)>5)=x1
 generalize decide (((c.lines.l.length:Nat):Int)>6)=x2
 generalize decide (((c.units.l.length:Nat):Int)>4)=x3
 generalize decide (((c.stores.l.length:Nat):Int)>4)=x4
 generalize decide (((c.ties.l.length:Nat):Int)>4)=x5
 generalize decide (((c.outs.l.length:Nat):Int)>4)=x6
 generalize decide (c.hours>3)=x7
 cases x1<;>cases x2<;>cases x3<;>cases x4<;>cases x5<;>cases x6<;>cases x7<;>rfl
theorem Xc {b:Bool} {A B Y:O R} (c:A=Y) (d:B=Y):cond b A B=Y:=by cases b<;>assumption
theorem SE {N:Nat} {c:CaseD} {k a b v:Int} {K:Bool→O R} (hs:Small c N) (d:fit 1200000 N):Fn N (fun bf=>(cond (bf==true) (cond (Nat.ble 8 (c.av.length)) (Rw N (c.av.take 8) false (Alc k a b v) false (fun bg=>(cond (Nat.ble 8 (c.av.length)) (Nt N (c.av.take 8) false (Alc k a b v) false (fun bh=>(K (cond true (bg==bh) false)))) none))) none) (K false)))=K true:=by
 have hN:=d.1
 rw[vz d,show(true==true)=true from rfl,ct,F1,ct,Co,jL hs,ct,dF hs (by omega)]
 simp
theorem Av3 {N:Nat} {H:Int} {d:List Int} {bs:List BusD} {ls:List LineD} {us:List UnitD} {ss:List StoreD} {ts:List TieD} {os:List OutD} {l:List Int} {x1 x2 x3 x4 x5 x6 x7:Bool} {k a b v:Int} {near t o:Bool}
  (hs:Small ⟨H,.of d false false,.of bs false false,.of ls false false,.of us false false,.of ss false false,.of ts false false,.of os false false⟩ N) (e:fit 1200000 N) (f:l.length≤9223372036854775807) {K:Bool→O R} :
  J6 N H (d.flatMap JV) d.length x1 false (bs.flatMap BusD.av) bs.length x2 false (ls.flatMap LineD.av) ls.length x3 false (us.flatMap UnitD.av) us.length x4 false (ss.flatMap StoreD.av) ss.length x5 false (ts.flatMap TieD.av) ts.length x6 false (os.flatMap OutD.av) os.length x7 false (Aq l) l.length t o k a b v near K=K true:=by
 have hN:=e.1
 obtain⟨tt,i⟩:=Azz (R:=R) (o:=false) hs
 rw[Vv];unfold M0
 refine(i _).trans ?_
 refine Xc (Xc rfl ?_) rfl
 unfold J5 N0
 refine Xc ?_ ?_
 ·obtain⟨c,g,j⟩:=mq (R:=R) (N:=N) (l:=l) (n:=l.length) (t:=false) (o:=o) rfl (by omega) f
  have hs:=Ahf (N:=N) (by omega) g
  obtain⟨m,_,_,s⟩:=OW (R:=R) (N:=N) (v:=k) (n:=10) (by omega) (by omega)
  obtain⟨C,_,_,u⟩:=OW (R:=R) (N:=N) (v:=a) (n:=5) (by omega) (by omega)
  obtain⟨D,_,_,z⟩:=OW (R:=R) (N:=N) (v:=b) (n:=5) (by omega) (by omega)
  obtain⟨F,_,_,A⟩:=OW (R:=R) (N:=N) (v:=v) (n:=3) (by omega) (by omega)
  rw[j,show((Nat.beq 0 0)&&((Nat.beq (List.length c.av) 8)&&(Nat.beq 8 8)))=true from rfl,ct,s,u,z]
  have q:∀ x y:Int,J4 N K c.av m v x y=K true:=fun x y=>by
   unfold J4
   rw[A]
   exact Xc (Xc (Xc (SE hs e) (SE hs e)) (SE hs e)) (SE hs e)
  exact Xc (q _ _) (q _ _)
 ·rw[vz e,show(true==true)=true from rfl,ct]
  refine(jL hs).trans ?_
  refine(dF hs (by omega)).trans ?_
  simp
end
end Gx.Cf
