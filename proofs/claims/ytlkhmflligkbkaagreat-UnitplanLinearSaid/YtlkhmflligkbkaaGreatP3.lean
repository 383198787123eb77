/- A part of the proof: what it holds is said by each theorem. -/
import Derived.Test.YtlkhmflligkbkaaGreatP2
set_option linter.unusedVariables false
set_option linter.defProp false
set_option linter.unusedSimpArgs false
namespace Gx
open Go Go.Proofs
section
variable {R:Type}
theorem Aiv (z:Int) (d:Nat) (D:d≠0):(mkRat z d).num.natAbs=z.natAbs/Nat.gcd z.natAbs d∧((mkRat z d).num<0↔z<0)∧(mkRat z d).den=d/Nat.gcd z.natAbs d:=by
 have G:0<Nat.gcd z.natAbs d:=Nat.gcd_pos_of_pos_right _ (by omega)
 rw[Rat.num_mkRat,Rat.den_mkRat,if_neg D,if_neg D,Nat.gcd_comm d]
 have k:((Nat.gcd z.natAbs d:Nat):Int)∣z:=Int.dvd_natAbs.1 (Int.natCast_dvd_natCast.2 (Nat.gcd_dvd_left _ _))
 obtain⟨c,F⟩:=k
 have I:z.natAbs.gcd d=Nat.gcd z.natAbs d:=rfl
 generalize Nat.gcd z.natAbs d=g at *
 refine⟨?_,?_,rfl⟩
 ·rw[F,Int.mul_ediv_cancel_left _ (by omega),Int.natAbs_mul,Int.natAbs_natCast,Nat.mul_div_cancel_left _ G]
 ·rw[F,Int.mul_ediv_cancel_left _ (by omega)]
  constructor
  ·intro h;exact Int.mul_neg_of_pos_of_neg (by omega) h
  ·intro h;rcases Int.lt_or_le c 0 with C | C
   ·exact C
   ·have:=Int.mul_nonneg (show(0:Int)≤g by omega) C;omega
structure RatD where
 neg:Bool
 ns:LS
 ds:LS
def RatD.av (x:RatD):LA:=[.bool x.neg,x.ns.av,x.ds.av]
def RatD.ok (x:RatD):Prop:=Al x.ns.l∧Al x.ds.l
def RatD.m (x:RatD):Nat:=max x.ns.l.length x.ds.l.length
def RatD.q (x:RatD):Rat:=mkRat (A2 x.neg x.ns) (val x.ds.l)
def RatD.can (x:RatD) (q:Rat):Prop:=x.neg=decide (q.num<0)∧x.ns.l=As q.num.natAbs∧x.ds.l=As q.den
def qm (q:Rat):Nat:=max (As q.num.natAbs).length (As q.den).length
theorem RatD.can.ok {x:RatD} {q:Rat} (h:x.can q):x.ok:=⟨by rw[h.2.1];exact Ad _,by rw[h.2.2];exact Ad _⟩
theorem RatD.can.m {x:RatD} {q:Rat} (h:x.can q):x.m=qm q:=by unfold RatD.m qm;rw[h.2.1,h.2.2]
theorem RatD.can.q {x:RatD} {q:Rat} (h:x.can q):x.q=q:=by
 unfold RatD.q A2
 rw[h.1,h.2.1,h.2.2,Ak,Ak]
 have:(if decide (q.num<0)=true then -(q.num.natAbs:Int) else (q.num.natAbs:Int))=q.num:=by
  by_cases k:q.num<0
  ·rw[if_pos (by simpa using k)];omega
  ·rw[if_neg (by simpa using k)];omega
 rw[this,Rat.mkRat_self]
theorem Be6 {x:RatD} {f:Bool→O R}:ON x.av f=f x.neg:=Beg
theorem Bba {x:RatD} {f:LA→Nat→O R}:Co 1 (List.drop 1 x.av) f=f (Ae x.ns.l) x.ns.l.length:=by rw[RatD.av,List.drop_succ_cons,List.drop_zero,Aiu]
theorem Aiw {x:RatD} {f:LA→Nat→O R}:Co 1 (List.drop 2 x.av) f=f (Ae x.ds.l) x.ds.l.length:=by rw[RatD.av,List.drop_succ_cons,List.drop_succ_cons,List.drop_zero,Aiu]
theorem K4 (x:RatD):Nat.ble 3 (List.length x.av)=true:=rfl
theorem Ey (x:RatD):List.take 3 x.av=x.av:=rfl
theorem Beh (x:RatD):List.take 2 x.av=Lg x.neg x.ns:=rfl
theorem Bgh (x:RatD):Nat.beq (List.length x.av) 3=true:=rfl
theorem lK (n:Bool) (s:LS):((Nat.beq 0 0)&&((Nat.beq (List.length (Lg n s)) 2)&&(Nat.beq 2 2)))=true:=rfl
theorem n6 (n:Bool) (s:LS):Nat.ble 2 (List.length (Lg n s))=true:=rfl
theorem Ane (n:Bool) (s:LS):List.take 2 (Lg n s)=Lg n s:=rfl
theorem Bbb:([.int .u32 1]:LA)=Ae [1]:=rfl
theorem A88:Al [1]:=by intro x k;simp at k;omega
theorem DK:As 1=[1]:=by rw[TT (by omega)];simp[Eu]
theorem Fa {v:Nat} {S:List Nat} (k:Al S) (C:val S=v):List.take ((As v).length*1) (Ae S)=Ae (As v):=by rw[←C,Np k]
theorem A89 (neg:Bool) (l:List Nat) (t o:Bool):([.bool neg,.imm (Ae l) l.length 1 t o]:LA)=Lg neg (.of l t o):=rfl
theorem Kj {z:Int} {t o:Bool}:A2 (decide (z<0)) (.of (As z.natAbs) t o)=z:=by
 unfold A2 LS.l;rw[Ak]
 by_cases h:z<0
 ·rw[if_pos (by simpa using h)];omega
 ·rw[if_neg (by simpa using h)];omega
theorem Anh {N:Nat} {v:Int} (k:-9223372036854775808≤v∧v≤9223372036854775807) (hN:4≤N):∃ d:RatD,d.can (v:Rat)∧∀ K:LA→O R,B6 N v K=K d.av:=by
 obtain⟨S,s1,s2,C⟩:=Anf (R:=R) (N:=N) k hN
 refine⟨⟨decide (v<0),.of (As v.natAbs) false false,.of (As 1) false false⟩,⟨rfl,rfl,rfl⟩,fun K=>?_⟩
 rw[dL];unfold dK
 rw[C,Fa s1 s2,DK];rfl
theorem O9 {N:Nat} {x:RatD} {o:Bool} (C:x.ok) (G:fit x.m N):∃ (neg:Bool) (s:LS) (l:List Nat) (o1 o2:Bool),Al s.l∧Al l∧val l≠0∧s.l.length≤x.m∧l.length≤max x.m 1∧mkRat (A2 neg s) (val l)=x.q∧∀ K:LA→Bool→LA→Nat→Bool→O R,M7 N x.av o K=K (Lg neg s) o1 (Ae l) l.length o2:=by
 have D:x.ns.l.length≤x.m:=Nat.le_max_left _ _
 have k:x.ds.l.length≤x.m:=Nat.le_max_right _ _
 by_cases F:val x.ds.l=0
 ·refine⟨false,.nil,[1],false,false,Wy,A88,by decide,by simp[LS.l],by simp;omega,?_,fun K=>?_⟩
  ·unfold RatD.q;rw[F];simp[A2,LS.l,val]
  ·rw[UB];unfold gz
   rw[Aiw,Ain rfl C.2 (G.le k),F,EI];rfl
 ·refine⟨x.neg,x.ns,x.ds.l,o,o,C.1,C.2,F,D,by omega,rfl,fun K=>?_⟩
  have:Ir (val x.ds.l) 0=1:=by unfold Ir;rw[if_neg (by omega),if_pos (by omega)]
  rw[UB];unfold gz
  rw[Aiw,Ain rfl C.2 (G.le k),this,show((1:Int)==0)=false by rfl,cf,show Nat.ble 2 (List.length x.av)=true by rfl,ct,Aiw,Beh,lK,ct,n6,ct,Ane]
theorem Bgi (z:Int) (d:Nat) (C:d≠0):(mkRat z d).num.sign=z.sign:=by
 obtain⟨F,D,_⟩:=Aiv z d C
 rcases Int.lt_trichotomy z 0 with h | h | h
 ·rw[Int.sign_eq_neg_one_of_neg h,Int.sign_eq_neg_one_of_neg (D.2 h)]
 ·subst h;simp
 ·have hn:¬ (mkRat z d).num<0:=fun k=>by have:=D.1 k;omega
  have G:(mkRat z d).num≠0:=fun k=>by
   have:mkRat z d=0:=Rat.num_eq_zero.1 k
   rw[Rat.mkRat_eq_zero C] at this;omega
  rw[Int.sign_eq_one_of_pos h,Int.sign_eq_one_of_pos (by omega)]
theorem L9 {N:Nat} {x:RatD} {o:Bool} {K:Int→O R} (C:x.ok) (k:fit x.m N):Sa N x.av o K=K x.q.num.sign:=by
 obtain⟨neg,s,l,o1,o2,p1,p2,D,F,L,G,I⟩:=O9 (R:=R) (o:=o) C k
 rw[xQ];unfold Ae8
 rw[K4,ct,Ey,I,lK,ct,n6,ct,Ane,n0 p1 (k.le F),←G,Bgi _ _ D]
theorem J7 {N:Nat} {x:RatD} {o:Bool} (C:x.ok) (D:fit x.m N):(∃ (n:Int) (d:Nat),-2147483648<n∧n<2147483648∧0<d∧d<2147483648∧mkRat n d=x.q∧∀ K:Int→Int→Bool→O R,G7 N x.av o K=K n (d:Int) true)∨(∀ K:Int→Int→Bool→O R,G7 N x.av o K=K 0 0 false):=by
 have F:x.ns.l.length≤x.m:=Nat.le_max_left _ _
 have k:x.ds.l.length≤x.m:=Nat.le_max_right _ _
 by_cases S:val x.ns.l<2147483648
 ·by_cases M:val x.ds.l<2147483648
  ·left
   have e:∀ K:Int→Int→Bool→O R,G7 N x.av o K=Gh N K (val x.ns.l:Int) (val x.ds.l:Int) o x.av false:=by
    intro K
    rw[CY];unfold EC
    rw[Bba,O7 rfl C.1 (D.le F),if_pos (by omega),Aiw,O7 rfl C.2 (D.le k),if_pos (by omega)]
    rw[show((!true)==false)=true by rfl,ct,show((cond false true (!true))==false)=true by rfl,ct,show decide (((val x.ns.l:Nat):Int)≥2147483648)=false by rw[decide_eq_false_iff_not];omega,show((cond false true false)==false)=true by rfl,ct,show decide (((val x.ds.l:Nat):Int)≥2147483648)=false by rw[decide_eq_false_iff_not];omega]
    rfl
   by_cases I:val x.ds.l=0
   ·refine⟨0,1,by omega,by omega,by omega,by omega,by unfold RatD.q;rw[I];simp,fun K=>?_⟩
    rw[e];unfold Gh
    rw[cf,Bht I,ct];rfl
   ·have hn:=C6 x.neg x.ns
    refine⟨A2 x.neg x.ns,val x.ds.l,by omega,by omega,by omega,M,rfl,fun K=>?_⟩
    rw[e];unfold Gh
    rw[cf,And I,cf,Be6,i64 (a:=((val x.ns.l:Nat):Int)) (by omega),i64 (a:=((val x.ds.l:Nat):Int)) (by omega)]
    unfold A2
    cases x.neg
    ·rfl
    ·rw[ct,i64 (by omega),Int.zero_sub];rfl
  ·right
   intro K
   rw[CY];unfold EC
   rw[Bba,O7 rfl C.1 (D.le F),if_pos (by omega),Aiw,O7 rfl C.2 (D.le k),show((!true)==false)=true by rfl]
   by_cases G:val x.ds.l<18446744073709551616
   ·rw[if_pos G,ct,show((cond false true (!true))==false)=true by rfl,ct,show decide (((val x.ns.l:Nat):Int)≥2147483648)=false by rw[decide_eq_false_iff_not];omega,show((cond false true false)==false)=true by rfl,ct,show decide (((val x.ds.l:Nat):Int)≥2147483648)=true by rw[decide_eq_true_eq];omega]
    unfold Gh;rfl
   ·rw[if_neg G,ct,show((cond false true (!false))==false)=false by rfl,cf]
    unfold Gh;rfl
 ·right
  intro K
  rw[CY];unfold EC
  rw[Bba,O7 rfl C.1 (D.le F)]
  by_cases G:val x.ns.l<18446744073709551616
  ·rw[if_pos G,Aiw,O7 rfl C.2 (D.le k),show((!true)==false)=true by rfl,show decide (((val x.ns.l:Nat):Int)≥2147483648)=true by rw[decide_eq_true_eq];omega]
   by_cases L:val x.ds.l<18446744073709551616
   ·rw[if_pos L,ct,show((cond false true (!true))==false)=true by rfl,ct]
    unfold Gh;rfl
   ·rw[if_neg L,ct,show((cond false true (!false))==false)=false by rfl,cf]
    unfold Gh;rfl
  ·rw[if_neg G,Aiw,O7 rfl C.2 (D.le k),show((!false)==false)=false by rfl]
   split<;>(rw[cf];unfold Gh;rfl)
theorem Aqw {N:Nat} {a b c:Nat} {s:Int} (hN:4≤N) (S:a<18446744073709551616) (hb:b<9223372036854775808) (T:0<c) (U:c∣a):∀ (k fuel x y:Nat),k<fuel→x*y<2 ^ k→y≤x→Nat.gcd x y=c→∃ d:RatD,d.neg=decide (s<0)∧d.ns.l=As (a/c)∧d.ds.l=As (b/c)∧∀ K:LA→O R,Ds N K s (b:Int) (a:Int) fuel (x:Int) (y:Int)=K d.av:=by
 have base:∀ (fuel:Nat),∃ d:RatD,d.neg=decide (s<0)∧d.ns.l=As (a/c)∧d.ds.l=As (b/c)∧∀ K:LA→O R,Ds N K s (b:Int) (a:Int) (fuel+1) (c:Int) ((0:Nat):Int)=K d.av:=by
  intro fuel
  have L:a/c<18446744073709551616:=Nat.lt_of_le_of_lt (Nat.div_le_self _ _) S
  have M:b/c<18446744073709551616:=Nat.lt_of_le_of_lt (Nat.div_le_self _ _) (by omega)
  obtain⟨S1,s1,s2,V⟩:=L8 (R:=R) (N:=N) L hN
  obtain⟨S2,t1,t2,t3⟩:=L8 (R:=R) (N:=N) M hN
  refine⟨⟨decide (s<0),.of (As (a/c)) false false,.of (As (b/c)) false false⟩,rfl,rfl,rfl,fun K=>?_⟩
  rw[Ds];unfold Na
  rw[show(((0:Nat):Int) != 0)=false by rfl,cf,And (by omega),cf,lJ,Jt L,V,cf,Jt (show b<18446744073709551616 by omega),lJ,Jt M,t3,Fa s1 s2,Fa t1 t2];rfl
 intro k
 induction k with
 | zero =>
  intro fuel x y Y C G D
  obtain⟨fuel,rfl⟩:∃ F,fuel=F+1:=⟨fuel - 1,by omega⟩
  have hy:y=0:=by
   rcases Nat.eq_zero_or_pos y with h | h
   ·exact h
   ·have h3:=Nat.mul_le_mul_left x (show 1≤y by omega)
    rw[Nat.pow_zero] at C;omega
  subst hy
  rw[Nat.gcd_zero_right] at D;subst D
  exact base fuel
 | succ k ih =>
  intro fuel x y Y C G D
  obtain⟨fuel,rfl⟩:∃ F,fuel=F+1:=⟨fuel - 1,by omega⟩
  rcases Nat.eq_zero_or_pos y with h | h
  ·subst h;rw[Nat.gcd_zero_right] at D;subst D;exact base fuel
  ·have hh:=fI (show 1≤y by omega) G
   have hm:=Nat.mod_lt x h
   have I:Nat.gcd y (x%y)=Nat.gcd x y:=by rw[Nat.gcd_comm,←Nat.gcd_rec,Nat.gcd_comm]
   obtain⟨d,d1,d2,d3,d4⟩:=ih fuel y (x%y) (by omega) (by rw[Nat.pow_succ] at C;omega) (by omega) (by rw[I,D])
   refine⟨d,d1,d2,d3,fun K=>?_⟩
   rw[Ds];unfold Na
   rw[show((y:Int) != 0)=true by rw[bne_iff_ne];omega,ct,And (by omega),cf,fF]
   exact d4 K
theorem NN {N:Nat} {s:Int} {b:Nat} (hs:-9223372036854775808≤s∧s≤9223372036854775807) (G:0<b) (U:b<9223372036854775808) (hN:1000≤N):∃ d:RatD,d.can (mkRat s b)∧∀ K:LA→O R,Jc N s (b:Int) K=K d.av:=by
 obtain⟨m1,m2,m3⟩:=Aiv s b (by omega)
 have k:∀ d:RatD,d.neg=decide (s<0)→d.ns.l=As (s.natAbs/Nat.gcd s.natAbs b)→d.ds.l=As (b/Nat.gcd s.natAbs b)→d.can (mkRat s b):=by
  intro d V Y h3
  exact⟨by rw[V];congr 1;exact propext m2.symm,by rw[Y,m1],by rw[h3,m3]⟩
 have D:s.natAbs<18446744073709551616:=by omega
 have start:∀ K:LA→O R,Jc N s (b:Int) K=Ds N K s (b:Int) (s.natAbs:Int) N (b:Int) (s.natAbs:Int):=by
  intro K
  rw[XX];unfold CZ Ut AG
  dsimp only
  by_cases h:s<0
  ·have e:IntKind.wrap .u64 ((0:Int) - IntKind.wrap .u64 s)=(s.natAbs:Int):=by rw[mY,mY];omega
   rw[decide_eq_true h,ct,e,Jt (by omega)]
  ·have e:IntKind.wrap .u64 s=(s.natAbs:Int):=by rw[mY];omega
   rw[decide_eq_false h,cf,e,Jt (by omega)]
 have C:0<Nat.gcd s.natAbs b:=Nat.gcd_pos_of_pos_right _ G
 by_cases I:s.natAbs≤b
 ·obtain⟨d,L,M,S,T⟩:=Aqw (R:=R) (N:=N) (a:=s.natAbs) (b:=b) (c:=Nat.gcd s.natAbs b) (s:=s) (by omega) D U C (Nat.gcd_dvd_left _ _) 128 N b s.natAbs (by omega) (by
   have:=Nat.mul_lt_mul'' (show b<18446744073709551616 by omega) D;exact this) I (Nat.gcd_comm _ _)
  exact⟨d,k d L M S,fun K=>by rw[start,T]⟩
 ·obtain⟨F,hF⟩:∃ F,N=F+1:=⟨N - 1,by omega⟩
  obtain⟨d,L,M,S,T⟩:=Aqw (R:=R) (N:=N) (a:=s.natAbs) (b:=b) (c:=Nat.gcd s.natAbs b) (s:=s) (by omega) D U C (Nat.gcd_dvd_left _ _) 128 F s.natAbs (b%s.natAbs) (by omega) (by
   rw[Nat.mod_eq_of_lt (by omega)]
   have:=Nat.mul_lt_mul'' D (show b<18446744073709551616 by omega);exact this) (by rw[Nat.mod_eq_of_lt (by omega)];omega) (by rw[Nat.mod_eq_of_lt (by omega)])
  refine⟨d,k d L M S,fun K=>?_⟩
  rw[start,←T K]
  conv=>lhs;rw[show(Ds N K s (b:Int) (s.natAbs:Int) N)=Ds N K s (b:Int) (s.natAbs:Int) (F+1) by rw[←hF]]
  rw[Ds];unfold Na
  rw[show(((s.natAbs:Nat):Int) != 0)=true by rw[bne_iff_ne];omega,ct,And (by omega),cf,fF]
end
end Gx

namespace Gx
open Go Go.Proofs
section
variable {R:Type}
theorem Bct {S:List Nat} {g:Nat} (D:Al S) (F:val S=g) (C:(As g).length=1) {f:Int→O R}:An .u32 (Ae S) f=f (g:Int):=by
 have G:=(Bx D).2
 rw[F,C] at G
 have k:=Ax8 D
 rw[F,C] at k
 obtain⟨a,I⟩:∃ a,As g=[a]:=by
  match h:As g,C with
  | [a],_=>exact⟨a,rfl⟩
 have L:a=g:=by have:=Ak g;rw[I] at this;simpa[val] using this
 rw[I,L] at k
 match S,G,k with
 | x::r,_,k =>
  simp at k;subst k
  rw[DY,A4]
theorem LK {N:Nat} {neg:Bool} {s:LS} {l:List Nat} {n:Nat} {o t o':Bool} (hn:n=l.length) (hs:Al s.l) (V:Al l) (F:val l≠0) (C:fit (2*(s.l.length+l.length)+8) N) :
  ∃ d:RatD,d.can (mkRat (A2 neg s) (val l))∧∀ K:LA→O R,Qc N (Lg neg s) o (Ae l) n t o' K=K d.av:=by
 obtain⟨m1,m2,m3⟩:=Aiv (A2 neg s) (val l) F
 have I:=C6 neg s
 have ls:=(Bx hs).2
 have ll:=(Bx V).2
 generalize hz:A2 neg s=z at *
 have start:∀ K:LA→O R,Qc N (Lg neg s) o (Ae l) n t o' K=cond ((((As z.natAbs).length:Nat):Int)==(0:Int)) (K [(.bool false),.nsl,(.imm [(.int .u32 1)] 1 1 false false)]) (eC N (Ae (As z.natAbs)) (As z.natAbs).length false true (Ae (As (val l))) (As (val l)).length false true (fun f g=>(cond ((((f:Nat):Int) != (1:Int))==false) (cond (Ac (0:Int) f) (An .u32 g fun y=>(cond (cond false true (y != (1:Int))) (Fx N (Ae (As z.natAbs)) (As z.natAbs).length false true (List.take (f*1) g) f false true (fun p ae af z2 ag=>(Fx N (Ae (As (val l))) (As (val l)).length false true (List.take (f*1) g) f false true (fun q ah ai aa aj=>(K [(.bool (decide (z<0))),(.imm (List.take (p*1) z2) p 1 false false),(.imm (List.take (q*1) aa) q 1 false false)]))))) (K [(.bool (decide (z<0))),(.imm (Ae (As z.natAbs)) (As z.natAbs).length 1 false false),(.imm (Ae (As (val l))) (As (val l)).length 1 false false)]))) none) (Fx N (Ae (As z.natAbs)) (As z.natAbs).length false true (List.take (f*1) g) f false true (fun r ak al ab am=>(Fx N (Ae (As (val l))) (As (val l)).length false true (List.take (f*1) g) f false true (fun s an ao ac ap=>(K [(.bool (decide (z<0))),(.imm (List.take (r*1) ab) r 1 false false),(.imm (List.take (s*1) ac) s 1 false false)])))))))):=by
  intro K
  rw[kV];unfold nO
  have tk:∀ v:Nat,List.take ((As v).length*1) (Ae (As v))=Ae (As v):=fun v=>Fa (Ad _) (Ak v)
  rw[U9,Qz,show Nat.beq (List.length (Lg neg s)) 2=true by rfl,ct,A89,A3k (s1:=.of s.l false o) hs (C.le (by simp[LS.l];omega)),show A2 neg (.of s.l false o)=z by rw[←hz];rfl,iN hn V (C.le (by omega)),tk,tk]
 by_cases Y:z=0
 ·refine⟨⟨false,.nil,.of [1] false false⟩,?_,fun K=>?_⟩
  ·rw[Y];simp only[Rat.zero_mkRat]
   exact⟨rfl,rfl,DK.symm⟩
  ·rw[start,Y];rfl
 ·have L:z.natAbs≠0:=by omega
  have D:(As z.natAbs).length≠0:=fun h=>L (Bz.1 h)
  have hg0:0<Nat.gcd z.natAbs (val l):=Nat.gcd_pos_of_pos_right _ (by omega)
  have lz:(As z.natAbs).length≤s.l.length:=by rw[I];exact ls
  obtain⟨G,g1,M,g3⟩:=Ba5 (R:=R) (N:=N) (a:=As z.natAbs) (b:=As (val l)) (t:=false) (o:=true) (t':=false) (o':=true) rfl rfl (Ad _) (Ad _) (C.le (by omega))
  rw[Ak,Ak] at M g3
  have lg:(As (Nat.gcd z.natAbs (val l))).length≤l.length:=Nat.le_trans (Cd (Nat.gcd_le_right _ (by omega))) ll
  obtain⟨Q1,R1,a1,a2,a3,a4,a5⟩:=fH (R:=R) (N:=N) (a:=As z.natAbs) (b:=As (Nat.gcd z.natAbs (val l))) (t:=false) (o:=true) (t':=false) (o':=true) rfl rfl (Ad _) (Ad _) (by rw[Ak];omega) (C.le (by omega))
  obtain⟨Q2,R2,b1,S,b3,b4,T⟩:=fH (R:=R) (N:=N) (a:=As (val l)) (b:=As (Nat.gcd z.natAbs (val l))) (t:=false) (o:=true) (t':=false) (o':=true) rfl rfl (Ad _) (Ad _) (by rw[Ak];omega) (C.le (by omega))
  rw[Ak,Ak] at a2 a5 S T
  have U:decide (z<0)=decide ((mkRat z (val l)).num<0):=by congr 1;exact propext m2.symm
  refine⟨⟨decide (z<0),.of (As (z.natAbs/Nat.gcd z.natAbs (val l))) false false,.of (As (val l/Nat.gcd z.natAbs (val l))) false false⟩,⟨U,by rw[m1];rfl,by rw[m3];rfl⟩,fun K=>?_⟩
  rw[start,And D,cf,g3,Fa g1 M]
  by_cases k:(As (Nat.gcd z.natAbs (val l))).length=1
  ·rw[show((((((As (Nat.gcd z.natAbs (val l))).length:Nat):Int) != (1:Int))==false))=true by rw[k];rfl,ct,show Ac 0 (As (Nat.gcd z.natAbs (val l))).length=true by rw[k];rfl,ct,Bct g1 M k]
   by_cases he:Nat.gcd z.natAbs (val l)=1
   ·rw[he,show(cond false true (((1:Nat):Int) != 1))=false by rfl,cf,Nat.div_one,Nat.div_one];rfl
   ·rw[show(cond false true (((Nat.gcd z.natAbs (val l):Nat):Int) != 1))=true by (show(((Nat.gcd z.natAbs (val l):Nat):Int) != 1)=true;rw[bne_iff_ne];omega),ct,a5,T,Fa a1 a2,Fa b1 S];rfl
  ·rw[show((((((As (Nat.gcd z.natAbs (val l))).length:Nat):Int) != (1:Int))==false))=false by (rw[show((((As (Nat.gcd z.natAbs (val l))).length:Nat):Int) != (1:Int))=true by rw[bne_iff_ne];omega];rfl),cf,a5,T,Fa a1 a2,Fa b1 S];rfl
theorem VR {N:Nat} {x:RatD} {o:Bool} (D:x.ok) (k:fit (4*x.m+10) N):∃ d:RatD,d.can x.q∧∀ K:LA→O R,KN N x.av o K=K d.av:=by
 have M:=k.1
 rcases J7 (R:=R) (N:=N) (o:=o) D (k.le (by omega)) with⟨n,d,n1,n2,F,S,e,hK⟩ | hK
 ·obtain⟨c,c1,C⟩:=NN (R:=R) (N:=N) (s:=n) (b:=d) (by omega) F (by omega) (by omega)
  rw[e] at c1
  refine⟨c,c1,fun K=>?_⟩
  rw[eD];unfold qI
  rw[K4,ct,Ey,hK,ct,C];rfl
 ·obtain⟨neg,s,l,o1,o2,p1,p2,G,T,U,I,L⟩:=O9 (R:=R) (N:=N) (o:=o) D (k.le (by omega))
  obtain⟨c,c1,C⟩:=LK (R:=R) (N:=N) (neg:=neg) (s:=s) (l:=l) (n:=l.length) (o:=o1) (t:=false) (o':=o2) rfl p1 p2 G (k.le (by omega))
  rw[I] at c1
  refine⟨c,c1,fun K=>?_⟩
  rw[eD];unfold qI
  rw[K4,ct,Ey,hK,cf,ct,L,C];rfl
def HD (x y:Rat):Int:=if x<y then -1 else if y<x then 1 else 0
theorem A5v {d:Nat} (h:0<d):(0:Rat)<(d:Rat):=Rat.natCast_pos.2 h
theorem A5w {a c:Int} {b d:Nat} (k:0<b) (C:0<d):mkRat a b<mkRat c d↔a*d<c*b:=by
 rw[Rat.mkRat_eq_div,Rat.mkRat_eq_div,Rat.div_lt_iff (A5v k)]
 have e:(c:Rat)/(d:Rat)*(b:Rat)=(c*b:Rat)/(d:Rat):=by rw[Rat.div_def,Rat.div_def,Rat.mul_assoc,Rat.mul_assoc,Rat.mul_comm (d:Rat)⁻¹]
 rw[e,Rat.lt_div_iff (A5v C)]
 have e1:(a:Rat)*(d:Rat)=((a*d:Int):Rat):=by rw[Rat.intCast_mul];rfl
 have D:(c:Rat)*(b:Rat)=((c*b:Int):Rat):=by rw[Rat.intCast_mul];rfl
 rw[e1,D,Rat.intCast_lt_intCast]
theorem A5x {a c:Int} {b d:Nat} (k:0<b) (C:0<d):HD (mkRat a b) (mkRat c d)=rC (a*d) (c*b):=by
 unfold HD rC
 by_cases h:a*d<c*b
 ·rw[if_pos h,if_pos ((A5w k C).2 h)]
 ·rw[if_neg h,if_neg (fun F=>h ((A5w k C).1 F))]
  by_cases D:c*b<a*d
  ·rw[if_pos D,if_pos ((A5w C k).2 D)]
  ·rw[if_neg D,if_neg (fun F=>D ((A5w C k).1 F))]
theorem Ay1 {N:Nat} {a b:Int} {K:Int→O R}:M8 N a b K=K (rC a b):=by
 rw[AS];unfold W3
 simp only[JQ];unfold FO
 rw[show(a != a)=false by simp,show(b != b)=false by simp]
 dsimp only
 rw[cf,cf]
 unfold rC
 by_cases h:a<b
 ·rw[decide_eq_true h,ct,if_pos h]
 ·rw[decide_eq_false h,cf,if_neg h]
  by_cases k:b<a
  ·rw[decide_eq_true (show a>b from k),ct,if_pos k]
  ·rw[decide_eq_false (show ¬ a>b from k),cf,if_neg k]
theorem Ani {N:Nat} {a b:Int} {K:Int→O R}:Jb N a b K=K (rC a b):=by
 rw[V7];unfold Ta
 simp only[AU];unfold W4
 rw[show(a != a)=false by simp,show(b != b)=false by simp]
 dsimp only
 rw[cf,cf]
 unfold rC
 by_cases h:a<b
 ·rw[decide_eq_true h,ct,if_pos h]
 ·rw[decide_eq_false h,cf,if_neg h]
  by_cases k:b<a
  ·rw[decide_eq_true (show a>b from k),ct,if_pos k]
  ·rw[decide_eq_false (show ¬ a>b from k),cf,if_neg k]
theorem Bbc {p q:Rat} (h:p.num.sign<q.num.sign):p<q:=by
 rw[Rat.lt_iff]
 have D:=p.den_pos;have hq:=q.den_pos
 rcases Int.lt_trichotomy p.num 0 with k | k | k
 ·rcases Int.lt_or_le q.num 0 with C | C
  ·rw[Int.sign_eq_neg_one_of_neg k,Int.sign_eq_neg_one_of_neg C] at h;omega
  ·have x1:p.num*q.den<0:=Int.mul_neg_of_neg_of_pos k (by omega)
   have x2:0≤q.num*p.den:=Int.mul_nonneg C (by omega)
   omega
 ·rw[k] at h ⊢
  have:0<q.num:=by simpa using h
  have x2:0<q.num*p.den:=Int.mul_pos this (by omega)
  rw[Int.zero_mul];exact x2
 ·rw[Int.sign_eq_one_of_pos k] at h
  have:=Int.sign_trichotomy q.num
  omega
theorem VS {a b:Int} (C:-2147483648<a∧a<2147483648) (D:-2147483648<b∧b<2147483648):-4611686018427387904<a*b∧a*b<4611686018427387904:=by
 have k:a.natAbs*b.natAbs≤2147483647*2147483647:=Nat.mul_le_mul (by omega) (by omega)
 rw[←Int.natAbs_mul] at k
 omega
theorem NO {N:Nat} {x y:RatD} {o o':Bool} {K:Int→O R} (M:x.ok) (G:y.ok) (k:fit (4*(x.m+y.m)+10) N):Fu N x.av o y.av o' K=K (HD x.q y.q):=by
 have h1:=k.1
 rw[dU];unfold JY
 rw[K4,ct,Ey,L9 M (k.le (by omega)),K4,ct,Ey,L9 G (k.le (by omega))]
 by_cases hs:x.q.num.sign=y.q.num.sign
 ·rw[show(x.q.num.sign != y.q.num.sign)=false by simp[hs],cf,ct]
  have gen:Rk N K o x.av o' y.av=K (HD x.q y.q):=by
   obtain⟨n1,s1,l1,a1,I,p1,p2,p3,p4,p5,p6,p7⟩:=O9 (R:=R) (N:=N) (o:=o) M (k.le (by omega))
   obtain⟨n2,s2,l2,a2,L,T,U,q3,q4,q5,q6,q7⟩:=O9 (R:=R) (N:=N) (o:=o') G (k.le (by omega))
   obtain⟨S1,t1,t2,t3⟩:=QJ (R:=R) (N:=N) (n1:=n1) (n2:=false) (s1:=s1) (s2:=.of l2 false L) (o1:=a1) (o2:=(L||false)) p1 U (k.le (show s1.l.length+l2.length≤_ by omega))
   obtain⟨S2,u1,u2,u3⟩:=QJ (R:=R) (N:=N) (n1:=n2) (n2:=false) (s1:=s2) (s2:=.of l1 false I) (o1:=a2) (o2:=(I||false)) T p2 (k.le (show s2.l.length+l1.length≤_ by omega))
   have v1:A2 false (.of l2 false L)=(val l2:Int):=rfl
   have v2:A2 false (.of l1 false I)=(val l1:Int):=rfl
   rw[v1] at t2 t3;rw[v2] at u2 u3
   have l1':(As (A2 n1 s1*(val l2:Int)).natAbs).length≤x.m+max y.m 1:=Nat.le_trans (E5 (by
    rw[Int.natAbs_mul,C6,Int.natAbs_natCast,Nat.pow_add]
    exact Nat.mul_lt_mul'' (Nat.lt_of_lt_of_le (Bo p1) (Nat.pow_le_pow_right (by omega) p4)) (Nat.lt_of_lt_of_le (Bo U) (Nat.pow_le_pow_right (by omega) q5)))) (Nat.le_refl _)
   have l2':(As (A2 n2 s2*(val l1:Int)).natAbs).length≤y.m+max x.m 1:=Nat.le_trans (E5 (by
    rw[Int.natAbs_mul,C6,Int.natAbs_natCast,Nat.pow_add]
    exact Nat.mul_lt_mul'' (Nat.lt_of_lt_of_le (Bo T) (Nat.pow_le_pow_right (by omega) q4)) (Nat.lt_of_lt_of_le (Bo p2) (Nat.pow_le_pow_right (by omega) p5)))) (Nat.le_refl _)
   unfold Rk
   rw[K4,ct,Ey,p7,lK,ct,K4,ct,Ey,q7,lK,ct,n6,ct,Ane,A89,t3,n6,ct,Ane,A89,u3,Fa t1 t2,Fa u1 u2,A89,A89,Ang (s1:=.of (As (A2 n1 s1*(val l2:Int)).natAbs) false true) (s2:=.of (As (A2 n2 s2*(val l1:Int)).natAbs) false true) (Ad _) (Ad _) (k.le (show(As (A2 n1 s1*(val l2:Int)).natAbs).length+(As (A2 n2 s2*(val l1:Int)).natAbs).length≤_ by omega)),Kj,Kj,←p6,←q6,A5x (by omega) (by omega)]
  rcases J7 (R:=R) (N:=N) (o:=o) M (k.le (by omega)) with⟨n,d,n1,n2,d1,d2,e,hK⟩ | hK
  ·rcases J7 (R:=R) (N:=N) (o:=o') G (k.le (by omega)) with⟨V,d',C,D,F,S,e',hK'⟩ | hK'
   ·have I:=VS (a:=n) (b:=(d':Int)) ⟨n1,n2⟩ (by omega)
    have L:=VS (a:=V) (b:=(d:Int)) ⟨C,D⟩ (by omega)
    rw[hK,ct,hK',show((true:Bool)==true)=true by rfl,ct,Ax7,ct,Ani,i64 (by omega),i64 (by omega),←e,←e',A5x d1 F]
   ·rw[hK,ct,hK',show((true:Bool)==true)=true by rfl,ct,Ax7,cf,gen]
  ·rcases J7 (R:=R) (N:=N) (o:=o') G (k.le (by omega)) with⟨V,d',C,D,F,S,e',hK'⟩ | hK'
   ·rw[hK,ct,hK',show((false:Bool)==true)=false by rfl,cf,gen]
   ·rw[hK,ct,hK',show((false:Bool)==true)=false by rfl,cf,gen]
 ·rw[show(x.q.num.sign != y.q.num.sign)=true by simp[hs],ct,Ay1]
  congr 1
  unfold rC HD
  by_cases h:x.q.num.sign<y.q.num.sign
  ·rw[if_pos h,if_pos (Bbc h)]
  ·have Y:y.q.num.sign<x.q.num.sign:=by omega
   have:=Bbc Y
   rw[if_neg h,if_pos Y,if_neg (fun hh=>absurd (Rat.le_of_lt this) (Rat.not_le.2 hh)),if_pos this]
end
end Gx

namespace Gx
open Go Go.Proofs
section
variable {R:Type}
theorem Ay2 {q:Rat} (h:q.num.sign=0):q=0:=Rat.num_eq_zero.1 (Int.sign_eq_zero_iff_zero.1 h)
theorem Pa {a b:Int} {k l:Nat} (C:a.natAbs<4294967296 ^ k) (D:b.natAbs<4294967296 ^ l):(a*b).natAbs<4294967296 ^ (k+l):=by
 rw[Int.natAbs_mul,Nat.pow_add];exact Nat.mul_lt_mul'' C D
theorem rD {a b:Int} {k:Nat} (C:a.natAbs<4294967296 ^ k) (D:b.natAbs<4294967296 ^ k):(a+b).natAbs<4294967296 ^ (k+1):=by
 rw[Nat.pow_succ];omega
theorem H9 {k l:Nat} (h:k≤l):4294967296 ^ k≤4294967296 ^ l:=Nat.pow_le_pow_right (by omega) h
theorem Bbd {v k:Nat} (h:(As v).length≤k):v<4294967296 ^ k:=by
 have:=Bo (Ad v);rw[Ak] at this
 exact Nat.lt_of_lt_of_le this (H9 h)
theorem Ay3 (p r:Int) (d:Nat) (k:d≠0):mkRat (p+r) d=mkRat p d+mkRat r d:=by
 rw[Rat.mkRat_add_mkRat _ _ k k,←Int.add_mul]
 exact(Rat.mkRat_mul_right k).symm
theorem Bcu {N:Nat} {x y:RatD} {o o':Bool} (hx:x.ok) (hy:y.ok) (C:fit (8*(x.m+y.m)+40) N):∃ d:RatD,d.can (x.q+y.q)∧∀ K:LA→O R,P_ N K o x.av o' y.av=K d.av:=by
 obtain⟨n1,s1,l1,a1,D,p1,p2,G,p4,p5,T,U⟩:=O9 (R:=R) (N:=N) (o:=o) hx (C.le (by omega))
 obtain⟨n2,s2,l2,a2,I,L,F,V,q4,q5,Y,q7⟩:=O9 (R:=R) (N:=N) (o:=o') hy (C.le (by omega))
 have zl1:(A2 n1 s1).natAbs<4294967296 ^ x.m:=by rw[C6];exact Nat.lt_of_lt_of_le (Bo p1) (H9 p4)
 have zl2:(A2 n2 s2).natAbs<4294967296 ^ y.m:=by rw[C6];exact Nat.lt_of_lt_of_le (Bo L) (H9 q4)
 have dl1:((val l1:Nat):Int).natAbs<4294967296 ^ (x.m+1):=by rw[Int.natAbs_natCast];exact Nat.lt_of_lt_of_le (Bo p2) (H9 (by omega))
 have dl2:((val l2:Nat):Int).natAbs<4294967296 ^ (y.m+1):=by rw[Int.natAbs_natCast];exact Nat.lt_of_lt_of_le (Bo F) (H9 (by omega))
 by_cases he:val l1=val l2
 ·obtain⟨S,t1,t2,t3⟩:=Aqv (R:=R) (N:=N) (n1:=n1) (n2:=n2) (s1:=s1) (s2:=s2) (o1:=a1) (o2:=a2) p1 L (C.le (by omega))
  have lz:(As (A2 n1 s1+A2 n2 s2).natAbs).length≤x.m+y.m+1:=E5 (rD (k:=x.m+y.m) (Nat.lt_of_lt_of_le zl1 (H9 (by omega))) (Nat.lt_of_lt_of_le zl2 (H9 (by omega))))
  obtain⟨c,c1,M⟩:=LK (R:=R) (N:=N) (neg:=decide (A2 n1 s1+A2 n2 s2<0)) (s:=.of (As (A2 n1 s1+A2 n2 s2).natAbs) false true) (l:=l1) (n:=l1.length) (o:=true) (t:=false) (o':=D) rfl (Ad _) p2 G (C.le (show 2*((As (A2 n1 s1+A2 n2 s2).natAbs).length+l1.length)+8≤_ by omega))
  rw[Kj,Ay3 _ _ _ G,T] at c1
  rw[show mkRat (A2 n2 s2) (val l1)=y.q by rw[he,Y]] at c1
  refine⟨c,c1,fun K=>?_⟩
  unfold P_
  rw[K4,ct,Ey,U,lK,ct,K4,ct,Ey,q7,lK,ct,T2 rfl rfl p2 F (C.le (by omega)),he,EI,show((0:Int)==0)=true by rfl,ct,n6,ct,n6,ct,Ane,Ane,t3,Fa t1 t2,A89,M];rfl
 ·obtain⟨S1,t1,t2,t3⟩:=QJ (R:=R) (N:=N) (n1:=n1) (n2:=false) (s1:=s1) (s2:=.of l2 false I) (o1:=a1) (o2:=(I||false)) p1 F (C.le (show s1.l.length+l2.length≤_ by omega))
  obtain⟨S2,u1,u2,u3⟩:=QJ (R:=R) (N:=N) (n1:=n2) (n2:=false) (s1:=s2) (s2:=.of l1 false D) (o1:=a2) (o2:=(D||false)) L p2 (C.le (show s2.l.length+l1.length≤_ by omega))
  rw[show A2 false (.of l2 false I)=(val l2:Int) by rfl] at t2 t3
  rw[show A2 false (.of l1 false D)=(val l1:Int) by rfl] at u2 u3
  have z1:=Pa zl1 dl2
  have z2:=Pa zl2 dl1
  have L1:=E5 z1
  have L2:=E5 z2
  obtain⟨S3,w1,w2,w3⟩:=Aqv (R:=R) (N:=N) (n1:=decide (A2 n1 s1*(val l2:Int)<0)) (n2:=decide (A2 n2 s2*(val l1:Int)<0)) (s1:=.of (As (A2 n1 s1*(val l2:Int)).natAbs) false true) (s2:=.of (As (A2 n2 s2*(val l1:Int)).natAbs) false true) (o1:=true) (o2:=true) (Ad _) (Ad _) (C.le (show(As (A2 n1 s1*(val l2:Int)).natAbs).length+(As (A2 n2 s2*(val l1:Int)).natAbs).length+1≤_ by omega))
  rw[Kj,Kj] at w2 w3
  obtain⟨S4,v1,v2,v3⟩:=fE (R:=R) (N:=N) (a:=l1) (b:=l2) (t:=false) (o:=D) (t':=false) (o':=I) rfl rfl p2 F (C.le (by omega))
  have z3:=rD (k:=x.m+y.m+1) (Nat.lt_of_lt_of_le z1 (H9 (by omega))) (Nat.lt_of_lt_of_le z2 (H9 (by omega)))
  have L3:=E5 z3
  have z4:val l1*val l2<4294967296 ^ (x.m+1+(y.m+1)):=by
   have:=Pa dl1 dl2;rw[Int.natAbs_mul,Int.natAbs_natCast,Int.natAbs_natCast] at this;exact this
  have L4:=E5 z4
  obtain⟨c,c1,M⟩:=LK (R:=R) (N:=N) (neg:=decide (A2 n1 s1*(val l2:Int)+A2 n2 s2*(val l1:Int)<0)) (s:=.of (As (A2 n1 s1*(val l2:Int)+A2 n2 s2*(val l1:Int)).natAbs) false true) (l:=As (val l1*val l2)) (n:=(As (val l1*val l2)).length) (o:=true) (t:=false) (o':=true) rfl (Ad _) (Ad _) (by rw[Ak];exact Nat.mul_ne_zero G V) (C.le (show 2*((As (A2 n1 s1*(val l2:Int)+A2 n2 s2*(val l1:Int)).natAbs).length+(As (val l1*val l2)).length)+8≤_ by omega))
  rw[Kj,Ak,←Rat.mkRat_add_mkRat _ _ G V,T,Y] at c1
  refine⟨c,c1,fun K=>?_⟩
  unfold P_
  have hc:(Ir (val l1) (val l2)==0)=false:=by
   rw[beq_eq_false_iff_ne];unfold Ir;split
   ·omega
   ·rw[if_pos (by omega)];omega
  rw[K4,ct,Ey,U,lK,ct,K4,ct,Ey,q7,lK,ct,T2 rfl rfl p2 F (C.le (by omega)),hc,cf,n6,ct,Ane,A89,t3,n6,ct,Ane,A89,u3,Fa t1 t2,Fa u1 u2,A89,A89,w3,v3,Fa w1 w2,Fa v1 v2,A89,M];rfl
theorem uj {N:Nat} {x y:RatD} {o o':Bool} (D:x.ok) (F:y.ok) (k:fit (8*(x.m+y.m)+40) N):∃ d:RatD,d.can (x.q+y.q)∧∀ K:LA→O R,N0 N x.av o y.av o' K=K d.av:=by
 have h1:=k.1
 by_cases T:x.q.num.sign=0
 ·obtain⟨c,c1,C⟩:=VR (R:=R) (N:=N) (o:=o') F (k.le (by omega))
  refine⟨c,by rw[Ay2 T,Rat.zero_add];exact c1,fun K=>?_⟩
  rw[UU];unfold iF
  rw[K4,ct,Ey,L9 D (k.le (by omega)),T,show((0:Int)==0)=true by rfl,ct,K4,ct,Ey,C];rfl
 ·have G:(x.q.num.sign==0)=false:=by rw[beq_eq_false_iff_ne];exact T
  by_cases U:y.q.num.sign=0
  ·obtain⟨c,c1,C⟩:=VR (R:=R) (N:=N) (o:=o) D (k.le (by omega))
   refine⟨c,by rw[Ay2 U,Rat.add_zero];exact c1,fun K=>?_⟩
   rw[UU];unfold iF
   rw[K4,ct,Ey,L9 D (k.le (by omega)),G,cf,K4,ct,Ey,L9 F (k.le (by omega)),U,show((0:Int)==0)=true by rfl,ct,ct,C];rfl
  ·have V:(y.q.num.sign==0)=false:=by rw[beq_eq_false_iff_ne];exact U
   have start:∀ K:LA→O R,N0 N x.av o y.av o' K=G7 N x.av o (fun g e aw=>G7 N y.av o' (fun i f ax=>(cond (aw==true) (Ty N K g e i f o x.av o' y.av (cond true ax false)) (Ty N K g e i f o x.av o' y.av false)))):=by
    intro K
    rw[UU];unfold iF
    rw[K4,ct,Ey,L9 D (k.le (by omega)),G,cf,K4,ct,Ey,L9 F (k.le (by omega)),V,cf,ct];rfl
   have gen:∃ d:RatD,d.can (x.q+y.q)∧∀ (K:LA→O R) (g e i f:Int),Ty N K g e i f o x.av o' y.av false=K d.av:=by
    obtain⟨c,c1,C⟩:=Bcu (R:=R) (N:=N) (o:=o) (o':=o') D F k
    exact⟨c,c1,fun K g e i f=>by unfold Ty UT;rw[cf,C]⟩
   rcases J7 (R:=R) (N:=N) (o:=o) D (k.le (by omega)) with⟨n,d,n1,n2,d1,d2,e,hK⟩ | hK
   ·rcases J7 (R:=R) (N:=N) (o:=o') F (k.le (by omega)) with⟨S,d',I,L,M,Y,e',hK'⟩ | hK'
    ·have b1:=VS (a:=n) (b:=(d':Int)) ⟨n1,n2⟩ (by omega)
     have b2:=VS (a:=S) (b:=(d:Int)) ⟨I,L⟩ (by omega)
     have b3:=VS (a:=(d:Int)) (b:=(d':Int)) (by omega) (by omega)
     have b4:((d*d':Nat):Int)=(d:Int)*(d':Int):=by simp
     obtain⟨c,c1,C⟩:=NN (R:=R) (N:=N) (s:=n*d'+S*d) (b:=d*d') (by omega) (Nat.mul_pos d1 M) (by omega) (by omega)
     rw[←Rat.mkRat_add_mkRat _ _ (by omega) (by omega),e,e'] at c1
     refine⟨c,c1,fun K=>?_⟩
     rw[start,hK,hK',show((true:Bool)==true)=true by rfl,ct,Ax7]
     unfold Ty UT
     rw[ct,i64 (a:=n*(d':Int)) (by omega),i64 (a:=S*(d:Int)) (by omega),i64 (by omega),i64 (by omega),←b4,C];rfl
    ·obtain⟨c,c1,C⟩:=gen
     refine⟨c,c1,fun K=>?_⟩
     rw[start,hK,hK',show((true:Bool)==true)=true by rfl,ct,Ax7,C]
   ·obtain⟨c,c1,C⟩:=gen
    refine⟨c,c1,fun K=>?_⟩
    rw[start,hK]
    rcases J7 (R:=R) (N:=N) (o:=o') F (k.le (by omega)) with⟨S,d',I,L,M,Y,e',hK'⟩ | hK'
    ·rw[hK',show((false:Bool)==true)=false by rfl,cf,C]
    ·rw[hK',show((false:Bool)==true)=false by rfl,cf,C]
theorem Ay4 (n:Bool) (s:LS):A2 (!n) s=-A2 n s:=by unfold A2;cases n<;>simp
theorem Aqx {N:Nat} {x y:RatD} {o o':Bool} (k:x.ok) (C:y.ok) (D:fit (8*(x.m+y.m)+40) N):∃ d:RatD,d.can (x.q - y.q)∧∀ K:LA→O R,GO N x.av o y.av o' K=K d.av:=by
 obtain⟨c,c1,F⟩:=uj (R:=R) (N:=N) (x:=⟨x.neg,.of x.ns.l false o,.of x.ds.l false o⟩) (y:=⟨!y.neg,.of y.ns.l false o',.of y.ds.l false o'⟩) (o:=(o||(o||false))) (o':=(o'||(o'||false))) k C D
 have e1:RatD.q ⟨x.neg,.of x.ns.l false o,.of x.ds.l false o⟩=x.q:=rfl
 have G:RatD.q ⟨!y.neg,.of y.ns.l false o',.of y.ds.l false o'⟩=-y.q:=by
  show mkRat (A2 (!y.neg) (.of y.ns.l false o')) (val y.ds.l)=_
  rw[Ay4,←Rat.neg_mkRat];rfl
 rw[e1,G,←Rat.sub_eq_add_neg] at c1
 refine⟨c,c1,fun K=>?_⟩
 rw[Age];unfold Atr
 rw[Be6,Bba,Aiw,Bgh,ct,Be6,Bba,Aiw,Bgh,ct]
 exact(F _).trans rfl
theorem Bcv {N:Nat} {x y:RatD} {o o':Bool} (F:x.ok) (G:y.ok) (k:fit (8*(x.m+y.m)+40) N):∃ d:RatD,d.can (x.q*y.q)∧∀ K:LA→O R,P' N K o x.av o' y.av=K d.av:=by
 obtain⟨n1,s1,l1,a1,I,p1,p2,L,M,p5,S,T⟩:=O9 (R:=R) (N:=N) (o:=o) F (k.le (by omega))
 obtain⟨n2,s2,l2,a2,U,C,D,V,Y,q5,q6,q7⟩:=O9 (R:=R) (N:=N) (o:=o') G (k.le (by omega))
 have zl1:(A2 n1 s1).natAbs<4294967296 ^ x.m:=by rw[C6];exact Nat.lt_of_lt_of_le (Bo p1) (H9 M)
 have zl2:(A2 n2 s2).natAbs<4294967296 ^ y.m:=by rw[C6];exact Nat.lt_of_lt_of_le (Bo C) (H9 Y)
 have dl1:((val l1:Nat):Int).natAbs<4294967296 ^ (x.m+1):=by rw[Int.natAbs_natCast];exact Nat.lt_of_lt_of_le (Bo p2) (H9 (by omega))
 have dl2:((val l2:Nat):Int).natAbs<4294967296 ^ (y.m+1):=by rw[Int.natAbs_natCast];exact Nat.lt_of_lt_of_le (Bo D) (H9 (by omega))
 obtain⟨S1,t1,t2,t3⟩:=QJ (R:=R) (N:=N) (n1:=n1) (n2:=n2) (s1:=s1) (s2:=s2) (o1:=a1) (o2:=a2) p1 C (k.le (by omega))
 have L1:=E5 (Pa zl1 zl2)
 obtain⟨S4,v1,v2,v3⟩:=fE (R:=R) (N:=N) (a:=l1) (b:=l2) (t:=false) (o:=I) (t':=false) (o':=U) rfl rfl p2 D (k.le (by omega))
 have z4:val l1*val l2<4294967296 ^ (x.m+1+(y.m+1)):=by
  have:=Pa dl1 dl2;rw[Int.natAbs_mul,Int.natAbs_natCast,Int.natAbs_natCast] at this;exact this
 have L4:=E5 z4
 obtain⟨c,c1,c2⟩:=LK (R:=R) (N:=N) (neg:=decide (A2 n1 s1*A2 n2 s2<0)) (s:=.of (As (A2 n1 s1*A2 n2 s2).natAbs) false true) (l:=As (val l1*val l2)) (n:=(As (val l1*val l2)).length) (o:=true) (t:=false) (o':=true) rfl (Ad _) (Ad _) (by rw[Ak];exact Nat.mul_ne_zero L V) (k.le (show 2*((As (A2 n1 s1*A2 n2 s2).natAbs).length+(As (val l1*val l2)).length)+8≤_ by omega))
 rw[Kj,Ak,←Rat.mkRat_mul_mkRat,S,q6] at c1
 refine⟨c,c1,fun K=>?_⟩
 unfold P'
 rw[K4,ct,Ey,T,lK,ct,K4,ct,Ey,q7,lK,ct,n6,ct,n6,ct,Ane,Ane,t3,v3,Fa t1 t2,Fa v1 v2,A89,c2];rfl
theorem Aqy {N:Nat} {x y:RatD} {o o':Bool} (S:x.ok) (G:y.ok) (k:fit (8*(x.m+y.m)+40) N):∃ d:RatD,d.can (x.q*y.q)∧∀ K:LA→O R,NI N x.av o y.av o' K=K d.av:=by
 have h1:=k.1
 obtain⟨g,T,I⟩:=Bcv (R:=R) (N:=N) (o:=o) (o':=o') S G k
 rcases J7 (R:=R) (N:=N) (o:=o) S (k.le (by omega)) with⟨n,d,n1,n2,U,d2,e,hK⟩ | hK
 ·rcases J7 (R:=R) (N:=N) (o:=o') G (k.le (by omega)) with⟨L,d',C,D,F,M,e',hK'⟩ | hK'
  ·have b1:=VS (a:=n) (b:=L) ⟨n1,n2⟩ ⟨C,D⟩
   have b3:=VS (a:=(d:Int)) (b:=(d':Int)) (by omega) (by omega)
   have V:((d*d':Nat):Int)=(d:Int)*(d':Int):=by simp
   obtain⟨c,c1,Y⟩:=NN (R:=R) (N:=N) (s:=n*L) (b:=d*d') (by omega) (Nat.mul_pos U F) (by omega) (by omega)
   rw[←Rat.mkRat_mul_mkRat,e,e'] at c1
   refine⟨c,c1,fun K=>?_⟩
   rw[UV];unfold iG
   rw[K4,ct,Ey,hK,K4,ct,Ey,hK',show((true:Bool)==true)=true by rfl,ct,Ax7,ct,i64 (by omega),i64 (by omega),←V,Y];rfl
  ·refine⟨g,T,fun K=>?_⟩
   rw[UV];unfold iG
   rw[K4,ct,Ey,hK,K4,ct,Ey,hK',show((true:Bool)==true)=true by rfl,ct,Ax7,cf,I]
 ·refine⟨g,T,fun K=>?_⟩
  rw[UV];unfold iG
  rcases J7 (R:=R) (N:=N) (o:=o') G (k.le (by omega)) with⟨L,d',C,D,F,M,e',hK'⟩ | hK'
  ·rw[K4,ct,Ey,hK,K4,ct,Ey,hK',show((false:Bool)==true)=false by rfl,cf,I]
  ·rw[K4,ct,Ey,hK,K4,ct,Ey,hK',show((false:Bool)==true)=false by rfl,cf,I]
theorem Aub {a b:Rat}:HD a b≤0↔a≤b:=by
 unfold HD
 by_cases h:a<b
 ·rw[if_pos h];exact⟨fun _=>Rat.le_of_lt h,fun _=>by omega⟩
 ·rw[if_neg h]
  by_cases k:b<a
  ·rw[if_pos k];exact⟨fun C=>by omega,fun C=>absurd C (Rat.not_le.2 k)⟩
  ·rw[if_neg k];exact⟨fun _=>Rat.not_lt.1 k,fun _=>by omega⟩
theorem A9a {N:Nat} {x y:RatD} {o o':Bool} (C:x.ok) (D:y.ok) (k:fit (8*(x.m+y.m)+40) N):∃ d:RatD,d.can (if x.q≤y.q then x.q else y.q)∧∀ K:LA→O R,uU N x.av o y.av o' K=K d.av:=by
 by_cases h:x.q≤y.q
 ·obtain⟨c,c1,F⟩:=VR (R:=R) (N:=N) (o:=o) C (k.le (by omega))
  refine⟨c,by rw[if_pos h];exact c1,fun K=>?_⟩
  rw[nR];unfold Ab7
  rw[K4,ct,K4,ct,Ey,Ey,NO C D (k.le (by omega)),decide_eq_true (Aub.2 h),ct,ct,F];rfl
 ·obtain⟨c,c1,F⟩:=VR (R:=R) (N:=N) (o:=o') D (k.le (by omega))
  refine⟨c,by rw[if_neg h];exact c1,fun K=>?_⟩
  rw[nR];unfold Ab7
  rw[K4,ct,K4,ct,Ey,Ey,NO C D (k.le (by omega)),decide_eq_false (fun G=>h (Aub.1 G)),cf,ct,F];rfl
end
end Gx

namespace Gx
open Go Go.Proofs
section
variable {R:Type}
def Ha (z:Int):LA:=Lg (decide (z<0)) (.of (As z.natAbs) false false)
theorem rE (z:Int) (K:LA→O R):(cond ((Nat.beq 0 0)&&((Nat.beq (List.length (Ha z)) 2)&&(Nat.beq 2 2))) (cond (Nat.ble 2 (List.length (Ha z))) (K (List.take 2 (Ha z))) none) none)=K (Ha z):=rfl
theorem Bh2 (z:Int):List.take 2 (Ha z)=Ha z:=rfl
theorem Bhj (z:Int):Nat.beq (List.length (Ha z)) 2=true:=rfl
theorem Bcf (v:Nat):List.take ((As v).length*1) (Ae (As v))=Ae (As v):=Fa (Ad _) (Ak v)
theorem Ia {N:Nat} {neg:Bool} {l:List Nat} {n:Nat} {t o:Bool} {K:LA→O R} (hn:n=l.length) (k:Al l) (C:fit l.length N):G6 N neg (Ae l) n t o K=K (Ha (if neg then -(val l:Int) else (val l:Int))):=by
 obtain⟨c1,D⟩:=EK (z:=if neg then -(val l:Int) else (val l:Int)) (c:=neg) (m:=val l) rfl
 rw[od];unfold t4
 rw[Eb hn k C,Bcf]
 unfold Ha
 rw[←c1,D]
 cases neg
 ·rfl
 ·rw[show((true:Bool)==true)=true by rfl,ct,Ax7];simp[Lg,LS.av]
theorem lL {N:Nat} {v:Int} {K:LA→O R} (C:-9223372036854775808≤v∧v≤9223372036854775807) (hN:2000≤N):Lj N v K=K (Ha v):=by
 have k:v.natAbs<18446744073709551616:=by omega
 have D:=VM k
 rw[XN];unfold TW
 by_cases h:v<0
 ·have e:IntKind.wrap .u64 (IntKind.wrap .u64 (IntKind.wrap .i64 ((0:Int) - IntKind.wrap .i64 (v+1)))+1)=(v.natAbs:Int):=by
   rw[i64 (a:=v+1) (by omega),i64 (by omega),mY,mY];omega
  rw[decide_eq_true h,ct,e,LJ k (by omega),Bcf,Ia rfl (Ad _) ⟨by omega,by omega⟩,Ak]
  have:(if true=true then -(v.natAbs:Int) else (v.natAbs:Int))=v:=by rw[if_pos rfl];omega
  rw[this];exact rE _ _
 ·have e:IntKind.wrap .u64 v=(v.natAbs:Int):=by rw[mY];omega
  rw[decide_eq_false h,cf,e,LJ k (by omega),Bcf,Ia rfl (Ad _) ⟨by omega,by omega⟩,Ak]
  have:(if false=true then -(v.natAbs:Int) else (v.natAbs:Int))=v:=by rw[if_neg (by decide)];omega
  rw[this];exact rE _ _
theorem n7 {N:Nat} {n:Bool} {s:LS} {o:Bool} {K:LA→O R} (hs:Al s.l) (k:fit s.l.length N):FD N (Lg n s) o K=K (Ha (A2 n s)):=by
 rw[oh];unfold t5
 rw[U9,Qz,Ia rfl hs k];exact rE _ _
theorem Aix {N:Nat} {n:Bool} {s:LS} {o:Bool} {K:Int→O R} (hs:Al s.l) (k:fit s.l.length N):FE N (Lg n s) o K=K (A2 n s).sign:=by
 rw[om];unfold t6
 rw[n6,ct,Ane,n7 hs k,Bhj,show((true&&(true&&(!false))))=true by rfl,ct]
 have e:setCells (Lg n s) 0 (Ha (A2 n s))=Ha (A2 n s):=rfl
 rw[e]
 generalize A2 n s=z
 unfold Ha
 rw[U9]
 rcases Int.lt_trichotomy z 0 with h | h | h
 ·rw[decide_eq_true h,ct,Int.sign_eq_neg_one_of_neg h]
 ·subst h;rfl
 ·rw[decide_eq_false (by omega),cf,Qz]
  have:(As z.natAbs).length≠0:=fun C=>by have:=Bz.1 C;omega
  simp only[LS.l]
  rw[And this,cf,Int.sign_eq_one_of_pos h]
theorem A9b {N:Nat} {n:Bool} {s:LS} {o:Bool} {K:LA→O R} (hs:Al s.l) (k:fit s.l.length N):CV N (Lg n s) o K=K (Ha (-A2 n s)):=by
 rw[xF];unfold Aes
 rw[U9,Qz,Ia rfl hs k,←Ay4];exact rE _ _
theorem A3l {N:Nat} {n1 n2:Bool} {s1 s2:LS} {o1 o2:Bool} {K:LA→O R} (k:Al s1.l) (C:Al s2.l) (D:fit (s1.l.length+s2.l.length) N):KS N (Lg n1 s1) o1 (Lg n2 s2) o2 K=K (Ha (A2 n1 s1*A2 n2 s2)):=by
 have F:(As (val s1.l*val s2.l)).length≤s1.l.length+s2.l.length:=E5 (by rw[Nat.pow_add];exact Nat.mul_lt_mul'' (Bo k) (Bo C))
 rw[xx];unfold Agx
 rw[U9,U9,Qz,Qz,A84 rfl rfl k C D,Bcf,Ia rfl (Ad _) (D.le F),Ak]
 have G:A2 n1 s1*A2 n2 s2=if (!(n1==n2)) then -((val s1.l*val s2.l:Nat):Int) else ((val s1.l*val s2.l:Nat):Int):=by
  unfold A2;cases n1<;>cases n2<;>simp[Int.mul_neg,Int.neg_mul]
 rw[←G];exact rE _ _
theorem A3m {N:Nat} {n1 n2:Bool} {s1 s2:LS} {o1 o2:Bool} {K:LA→O R} (G:Al s1.l) (I:Al s2.l) (k:fit (s1.l.length+s2.l.length+1) N):CU N (Lg n1 s1) o1 (Lg n2 s2) o2 K=K (Ha (A2 n1 s1+A2 n2 s2)):=by
 have v1:=Bo G
 have v2:=Bo I
 have L:=H9 (show s1.l.length≤s1.l.length+s2.l.length by omega)
 have M:=H9 (show s2.l.length≤s1.l.length+s2.l.length by omega)
 rw[xD];unfold Aeo
 rw[U9,U9]
 by_cases hn:n1=n2
 ·subst hn
  have C:(As (val s1.l+val s2.l)).length≤s1.l.length+s2.l.length+1:=E5 (by rw[Nat.pow_succ];omega)
  have D:A2 n1 s1+A2 n1 s2=if n1 then -((val s1.l+val s2.l:Nat):Int) else ((val s1.l+val s2.l:Nat):Int):=by
   unfold A2;cases n1<;>simp;omega
  rw[show(n1==n1)=true by simp,ct,U9,Qz,Qz,ue rfl rfl G I k,Bcf,Ia rfl (Ad _) (k.le C),Ak,←D];exact rE _ _
 ·rw[show(n1==n2)=false by simp[hn],cf,Qz,Qz,uf rfl rfl G I (k.le (by omega))]
  by_cases F:val s2.l≤val s1.l
  ·have C:(As (val s1.l - val s2.l)).length≤s1.l.length+s2.l.length+1:=E5 (by rw[Nat.pow_succ];omega)
   have D:A2 n1 s1+A2 n2 s2=if n1 then -((val s1.l - val s2.l:Nat):Int) else ((val s1.l - val s2.l:Nat):Int):=by
    unfold A2;cases n1<;>cases n2<;>simp at hn ⊢<;>omega
   rw[if_pos F,ct,U9,Bcf,Ia rfl (Ad _) (k.le C),Ak,←D];exact rE _ _
  ·have C:(As (val s2.l - val s1.l)).length≤s1.l.length+s2.l.length+1:=E5 (by rw[Nat.pow_succ];omega)
   have D:A2 n1 s1+A2 n2 s2=if n2 then -((val s2.l - val s1.l:Nat):Int) else ((val s2.l - val s1.l:Nat):Int):=by
    unfold A2;cases n1<;>cases n2<;>simp at hn ⊢<;>omega
   rw[if_neg F,cf,Qz,Qz,uf rfl rfl I G (k.le (by omega)),if_pos (by omega),U9,Bcf,Ia rfl (Ad _) (k.le C),Ak,←D];exact rE _ _
theorem A9c {N:Nat} {n1 n2:Bool} {s1 s2:LS} {o1 o2:Bool} {K:LA→O R} (k:Al s1.l) (C:Al s2.l) (D:fit (3*(s1.l.length+s2.l.length)+4) N):pH N (Lg n1 s1) o1 (Lg n2 s2) o2 K=K (Ha ((Nat.gcd (A2 n1 s1).natAbs (A2 n2 s2).natAbs:Nat):Int)):=by
 have F:(As (Nat.gcd (val s1.l) (val s2.l))).length≤s1.l.length+s2.l.length:=by
  rcases Nat.eq_zero_or_pos (val s1.l) with h | h
  ·rw[h,Nat.gcd_zero_left];have:=(Bx C).2;omega
  ·have:=Cd (Nat.gcd_le_left (val s2.l) h);have:=(Bx k).2;omega
 rw[xA];unfold Aeh
 rw[Qz,Qz,A87 rfl rfl k C D,Bcf,Ia rfl (Ad _) (D.le (by omega)),Ak,C6,C6];exact rE _ _
theorem fJ {N:Nat} {n1:Bool} {s1:LS} {g:Nat} {o1 o2:Bool} {K:LA→LA→Bool→O R} (D:Al s1.l) (G:0<g) (F:g∣val s1.l) (C:fit (s1.l.length+2*(As g).length+4) N):W0 N (Lg n1 s1) o1 (Ha (g:Int)) o2 K=K (Ha (A2 n1 s1/(g:Int))) (Ha 0) true:=by
 have k:Ha (g:Int)=Lg false (.of (As g) false false):=by
  unfold Ha;rw[decide_eq_false (by omega),Int.natAbs_natCast]
 have hq:(As (val s1.l/g)).length≤s1.l.length:=Nat.le_trans (Cd (Nat.div_le_self _ _)) (Bx D).2
 rw[k,dA];unfold c_
 rw[Qz,Qz,show(LS.of (As g) false false).l=As g by rfl]
 rw[VQ rfl rfl D (Ad _) (by rw[Ak];omega) C,Ak,Nat.mod_eq_zero_of_dvd F,show(!true)=false by rfl,cf,U9,U9,Bcf,Ia rfl (Ad _) (C.le (by omega)),U9,Bcf,Ia rfl (Ad _) (C.le (by simp[Eu])),Ak,Ak]
 have I:(if n1=true then -((0:Nat):Int) else ((0:Nat):Int))=0:=by cases n1<;>rfl
 have e1:(if (!(n1==false))=true then -((val s1.l/g:Nat):Int) else ((val s1.l/g:Nat):Int))=A2 n1 s1/(g:Int):=by
  obtain⟨c,k⟩:=F
  have L:val s1.l/g=c:=by rw[k,Nat.mul_div_cancel_left _ G]
  rw[L];unfold A2;rw[k]
  cases n1
  ·simp;rw[Int.mul_ediv_cancel_left _ (by omega)]
  ·simp only[Bool.true_beq,Bool.not_false,if_true]
   rw[show -((g*c:Nat):Int)=(g:Int)*(-(c:Int)) by rw[Int.mul_neg];simp,Int.mul_ediv_cancel_left _ (by omega)]
 rw[I,e1]
 generalize A2 n1 s1/(g:Int)=q
 have r0:∀ (f:Bool→O R),ON (Ha 0) f=f false:=fun f=>U9
 rw[show((Nat.beq 0 0)&&((Nat.beq (List.length (Ha q)) 2)&&(Nat.beq 2 2)))=true by rfl,ct,show((Nat.beq 0 0)&&((Nat.beq (List.length (Ha 0)) 2)&&(Nat.beq 2 2)))=true by rfl,ct,r0,cf]
 rfl
end
end Gx

namespace Gx
open Go Go.Proofs
section
variable {R:Type}
def lM (q:Rat):RatD:=⟨decide (q.num<0),.of (As q.num.natAbs) false false,.of (As q.den) false false⟩
def cq (q:Rat):LA:=(lM q).av
theorem rF (q:Rat):(lM q).can q:=⟨rfl,rfl,rfl⟩
theorem Aiy (q:Rat):(lM q).q=q:=(rF q).q
theorem Bbe (q:Rat):(lM q).ok:=(rF q).ok
theorem Bei (q:Rat):(lM q).m=qm q:=(rF q).m
theorem Aqz (q:Rat) (K:LA→O R):(cond ((Nat.beq 0 0)&&((Nat.beq (List.length (cq q)) 3)&&(Nat.beq 3 3))) (cond (Nat.ble 3 (List.length (cq q))) (K (List.take 3 (cq q))) none) none)=K (cq q):=rfl
theorem A5y (q:Rat):Nat.ble 2 (List.length (cq q))=true:=rfl
theorem Auc (q:Rat):List.take 2 (cq q)=Ha q.num:=rfl
theorem Bcw:cq 0=[(.bool false),(.imm [] 0 1 false false),(.imm [(.int .u32 1)] 1 1 false false)]:=by
 have e:cq 0=[.bool false,.imm (Ae (As 0)) (As 0).length 1 false false,.imm (Ae (As 1)) (As 1).length 1 false false]:=rfl
 rw[e,DK];rfl
theorem Aiz {N:Nat} {K:LA→O R}:OQ N K=K (cq 0):=by
 rw[ot];unfold t7
 rw[Bcw]
theorem Bhk {N:Nat} {z:Int} {o:Bool} {K:LA→O R} (k:fit (As z.natAbs).length N):CV N (Ha z) o K=K (Ha (-z)):=by
 have:=A9b (R:=R) (N:=N) (n:=decide (z<0)) (s:=.of (As z.natAbs) false false) (o:=o) (K:=K) (Ad _) k
 rw[Kj] at this;exact this
theorem Bgj {N:Nat} {z:Int} {o:Bool} {K:Int→O R} (k:fit (As z.natAbs).length N):FE N (Ha z) o K=K z.sign:=by
 have:=Aix (R:=R) (N:=N) (n:=decide (z<0)) (s:=.of (As z.natAbs) false false) (o:=o) (K:=K) (Ad _) k
 rw[Kj] at this;exact this
theorem Be7 {N:Nat} {z w:Int} {o o':Bool} {K:LA→O R} (k:fit ((As z.natAbs).length+(As w.natAbs).length) N):KS N (Ha z) o (Ha w) o' K=K (Ha (z*w)):=by
 have:=A3l (R:=R) (N:=N) (n1:=decide (z<0)) (s1:=.of (As z.natAbs) false false) (n2:=decide (w<0)) (s2:=.of (As w.natAbs) false false) (o1:=o) (o2:=o') (K:=K) (Ad _) (Ad _) k
 rw[Kj,Kj] at this;exact this
theorem Bhl {N:Nat} {z w:Int} {o o':Bool} {K:LA→O R} (k:fit ((As z.natAbs).length+(As w.natAbs).length+1) N):CU N (Ha z) o (Ha w) o' K=K (Ha (z+w)):=by
 have:=A3m (R:=R) (N:=N) (n1:=decide (z<0)) (s1:=.of (As z.natAbs) false false) (n2:=decide (w<0)) (s2:=.of (As w.natAbs) false false) (o1:=o) (o2:=o') (K:=K) (Ad _) (Ad _) k
 rw[Kj,Kj] at this;exact this
theorem Bbf (z:Int):mkRat z 1=(z:Rat):=by
 apply Rat.ext
 ·rw[Rat.num_mkRat,if_neg (by decide),Nat.gcd_one_left];simp
 ·rw[Rat.den_mkRat,if_neg (by decide),Nat.gcd_one_left];simp
theorem Bcx (z:Int) (w:Nat) (k:w≠0):(mkRat z w).num=z/((Nat.gcd z.natAbs w:Nat):Int)∧(mkRat z w).den=w/Nat.gcd z.natAbs w:=by
 refine⟨?_,?_⟩
 ·rw[Rat.num_mkRat,if_neg k,Nat.gcd_comm w]
 ·rw[Rat.den_mkRat,if_neg k,Nat.gcd_comm w]
theorem yY {N:Nat} {n1 n2:Bool} {s1 s2:LS} {o1 o2:Bool} {K:LA→O R} (L:Al s1.l) (F:Al s2.l) (Y:0≤A2 n2 s2) (C:fit (4*(s1.l.length+s2.l.length)+10) N):Rf N (Lg n1 s1) o1 (Lg n2 s2) o2 K=K (cq (mkRat (A2 n1 s1) (A2 n2 s2).natAbs)):=by
 have D:=C6 n2 s2
 have G:=C6 n1 s1
 rw[pI];unfold gw
 rw[n6,ct,Ane,Aix F (C.le (by omega))]
 by_cases h0:A2 n2 s2=0
 ·rw[h0,show((0:Int).sign==0)=true by rfl,ct,Aiz]
  rw[show(0:Int).natAbs=0 by rfl,Rat.mkRat_zero];exact Aqz _ _
 ·have hw:(A2 n2 s2).natAbs≠0:=by omega
  have M:((A2 n2 s2).sign==0)=false:=by rw[Int.sign_eq_one_of_pos (by omega)];rfl
  rw[M,cf,ct,n7 F (C.le (by omega)),show((Nat.beq 0 0)&&((Nat.beq (List.length (Ha (A2 n2 s2))) 2)&&(Nat.beq 2 2)))=true by rfl,ct]
  have rb:∀ (z:Int) (f:Bool→O R),ON (Ha z) f=f (decide (z<0)):=fun z f=>U9
  have rl:∀ (z:Int) (f:LA→Nat→O R),Co 1 (List.drop 1 (Ha z)) f=f (Ae (As z.natAbs)) (As z.natAbs).length:=fun z f=>Qz
  have l2:=(Bx F).2
  have l1:=(Bx L).2
  rw[rb,decide_eq_false (by omega),show((!false)==true)=true by rfl,ct,rl,Bbb,Ba6 (a:=As (A2 n2 s2).natAbs) (b:=[1]) (m:=1) rfl rfl (C.le (by rw[D];omega)),Ax7]
  by_cases k:(A2 n2 s2).natAbs=1
  ·rw[k,DK,show decide (([1]:List Nat)=[1])=true by decide,ct,n6,ct,Ane,n7 L (C.le (by omega)),rl,k,DK]
   rw[Bbf]
   have e2:cq ((A2 n1 s1:Int):Rat)=[.bool (decide (A2 n1 s1<0)),.imm (Ae (As (A2 n1 s1).natAbs)) (As (A2 n1 s1).natAbs).length 1 false false,.imm (Ae [1]) 1 1 false false]:=by
    unfold cq lM RatD.av LS.av
    rw[Rat.num_intCast,Rat.den_intCast,DK];rfl
   rw[e2];rfl
  ·have S:decide (As (A2 n2 s2).natAbs=[1])=false:=by
    rw[decide_eq_false_iff_not];intro hh
    have:=congrArg val hh
    rw[Ak] at this;simp[val] at this;omega
   rw[S,cf]
   unfold JJ
   have I:0<Nat.gcd (A2 n1 s1).natAbs (A2 n2 s2).natAbs:=Nat.gcd_pos_of_pos_right _ (by omega)
   have hgl:(As (Nat.gcd (A2 n1 s1).natAbs (A2 n2 s2).natAbs)).length≤s2.l.length:=Nat.le_trans (Cd (Nat.gcd_le_right _ (by omega))) (by rw[D];exact l2)
   have T:Nat.gcd (A2 n1 s1).natAbs (A2 n2 s2).natAbs∣val s1.l:=by rw[←G];exact Nat.gcd_dvd_left _ _
   have U:Nat.gcd (A2 n1 s1).natAbs (A2 n2 s2).natAbs∣val s2.l:=by rw[←D];exact Nat.gcd_dvd_right _ _
   obtain⟨q1,q2⟩:=Bcx (A2 n1 s1) (A2 n2 s2).natAbs hw
   rw[n6,ct,n6,ct,Ane,Ane,A9c L F (C.le (by omega))]
   generalize hgd:Nat.gcd (A2 n1 s1).natAbs (A2 n2 s2).natAbs=g at *
   rw[show((Nat.beq 0 0)&&((Nat.beq (List.length (Ha (g:Int))) 2)&&(Nat.beq 2 2)))=true by rfl,ct,ct,show Nat.ble 2 (List.length (Ha (g:Int)))=true by rfl,ct,Bh2,fJ L I T (C.le (by omega))]
   rw[show ∀ z:Int,((Nat.beq 0 0)&&((Nat.beq (List.length (Ha z)) 2)&&(Nat.beq 2 2)))=true from fun z=>rfl,ct,show((Nat.beq 0 0)&&((Nat.beq (List.length (Ha 0)) 2)&&(Nat.beq 2 2)))=true by rfl,ct,ct,fJ F I U (C.le (by omega))]
   have V:A2 n2 s2/(g:Int)=(((A2 n2 s2).natAbs/g:Nat):Int):=by
    rw[show A2 n2 s2=(((A2 n2 s2).natAbs:Nat):Int) by omega];rfl
   rw[show ∀ z:Int,((Nat.beq 0 0)&&((Nat.beq (List.length (Ha z)) 2)&&(Nat.beq 2 2)))=true from fun z=>rfl,ct,ct,rb,V,decide_eq_false (by omega),cf,show ∀ z:Int,Nat.ble 2 (List.length (Ha z))=true from fun z=>rfl,ct,rl,Int.natAbs_natCast,←q2]
   rw[←q1];rfl
theorem Bbg {N:Nat} {z w:Int} {o o':Bool} {K:LA→O R} (k:0≤w) (C:fit (4*((As z.natAbs).length+(As w.natAbs).length)+10) N):Rf N (Ha z) o (Ha w) o' K=K (cq (mkRat z w.natAbs)):=by
 have:=yY (R:=R) (N:=N) (n1:=decide (z<0)) (s1:=.of (As z.natAbs) false false) (n2:=decide (w<0)) (s2:=.of (As w.natAbs) false false) (o1:=o) (o2:=o') (K:=K) (Ad _) (Ad _) (by rw[Kj];exact k) C
 rw[Kj,Kj] at this;exact this
theorem Zd {N:Nat} {x:RatD} {o:Bool} {K:LA→O R} (k:x.ok) (C:fit (8*x.m+10) N):U0 N x.av o K=K (cq x.q):=by
 have m1:x.ns.l.length≤x.m:=Nat.le_max_left _ _
 have m2:x.ds.l.length≤x.m:=Nat.le_max_right _ _
 rw[qM];unfold uV
 rw[show Nat.ble 2 (List.length x.av)=true by rfl,ct,Aiw,Beh,A89,yY (s2:=.of x.ds.l false o) k.1 k.2 (by unfold A2;simp) (C.le (show 4*(x.ns.l.length+x.ds.l.length)+10≤_ by omega))]
 have:mkRat (A2 x.neg x.ns) (A2 false (.of x.ds.l false o)).natAbs=x.q:=by rw[C6];rfl
 rw[this];exact Aqz _ _
theorem QK {N:Nat} {x:RatD} {o:Bool} {K:LA→O R} (k:x.ok) (C:fit (8*x.m+10) N):DA N x.av o K=K (Ha (x.q.den:Int)):=by
 rw[xq];unfold Agi
 rw[K4,ct,Ey,Zd k C]
 have:=Aiw (R:=R) (x:=lM x.q) (f:=fun e f=>K [(.bool false),(.imm e f 1 false false)])
 refine this.trans ?_
 unfold Ha;rw[decide_eq_false (by omega),Int.natAbs_natCast];rfl
theorem yZ (x:RatD) (k:x.ok):qm x.q≤x.m+1:=by
 have m1:x.ns.l.length≤x.m:=Nat.le_max_left _ _
 have m2:x.ds.l.length≤x.m:=Nat.le_max_right _ _
 unfold qm
 by_cases h:val x.ds.l=0
 ·have:x.q=0:=by unfold RatD.q;rw[h,Rat.mkRat_zero]
  rw[this,Rat.zero_num,Rat.zero_den,DK];simp[Eu]
 ·obtain⟨a1,_,a3⟩:=Aiv (A2 x.neg x.ns) (val x.ds.l) h
  have C:x.q.num.natAbs≤val x.ns.l:=by show(mkRat _ _).num.natAbs≤_;rw[a1,C6];exact Nat.div_le_self _ _
  have D:x.q.den≤val x.ds.l:=by show(mkRat _ _).den≤_;rw[a3];exact Nat.div_le_self _ _
  have c1:=Nat.le_trans (Cd C) (Bx k.1).2
  have F:=Nat.le_trans (Cd D) (Bx k.2).2
  omega
theorem Bej (z:Int) (d:Nat) (k:Nat) (C:z.natAbs<4294967296 ^ k) (D:d<4294967296 ^ k) (F:d≠0):qm (mkRat z d)≤k:=by
 obtain⟨a1,_,a3⟩:=Aiv z d F
 unfold qm
 have G:(mkRat z d).num.natAbs≤z.natAbs:=by rw[a1];exact Nat.div_le_self _ _
 have I:(mkRat z d).den≤d:=by rw[a3];exact Nat.div_le_self _ _
 have c1:=E5 (Nat.lt_of_le_of_lt G C)
 have L:=E5 (Nat.lt_of_le_of_lt I D)
 omega
theorem uk (q:Rat):q.num.natAbs<4294967296 ^ qm q:=Bbd (Nat.le_max_left _ _)
theorem fK (q:Rat):q.den<4294967296 ^ qm q:=Bbd (Nat.le_max_right _ _)
theorem Ma (a b:Rat):qm (a+b)≤qm a+qm b+1:=by
 rw[Rat.add_def']
 have da:((a.den:Nat):Int).natAbs<4294967296 ^ qm a:=by rw[Int.natAbs_natCast];exact fK a
 have db:((b.den:Nat):Int).natAbs<4294967296 ^ qm b:=by rw[Int.natAbs_natCast];exact fK b
 refine Bej _ _ _ ?_ ?_ (Nat.mul_ne_zero a.den_nz b.den_nz)
 ·refine rD (Pa (uk a) db) ?_
  have:=Pa (uk b) da
  rwa [Nat.add_comm (qm b)] at this
 ·rw[Nat.pow_succ,Nat.pow_add]
  have:=Nat.mul_lt_mul'' (fK a) (fK b)
  omega
theorem n8 (a b:Rat):qm (a*b)≤qm a+qm b:=by
 rw[Rat.mul_def']
 refine Bej _ _ _ (Pa (uk a) (uk b)) ?_ (Nat.mul_ne_zero a.den_nz b.den_nz)
 rw[Nat.pow_add];exact Nat.mul_lt_mul'' (fK a) (fK b)
theorem Bbh (a:Rat):qm (-a)=qm a:=by unfold qm;rw[Rat.neg_num,Rat.neg_den,Int.natAbs_neg]
theorem VT (a b:Rat):qm (a - b)≤qm a+qm b+1:=by rw[Rat.sub_eq_add_neg,←Bbh b];exact Ma _ _
theorem Be8 {v:Int} (h:v.natAbs<18446744073709551616):qm (v:Rat)≤2:=by
 unfold qm;rw[Rat.num_intCast,Rat.den_intCast,DK]
 have:=VM h
 simp;omega
theorem Bh3 {a:Int} {b:Nat}:mkRat a ((b:Int)).natAbs=mkRat a b:=by rw[Int.natAbs_natCast]
theorem A3n {N:Nat} {x:RatD} {o:Bool} {K:LA→O R} (C:x.ok) (k:fit (16*x.m+40) N):qO N x.av o K=K (cq (-x.q)):=by
 have hq:=yZ x C
 have D:(As x.q.num.natAbs).length≤qm x.q:=Nat.le_max_left _ _
 have F:(As x.q.den).length≤qm x.q:=Nat.le_max_right _ _
 rw[xt];unfold Ago
 rw[K4,ct,Ey,Zd C (k.le (by omega)),A5y,ct,Auc,Bhk (k.le (show(As x.q.num.natAbs).length≤_ by omega)),ct,QK C (k.le (by omega)),Bbg (by omega) (k.le (show 4*((As (-x.q.num).natAbs).length+(As ((x.q.den:Nat):Int).natAbs).length)+10≤_ by rw[Int.natAbs_neg,Int.natAbs_natCast];omega)),Bh3]
 have:mkRat (-x.q.num) x.q.den=-x.q:=by rw[←Rat.neg_mkRat,Rat.mkRat_self]
 rw[this];exact Aqz _ _
theorem Ai0 {N:Nat} {x y:RatD} {o o':Bool} {K:LA→O R} (D:x.ok) (F:y.ok) (C:fit (16*(x.m+y.m)+80) N):X4 N x.av o y.av o' K=K (cq (x.q+y.q)):=by
 have G:=yZ x D
 have I:=yZ y F
 have x1:=uk x.q
 have x2:((x.q.den:Nat):Int).natAbs<4294967296 ^ qm x.q:=by rw[Int.natAbs_natCast];exact fK _
 have y1:=uk y.q
 have y2:((y.q.den:Nat):Int).natAbs<4294967296 ^ qm y.q:=by rw[Int.natAbs_natCast];exact fK _
 have L1:=E5 x1
 have L2:=E5 x2
 have L3:=E5 y1
 have L4:=E5 y2
 have z1:=Pa x1 y2
 have z2:=Pa y1 x2
 have z3:=rD (k:=qm x.q+qm y.q) z1 (by rwa [Nat.add_comm])
 have z4:=Pa x2 y2
 have M1:=E5 z1
 have M2:=E5 z2
 have M3:=E5 z3
 have M4:=E5 z4
 rw[xz];unfold Ag1
 rw[K4,ct,Ey,Zd D (C.le (by omega)),K4,ct,Ey,Zd F (C.le (by omega)),show ∀ q,((Nat.beq 0 0)&&((Nat.beq (List.length (cq q)) 3)&&(Nat.beq 3 3)))=true from fun q=>rfl,ct,show ∀ q,((Nat.beq 0 0)&&((Nat.beq (List.length (cq q)) 3)&&(Nat.beq 3 3)))=true from fun q=>rfl,ct,A5y,ct,ct,QK F (C.le (by omega)),Auc,Be7 (C.le (show(As x.q.num.natAbs).length+(As ((y.q.den:Nat):Int).natAbs).length≤_ by omega)),A5y,ct,ct,QK D (C.le (by omega)),Auc,Be7 (C.le (show(As y.q.num.natAbs).length+(As ((x.q.den:Nat):Int).natAbs).length≤_ by omega)),Bhl (C.le (show(As (x.q.num*((y.q.den:Nat):Int)).natAbs).length+(As (y.q.num*((x.q.den:Nat):Int)).natAbs).length+1≤_ by omega)),ct,QK D (C.le (by omega)),ct,QK F (C.le (by omega)),Be7 (C.le (show(As ((x.q.den:Nat):Int).natAbs).length+(As ((y.q.den:Nat):Int).natAbs).length≤_ by omega)),Bbg (Int.mul_nonneg (by omega) (by omega)) (C.le (show 4*((As (x.q.num*((y.q.den:Nat):Int)+y.q.num*((x.q.den:Nat):Int)).natAbs).length+(As (((x.q.den:Nat):Int)*((y.q.den:Nat):Int)).natAbs).length)+10≤_ by omega))]
 have:mkRat (x.q.num*((y.q.den:Nat):Int)+y.q.num*((x.q.den:Nat):Int)) (((x.q.den:Nat):Int)*((y.q.den:Nat):Int)).natAbs=x.q+y.q:=by
  rw[Rat.add_def',Int.natAbs_mul,Int.natAbs_natCast,Int.natAbs_natCast]
 rw[this];exact Aqz _ _
theorem A3o {N:Nat} {x y:RatD} {o o':Bool} {K:LA→O R} (D:x.ok) (k:y.ok) (C:fit (16*(x.m+y.m)+100) N):qQ N x.av o y.av o' K=K (cq (x.q - y.q)):=by
 have F:=yZ y k
 rw[yB];unfold Ag7
 rw[K4,ct,K4,ct,Ey,Ey,A3n k (C.le (by omega))]
 have:=Ai0 (R:=R) (N:=N) (x:=x) (y:=lM (-y.q)) (o:=o) (o':=false) (K:=fun e=>(cond ((Nat.beq 0 0)&&((Nat.beq (List.length e) 3)&&(Nat.beq 3 3))) (cond (Nat.ble 3 (List.length e)) (K (List.take 3 e)) none) none)) D (Bbe _) (C.le (by rw[Bei,Bbh];omega))
 rw[Aiy,←Rat.sub_eq_add_neg] at this
 exact this.trans (Aqz _ _)
theorem y5 {N:Nat} {x:RatD} {o:Bool} {K:Int→O R} (k:x.ok) (C:fit (8*x.m+10) N):GP N x.av o K=K x.q.num.sign:=by
 have hq:=yZ x k
 have D:(As x.q.num.natAbs).length≤qm x.q:=Nat.le_max_left _ _
 rw[qS];unfold uW
 rw[K4,ct,Ey,Zd k C,A5y,ct,Auc,Bgj (C.le (show(As x.q.num.natAbs).length≤_ by omega))]
theorem Bbi (a b:Rat):(a - b).num.sign=HD a b:=by
 unfold HD
 by_cases h:a<b
 ·rw[if_pos h]
  have k:a - b<0:=by grind
  have:(a - b).num<0:=by
   apply Int.not_le.1;intro C
   exact absurd (Rat.num_nonneg.1 C) (Rat.not_le.2 k)
  exact Int.sign_eq_neg_one_of_neg this
 ·rw[if_neg h]
  by_cases C:b<a
  ·rw[if_pos C]
   have k:0<a - b:=by grind
   have F:0≤(a - b).num:=Rat.num_nonneg.2 (Rat.le_of_lt k)
   have G:(a - b).num≠0:=fun D=>by
    have:=Rat.num_eq_zero.1 D
    rw[this] at k;exact absurd k Rat.lt_irrefl
   exact Int.sign_eq_one_of_pos (by omega)
  ·rw[if_neg C]
   have:a=b:=Rat.le_antisymm (Rat.not_lt.1 C) (Rat.not_lt.1 h)
   rw[this,Rat.sub_self];rfl
theorem Ai1 {N:Nat} {x y:RatD} {o o':Bool} {K:Int→O R} (k:x.ok) (C:y.ok) (D:fit (16*(x.m+y.m)+100) N):Jf N x.av o y.av o' K=K (HD x.q y.q):=by
 have F:=yZ x k
 have G:=yZ y C
 have hs:=VT x.q y.q
 rw[YK];unfold UW
 rw[K4,ct,K4,ct,Ey,Ey,A3o k C D]
 have:=y5 (R:=R) (N:=N) (x:=lM (x.q - y.q)) (o:=false) (K:=fun g=>K g) (Bbe _) (D.le (by rw[Bei];omega))
 rw[Aiy,Bbi] at this
 exact this
theorem Ai2 {N:Nat} {v:Int} {K:LA→O R} (k:-9223372036854775808≤v∧v≤9223372036854775807) (hN:4000≤N):Fk N v K=K (cq (v:Rat)):=by
 have C:=VM (show v.natAbs<18446744073709551616 by omega)
 rw[XS];unfold TZ
 rw[lL k (by omega),lL (by omega) (by omega),Bbg (by omega) ⟨show 100*(4*((As v.natAbs).length+(As (1:Int).natAbs).length)+10)+1000≤N by (rw[show(1:Int).natAbs=1 by rfl,DK];simp;omega),show 4*((As v.natAbs).length+(As (1:Int).natAbs).length)+10≤1000000000 by (rw[show(1:Int).natAbs=1 by rfl,DK];simp;omega)⟩]
 have:mkRat v (1:Int).natAbs=(v:Rat):=Bbf v
 rw[this];exact Aqz _ _
end
end Gx

namespace Gx
open Go Go.Proofs
section
variable {R:Type}
theorem lN (x:RatD):List.take 3 x.av=x.av:=rfl
theorem b3 (x:RatD):Nat.ble 3 (List.length x.av)=true:=rfl
theorem c3 (x:RatD):((Nat.beq 0 0)&&((Nat.beq (List.length x.av) 3)&&(Nat.beq 3 3)))=true:=rfl
theorem c4 (x y:RatD):((Nat.beq (List.length x.av) 3)&&((Nat.ble 3 (List.length y.av))&&(!false)))=true:=rfl
theorem Bcy (x:RatD):((Nat.beq (List.length x.av) 3)&&(true&&(!false)))=true:=rfl
theorem Ai3 (x y:RatD):setCells x.av 0 y.av=y.av:=rfl
section
variable {N:Nat} {X:O R} {K:LA→O R} {x y:RatD} {o o':Bool} {p q:Rat}
theorem Ai4 (k:x.can p) (C:y.can q) (F:fit (8*(qm p+qm q)+40) N) (h:∀ d:RatD,d.can (p+q)→K d.av=X):N0 N x.av o y.av o' K=X:=by
 obtain⟨d,D,e⟩:=uj (R:=R) (N:=N) (o:=o) (o':=o') k.ok C.ok (by rw[k.m,C.m];exact F)
 rw[e];exact h d (by rw[k.q,C.q] at D;exact D)
theorem Be9 (k:x.can p) (C:y.can q) (F:fit (8*(qm p+qm q)+40) N) (h:∀ d:RatD,d.can (p - q)→K d.av=X):GO N x.av o y.av o' K=X:=by
 obtain⟨d,D,e⟩:=Aqx (R:=R) (N:=N) (o:=o) (o':=o') k.ok C.ok (by rw[k.m,C.m];exact F)
 rw[e];exact h d (by rw[k.q,C.q] at D;exact D)
theorem Bfa (k:x.can p) (C:y.can q) (F:fit (8*(qm p+qm q)+40) N) (h:∀ d:RatD,d.can (p*q)→K d.av=X):NI N x.av o y.av o' K=X:=by
 obtain⟨d,D,e⟩:=Aqy (R:=R) (N:=N) (o:=o) (o':=o') k.ok C.ok (by rw[k.m,C.m];exact F)
 rw[e];exact h d (by rw[k.q,C.q] at D;exact D)
theorem Bfb (k:x.can p) (C:y.can q) (F:fit (8*(qm p+qm q)+40) N) (h:∀ d:RatD,d.can (if p≤q then p else q)→K d.av=X):uU N x.av o y.av o' K=X:=by
 obtain⟨d,D,e⟩:=A9a (R:=R) (N:=N) (o:=o) (o':=o') k.ok C.ok (by rw[k.m,C.m];exact F)
 rw[e];exact h d (by rw[k.q,C.q] at D;exact D)
theorem Il {v:Int} (k:-9223372036854775808≤v∧v≤9223372036854775807) (hN:4≤N) (h:∀ d:RatD,d.can (v:Rat)→K d.av=X):B6 N v K=X:=by
 obtain⟨d,C,e⟩:=Anh (R:=R) (N:=N) k hN
 rw[e];exact h d C
end
theorem Bcz {q:Rat}:decide (q.num.sign≤0)=decide (q≤0):=by
 have e:q≤0↔q.num≤0:=by
  rw[Rat.le_iff_sub_nonneg,←Rat.num_nonneg,Rat.sub_eq_add_neg,Rat.zero_add,Rat.neg_num];omega
 rw[decide_eq_decide,e]
 rcases Int.lt_trichotomy q.num 0 with h | h | h
 ·rw[Int.sign_eq_neg_one_of_neg h];omega
 ·rw[h];simp
 ·rw[Int.sign_eq_one_of_pos h];omega
theorem qi {v:Int} (h:-9223372036854775808≤v∧v≤9223372036854775807):qm (v:Rat)≤2:=Be8 (by omega)
def Wa:Rat→List SegD→Rat
 | _,[]=>0
 | V3,s::r=>if V3≤0 then 0 else (s.price:Rat)*(if V3≤(s.width:Rat) then V3 else (s.width:Rat))+Wa (V3 - (if V3≤(s.width:Rat) then V3 else (s.width:Rat))) r
def Bgk (l:List SegD):Prop:=∀ s ∈ l,-1048576≤s.width∧s.width≤1048576∧-1048576≤s.price∧s.price≤1048576
theorem Bbj {N:Nat} {X:O R} {K:LA→O R} {v:Int} {x:RatD} {q:Rat} {o:Bool} (C:-9223372036854775808≤v∧v≤9223372036854775807) (F:x.can q) (D:fit (8*(2+qm q)+40) N) (h:∀ d:RatD,d.can ((v:Rat)*q)→K d.av=X):QA N v x.av o K=X:=by
 rw[UZ];unfold iJ
 refine Il C (by have:=D.1;omega) fun d G=>?_
 simp only[lN,b3,ct]
 refine Bfa G F (D.le (by have:=qi C;omega)) fun d' k=>?_
 simp only[lN,b3,c3,ct]
 exact h d' k
theorem Bc0 {N:Nat} {X:O R} {K:LA→O R} {l:List SegD} {d:Bool} {A:Nat} (hl:Bgk l) (h8:l.length≤8) (hA:2≤A) (G:fit (100*A+6000) N):∀ (m j fuel:Nat) (x y:RatD) (p q:Rat),j+m=l.length→m<fuel→x.can p→y.can q→qm p≤A+3*j→qm q≤2+j*(A+31) →
  (∀ d:RatD,d.can (q+Wa p (l.drop j))→K d.av=X)→E7 N K (l.flatMap SegD.av) l.length d fuel (l.length:Int) (j:Int) x.av y.av=X:=by
 intro m
 induction m with
 | zero =>
  intro j fuel x y p q hj S I L _ _ hX
  obtain⟨fuel,rfl⟩:∃ k,fuel=k+1:=⟨fuel - 1,by omega⟩
  rw[E7];unfold L6
  rw[Lm (by omega),cf]
  simp only[lN,b3,c3,ct]
  rw[Es (l:=l) (by omega)] at hX
  exact hX y (by rw[Wa,Rat.add_zero];exact L)
 | succ m ih =>
  intro j fuel x y p q hj S I L hp hq hX
  obtain⟨fuel,rfl⟩:∃ k,fuel=k+1:=⟨fuel - 1,by omega⟩
  rw[E7];unfold L6
  have h:j<l.length:=by omega
  have T:j≤8:=by omega
  have hr:=hl l[j] (List.getElem_mem h)
  have hjA:j*(A+31)≤8*(A+31):=Nat.mul_le_mul_right _ T
  rw[Jy h,ct,Aa h,ct,ua h]
  have p0:List.take 2 ((AV.int .i64 l[j].width)::(AV.int .i64 l[j].price)::(l.drop (j+1)).flatMap SegD.av)=[(.int .i64 l[j].width),(.int .i64 l[j].price)]:=rfl
  rw[p0,show Nat.ble 2 (List.length ((AV.int .i64 l[j].width)::(AV.int .i64 l[j].price)::(l.drop (j+1)).flatMap SegD.av))=true by simp,ct]
  rw[show((!d)||Ba [(AV.int .i64 l[j].width),(.int .i64 l[j].price)])=true by cases d<;>rfl,ct]
  rw[show((Nat.beq (List.length [(AV.int .i64 l[j].width),(.int .i64 l[j].price)]) 2)&&((Nat.ble 2 2)&&(!false)))=true from rfl,ct]
  simp only[lN,b3,c3,ct,Aii,iL]
  rw[L9 I.ok (G.le (by rw[I.m];omega)),I.q,Bcz]
  rw[Ci h,Wa] at hX
  by_cases D:p≤0
  ·rw[decide_eq_true D,ct]
   rw[if_pos D,Rat.add_zero] at hX
   exact hX y L
  ·rw[decide_eq_false D,cf]
   rw[if_neg D] at hX
   refine Il (by omega) (by have:=G.1;omega) fun wd U=>?_
   have hqw:=qi (v:=l[j].width) (by omega)
   have hqp:=qi (v:=l[j].price) (by omega)
   refine Bfb I U (G.le (by omega)) fun pd F=>?_
   simp only[lN,b3,c3,ct]
   generalize C:(if p≤(l[j].width:Rat) then p else (l[j].width:Rat))=part at F hX
   have M:qm part≤A+3*j:=by rw[←C];split<;>omega
   refine Bbj (by omega) F (G.le (by omega)) fun td V=>?_
   have hqt:qm ((l[j].price:Rat)*part)≤2+(A+3*j):=by have:=n8 (l[j].price:Rat) part;omega
   refine Ai4 L V (G.le (by omega)) fun ad Y=>?_
   rw[Bcy,ct]
   refine Be9 I F (G.le (by omega)) fun sd hsd=>?_
   rw[Bcy,ct,Ai3,Ai3]
   rw[wS (by omega)]
   have hqa:qm (q+(l[j].price:Rat)*part)≤2+(j+1)*(A+31):=by
    have:=Ma q ((l[j].price:Rat)*part)
    rw[Nat.add_mul];omega
   have hqs:qm (p - part)≤A+3*(j+1):=by
    rw[←C]
    split
    ·rw[Rat.sub_self]
     have:qm ((0:Int):Rat)≤2:=qi (by omega)
     have e:((0:Int):Rat)=0:=rfl
     rw[e] at this;omega
    ·have:=VT p (l[j].width:Rat);omega
   refine ih (j+1) fuel sd ad _ _ (by omega) (by omega) hsd Y hqs hqa fun d hd=>hX d ?_
   rw[←Rat.add_assoc];exact hd
def RatD.is (x:RatD) (q:Rat) (m:Nat):Prop:=x.ok∧x.q=q∧x.m≤m
theorem RatD.can.is {x:RatD} {q:Rat} {m:Nat} (h:x.can q) (k:qm q≤m):x.is q m:=⟨h.ok,h.q,by rw[h.m];exact k⟩
def i_:RatD:=⟨false,.nil,.nil⟩
theorem Sf {m:Nat}:i_.is 0 m:=by
 refine⟨⟨?_,?_⟩,?_,?_⟩
 ·intro x k;simp[i_,LS.l] at k
 ·intro x k;simp[i_,LS.l] at k
 ·simp[i_,RatD.q,LS.l,A2,val]
 ·simp[i_,RatD.m,LS.l]
theorem RatD.is.qm {x:RatD} {q:Rat} {m:Nat} (h:x.is q m):qm q≤m+1:=by
 have:=yZ x h.1
 rw[h.2.1] at this;have:=h.2.2;omega
section
variable {N:Nat} {X:O R} {K:LA→O R} {K':Int→O R} {x y:RatD} {o o':Bool} {p q:Rat} {m n:Nat}
theorem Aca (k:x.is p m) (C:y.is q n) (F:fit (8*(m+n)+40) N) (h:∀ d:RatD,d.can (p - q)→K d.av=X):GO N x.av o y.av o' K=X:=by
 obtain⟨d,D,e⟩:=Aqx (R:=R) (N:=N) (o:=o) (o':=o') k.1 C.1 (F.le (by have:=k.2.2;have:=C.2.2;omega))
 rw[e];exact h d (by rw[k.2.1,C.2.1] at D;exact D)
theorem A9d (k:x.is p m) (C:y.is q n) (D:fit (4*(m+n)+10) N):Fu N x.av o y.av o' K'=K' (HD p q):=by
 rw[NO k.1 C.1 (D.le (by have:=k.2.2;have:=C.2.2;omega)),k.2.1,C.2.1]
theorem Bc1 (k:x.is p m) (C:y.is q n) (D:fit (16*(m+n)+100) N):Jf N x.av o y.av o' K'=K' (HD p q):=by
 rw[Ai1 k.1 C.1 (D.le (by have:=k.2.2;have:=C.2.2;omega)),k.2.1,C.2.1]
theorem Bc2 (k:x.is p m) (C:y.is q n) (D:fit (16*(m+n)+80) N):X4 N x.av o y.av o' K=K (lM (p+q)).av:=by
 rw[Ai0 k.1 C.1 (D.le (by have:=k.2.2;have:=C.2.2;omega)),k.2.1,C.2.1];rfl
theorem Ai5 {v:Int} (k:-9223372036854775808≤v∧v≤9223372036854775807) (hN:4000≤N):Fk N v K=K (lM (v:Rat)).av:=Ai2 k hN
end
theorem Aq0 {q:Rat} {m:Nat} (h:qm q≤m):(lM q).is q m:=(rF q).is h
theorem Bgl {v:Int} (h:-9223372036854775808≤v∧v≤9223372036854775807):(lM (v:Rat)).is v 2:=Aq0 (qi h)
theorem Bbk {p q:Rat}:decide (HD p q≥0)=decide (q≤p):=by
 rw[decide_eq_decide];unfold HD
 by_cases h:p<q
 ·rw[if_pos h];simp[Rat.not_le.2 h]
 ·rw[if_neg h];have:=Rat.not_lt.1 h;simp only[this,iff_true];split<;>omega
theorem Bbl {p q:Rat}:decide (HD p q≤0)=decide (p≤q):=by rw[decide_eq_decide];exact Aub
def Bbm (p:Rat) (lo hi:Int):Bool:=decide ((lo:Rat)≤p)&&decide (p≤(hi:Rat))
theorem fL {N:Nat} {K:Bool→O R} {x:RatD} {p:Rat} {m:Nat} {o:Bool} {lo hi:Int} (k:x.is p m) (C:-9223372036854775808≤lo∧lo≤9223372036854775807) (D:-9223372036854775808≤hi∧hi≤9223372036854775807) (F:fit (4*(m+2)+10) N) (hN:4≤N):Xd N x.av o lo hi K=K (Bbm p lo hi):=by
 rw[kZ];unfold nT
 rw[b3,ct,lN]
 refine Il C hN fun a G=>?_
 rw[A9d k (G.is (qi C)) F,Bbk]
 refine(congrArg (cond _ · _) (Il (X:=K (decide (p≤(hi:Rat)))) D hN fun b I=>?_)).trans ?_
 ·rw[A9d k (I.is (qi D)) F,Bbl];rfl
 ·unfold Bbm;cases decide ((lo:Rat)≤p)<;>rfl
theorem Ai6 {N:Nat} {X:O R} {K:LA→O R} {u:UnitD} {x:RatD} {o o':Bool} {p:Rat} {m:Nat} (C:x.is p m) (F:Bgk u.segs.l) (G:u.segs.l.length≤8) (M:-1048576≤u.min∧u.min≤1048576) (k:fit (100*(m+8)+6000) N)
  (h:∀ d:RatD,d.can (Wa (p - (u.min:Rat)) u.segs.l)→K d.av=X):H6 N u.av o x.av o' K=X:=by
 rw[GQ];unfold Sc
 rw[b3,ct,lN,u2]
 refine Il (by omega) (by have:=k.1;omega) fun a I=>?_
 refine Aca C (I.is (qi (by omega))) (k.le (by omega)) fun r hr=>?_
 rw[c3,ct]
 refine Il (by omega) (by have:=k.1;omega) fun z L=>?_
 rw[c3,ct,u4]
 have hq:qm (p - (u.min:Rat))≤m+4:=by have:=VT p (u.min:Rat);have:=C.qm;have:=qi (v:=u.min) (by omega);omega
 refine Bc0 (A:=m+4) F G (by omega) (k.le (by omega)) u.segs.l.length 0 N r z (p - (u.min:Rat)) ((0:Int):Rat) (by omega) (by have:=k.1;omega) hr L (by omega) (by have:=qi (v:=0) (by omega);omega) fun d D=>?_
 exact h d (by rw[List.drop_zero,show(((0:Int):Rat))=0 from rfl,Rat.zero_add] at D;exact D)
end
end Gx

namespace Gx
open Go Go.Proofs
section
variable {R:Type}
theorem iO {u:UnitD} {h:Int} (k:De u h=true):(0≤u.min∧u.min≤1048576)∧(0≤u.max∧u.max≤1048576)∧u.min≤u.max:=by
 simp only[De,Bool.and_eq_true,Fq,decide_eq_true_eq] at k
 exact⟨k.2.2.1,k.2.2.2.1,k.2.2.2.2.2.2.2.1⟩
theorem Xg {u:UnitD} {h:Int} (k:De u h=true):u.segs.l.length≤8∧Gq (-1048576) u.segs.l=true∧bL u.segs.l=u.max - u.min:=by
 simp only[De,Bool.and_eq_true] at k
 have:=k.2.2.2.2.2.2.2.2.2.2.2.2.2.2.2.1
 simpa[lG] using this
theorem A5z:∀ {l:List SegD} {p:Int},Gq p l=true→(∀ s ∈ l,1≤s.width∧s.width≤1048576∧-1048576≤s.price∧s.price≤1048576)
 | [],_,_,_,hs=>by simp at hs
 | a::r,p,h,s,hs=>by
  simp only[Gq,Bool.and_eq_true,Fq,decide_eq_true_eq] at h
  rcases List.mem_cons.1 hs with rfl | hs
  ·omega
  ·exact A5z h.2.2.2 s hs
theorem QL {u:UnitD} {h:Int} (k:De u h=true):Bgk u.segs.l:=fun s hs=>by
 have:=A5z (Xg k).2.1 s hs;omega
def Bhm (u:UnitD) (p:Rat):Int:=cond (De u 24) (cond (Bbm p u.min u.max) 0 3) 1
def Bc3 (u:UnitD) (p:Rat):Rat:=cond (De u 24&&Bbm p u.min u.max) (Wa (p - (u.min:Rat)) u.segs.l) 0
theorem Ai7 {A:Nat}:∀ (l:List SegD) (p:Rat),Bgk l→2≤A→qm p≤A→qm (Wa p l)≤2+l.length*(A+3*l.length+31)
 | [],p,_,_,_=>by
  have:qm (0:Rat)≤2:=qi (v:=0) (by omega)
  rw[Wa];simpa using this
 | s::r,p,hs,hA,M=>by
  have hr:=hs s (by simp)
  have G:=qi (v:=s.width) (by omega)
  have I:=qi (v:=s.price) (by omega)
  have S:qm (0:Rat)≤2:=qi (v:=0) (by omega)
  rw[Wa]
  split
  ·omega
  ·generalize k:(if p≤(s.width:Rat) then p else (s.width:Rat))=part
   have D:qm part≤A:=by rw[←k];split<;>omega
   have C:qm (p - part)≤A+3:=by
    rw[←k];split
    ·rw[Rat.sub_self];omega
    ·have:=VT p (s.width:Rat);omega
   have L:=Ai7 (A:=A+3) r (p - part) (fun s F=>hs s (by simp[F])) (by omega) C
   have T:=n8 (s.price:Rat) part
   have U:=Ma ((s.price:Rat)*part) (Wa (p - part) r)
   rw[List.length_cons]
   have:A+3+3*r.length+31=A+3*(r.length+1)+31:=by omega
   rw[this] at L
   rw[Nat.add_mul];omega
theorem Bfc {u:UnitD} {p:Rat} {m:Nat} (D:qm p≤m+1):qm (Bc3 u p)≤8*m+800:=by
 have F:qm (0:Rat)≤2:=qi (v:=0) (by omega)
 unfold Bc3
 cases k:De u 24 with
 | false=>simp only[Bool.false_and,cond_false];omega
 | true =>
  cases Bbm p u.min u.max with
  | false=>simp only[Bool.and_false,cond_false];omega
  | true =>
   simp only[Bool.and_self,cond_true]
   have G:=iO k
   have C:=Xg k
   have hq:qm (p - (u.min:Rat))≤m+4:=by have:=VT p (u.min:Rat);have:=qi (v:=u.min) (by omega);omega
   have:=Ai7 (A:=m+4) u.segs.l _ (QL k) (by omega) hq
   have I:u.segs.l.length*(m+4+3*u.segs.l.length+31)≤8*(m+4+24+31):=Nat.mul_le_mul C.1 (by omega)
   omega
theorem Ai8 {N:Nat} {X:O R} {K:LA→Int→O R} {u:UnitD} {x:RatD} {o o':Bool} {p:Rat} {m:Nat} (C:x.is p m) (I:u.away.l.length≤1000) (D:fit (200*(m+8)+12000) N) (hN:4000≤N)
  (h:∀ d:RatD,d.is (Bc3 u p) (8*m+800)→K d.av (Bhm u p)=X):O1 N u.av o x.av o' K=X:=by
 rw[GS];unfold AI
 simp only[Du,B7,ct,b3,lN,u2,u3]
 rw[X7 (by omega) (by omega) (by omega)]
 unfold Bhm at h
 cases k:De u 24 with
 | false =>
  rw[k] at h
  exact h i_ (by unfold Bc3;rw[k];exact Sf)
 | true =>
  have L:=iO k
  have F:=Xg k
  rw[k] at h
  rw[show(!true)=false from rfl,cf,fL C (by omega) (by omega) (D.le (by omega)) (by omega)]
  cases hi:Bbm p u.min u.max with
  | false =>
   rw[hi] at h
   exact h i_ (by unfold Bc3;rw[k,hi];exact Sf)
  | true =>
   rw[hi] at h
   rw[show(!true)=false from rfl,cf]
   refine Ai6 C (QL k) F.1 (by omega) (D.le (by omega)) fun d G=>?_
   rw[c3,ct,lN,b3,ct]
   have e:Bc3 u p=Wa (p - (u.min:Rat)) u.segs.l:=by unfold Bc3;rw[k,hi];rfl
   exact h d ((e▸G:d.can (Bc3 u p)).is (Bfc C.qm))
end
end Gx

namespace Gx
open Go Go.Proofs
section
variable {R:Type}
def Ay5 (p:Rat):Int→Bool→Rat→List SegD→Bool×Rat
 | _,b,q,[]=>(b,q)
 | a,b,q,s::r=>cond (decide (HD p (a:Rat)>0)&&decide (HD p ((a+s.width:Int):Rat)≤0)) (Ay5 p (a+s.width) true (s.price:Rat) r) (Ay5 p (a+s.width) b q r)
def Anj (p:Rat):Int→Bool→Rat→List SegD→Bool×Rat
 | _,b,q,[]=>(b,q)
 | a,b,q,s::r=>cond (decide (HD p (a:Rat)≥0)&&decide (HD p ((a+s.width:Int):Rat)<0)) (Anj p (a+s.width) true (s.price:Rat) r) (Anj p (a+s.width) b q r)
theorem Bc4 {N:Nat} {X:O R} {K:LA→LA→Bool→Bool→O R} {l:List SegD} {d:Bool} {x:RatD} {o:Bool} {p:Rat} {m:Nat} (hx:x.is p m) (hl:Bgk l) (h8:l.length≤8) (hf:fit (4*(m+2)+10) N) (hN:4000≤N):∀ (k j fuel:Nat) (a:Int) (bl bh:Bool) (ql qh:Rat) (xl xh:RatD),j+k=l.length→k<fuel→(-1048576*((j:Int)+1)≤a∧a≤1048576*((j:Int)+1))→xl.is ql 2→xh.is qh 2 →
  (∀ (y z:RatD),y.is (Ay5 p a bl ql (l.drop j)).2 2→z.is (Anj p a bh qh (l.drop j)).2 2→K y.av z.av (Ay5 p a bl ql (l.drop j)).1 (Anj p a bh qh (l.drop j)).1=X) →
  Gi N K (l.flatMap SegD.av) l.length d o x.av fuel bl bh a (l.length:Int) (j:Int) xl.av xh.av=X:=by
 intro k
 induction k with
 | zero =>
  intro j fuel a bl bh ql qh xl xh hj T ha L M hX
  obtain⟨fuel,rfl⟩:∃ k,fuel=k+1:=⟨fuel - 1,by omega⟩
  rw[Gi];unfold Sd
  rw[Lm (by omega),cf]
  rw[Es (l:=l) (by omega)] at hX
  exact hX xl xh L M
 | succ k ih =>
  intro j fuel a bl bh ql qh xl xh hj T ha L M hX
  obtain⟨fuel,rfl⟩:∃ k,fuel=k+1:=⟨fuel - 1,by omega⟩
  rw[Gi];unfold Sd
  have h:j<l.length:=by omega
  have hr:=hl l[j] (List.getElem_mem h)
  rw[Jy h,ct,Aa h,ct,ua h]
  have p0:List.take 2 ((AV.int .i64 l[j].width)::(AV.int .i64 l[j].price)::(l.drop (j+1)).flatMap SegD.av)=[(.int .i64 l[j].width),(.int .i64 l[j].price)]:=rfl
  rw[p0,show Nat.ble 2 (List.length ((AV.int .i64 l[j].width)::(AV.int .i64 l[j].price)::(l.drop (j+1)).flatMap SegD.av))=true by simp,ct]
  rw[show((!d)||Ba [(AV.int .i64 l[j].width),(.int .i64 l[j].price)])=true by cases d<;>rfl,ct]
  rw[show((Nat.beq (List.length [(AV.int .i64 l[j].width),(.int .i64 l[j].price)]) 2)&&((Nat.ble 2 2)&&(!false)))=true from rfl,ct]
  simp only[lN,b3,ct,Aii,iL]
  have e1:IntKind.wrap .i64 (a+l[j].width)=a+l[j].width:=i64 (by omega)
  rw[e1]
  refine Il (by omega) (by omega) fun f1 U=>?_
  rw[A9d hx (U.is (qi (by omega))) hf]
  refine Il (by omega) (by omega) fun f2 V=>?_
  rw[A9d hx (V.is (qi (by omega))) hf]
  rw[Ci h] at hX
  simp only[Ay5,Anj] at hX
  generalize hA:HD p (a:Rat)=A at hX ⊢
  generalize hB:HD p ((a+l[j].width:Int):Rat)=B at hX ⊢
  have second:∀ (D:Bool) (F:Rat) (G:RatD),G.is F 2 →
    (∀ (y z:RatD),y.is (Ay5 p (a+l[j].width) D F (l.drop (j+1))).2 2→z.is (cond (decide (A≥0)&&decide (B<0)) (Anj p (a+l[j].width) true (l[j].price:Rat) (l.drop (j+1))) (Anj p (a+l[j].width) bh qh (l.drop (j+1)))).2 2→K y.av z.av (Ay5 p (a+l[j].width) D F (l.drop (j+1))).1 (cond (decide (A≥0)&&decide (B<0)) (Anj p (a+l[j].width) true (l[j].price:Rat) (l.drop (j+1))) (Anj p (a+l[j].width) bh qh (l.drop (j+1)))).1=X) →
    O2 N (Gi N K (l.flatMap SegD.av) l.length d o x.av fuel) K bh A B (l.flatMap SegD.av) l.length d (l.length:Int) (j:Int) o x.av xh.av D (a+l[j].width) G.av (setCells [(.int .i64 0),(.int .i64 0)] 0 [(.int .i64 l[j].width),(.int .i64 l[j].price)])=X:=by
   intro D F G I hX'
   unfold O2
   rw[iL,wS (by omega)]
   cases C:(decide (A≥0)&&decide (B<0)) with
   | true =>
    rw[C] at hX'
    simp only[Bool.and_eq_true] at C
    rw[C.1,C.2]
    refine Il (by omega) (by omega) fun f3 S=>?_
    rw[c4,ct,Ai3]
    exact ih (j+1) fuel _ _ _ _ _ _ _ (by omega) (by omega) (by omega) I (S.is (qi (by omega))) hX'
   | false =>
    rw[C] at hX'
    have go:=ih (j+1) fuel (a+l[j].width) D bh F qh G xh (by omega) (by omega) (by omega) I M hX'
    rw[go]
    cases Y:decide (A≥0) with
    | false=>rfl
    | true =>
     rw[Y,Bool.true_and] at C
     rw[C];rfl
  cases C:(decide (A>0)&&decide (B≤0)) with
  | true =>
   rw[C] at hX
   simp only[Bool.and_eq_true] at C
   rw[C.1,C.2]
   refine Il (by omega) (by omega) fun f3 S=>?_
   rw[Bcy,ct,Ai3]
   exact second true _ f3 (S.is (qi (by omega))) hX
  | false =>
   rw[C] at hX
   rw[second bl ql xl L hX]
   cases Y:decide (A>0) with
   | false=>rfl
   | true =>
    rw[Y,Bool.true_and] at C
    rw[C];rfl
def Bhn (u:UnitD) (p:Rat):Bool:=De u 24&&Bbm p u.min u.max
def Bg5 (u:UnitD) (p:Rat):Bool×Rat:=cond (Bhn u p) (Ay5 p u.min false 0 u.segs.l) (false,0)
def Bg6 (u:UnitD) (p:Rat):Bool×Rat:=cond (Bhn u p) (Anj p u.min false 0 u.segs.l) (false,0)
theorem Ay6 {N:Nat} {X:O R} {K:LA→LA→Bool→Bool→O R} {u:UnitD} {x:RatD} {o o':Bool} {p:Rat} {m:Nat} (C:x.is p m) (G:u.away.l.length≤1000) (D:fit (200*(m+8)+12000) N) (hN:4000≤N)
  (h:∀ y z:RatD,y.is (Bg5 u p).2 2→z.is (Bg6 u p).2 2→K y.av z.av (Bg5 u p).1 (Bg6 u p).1=X):Tz N u.av o x.av o' K=X:=by
 rw[YM];unfold DB
 simp only[Du,B7,ct,b3,lN,u2,u3]
 rw[X7 (by omega) (by omega) (by omega)]
 unfold Bg5 Bg6 Bhn at h
 cases k:De u 24 with
 | false =>
  rw[k] at h
  exact h i_ i_ Sf Sf
 | true =>
  have I:=iO k
  have F:=Xg k
  rw[k,Bool.true_and] at h
  rw[show((!true)==false)=true from rfl,ct,fL C (by omega) (by omega) (D.le (by omega)) (by omega)]
  cases hi:Bbm p u.min u.max with
  | false =>
   rw[hi] at h
   exact h i_ i_ Sf Sf
  | true =>
   rw[hi] at h
   rw[show(cond false true (!true))=false from rfl,cf]
   unfold U4 AJ
   rw[u2,u4]
   exact Bc4 C (QL k) F.1 (D.le (by omega)) hN u.segs.l.length 0 N u.min false false 0 0 i_ i_ (by omega) (by omega) (by omega) Sf Sf h
end
end Gx

namespace Gx
open Go Go.Proofs
set_option maxRecDepth 100000
section
variable {R:Type}
def Bf3:UnitD:={ name:=[],bus:=0,min:=10,max:=40,segs:=.of [⟨20,3⟩,⟨10,5⟩] false false,noLoad:=0,rampUp:=5,rampDown:=10,startRamp:=15,stopRamp:=15,upTime:=0,downTime:=0,startTime:=0,hotCost:=0,coldCost:=0,hotHours:=0,reserve:=0,reservePrice:=0,away:=.nil,state:=2,hours:=1,output:=12 }
theorem Bc5 {N:Nat} {K:LA→O R}:Rn N K=K Bf3.av:=by rw[J_];rfl
def Awe:LA:=[.int .i64 2,.int .i64 1]
def Bbn:LA:=[.int .i64 0,.int .i64 1]
def Bbo:LA:=[.int .i64 2,.int .i64 2,.int .i64 0]
theorem Bc6 {n:Nat} {o:Bool} {K:LA→O R}:U_ (n+64) Bf3.av o K=K []:=by rw[eO];kernel_rfl
theorem rG {n:Nat} {o:Bool} {K:Bool→O R}:Oy (n+64) Bf3.av o K=K true:=by
 rw[Ns (by omega)];rfl
theorem Aud {n:Nat} {o:Bool} {K:Int→Int→O R}:LD (n+64) Bf3.av o K=K 1 1:=by
 rw[eP];unfold qf
 rw[Du,ct,B7,rG];kernel_rfl
theorem Bc7 {n:Nat} {o:Bool} {K:LA→O R}:Te (n+64) Bf3.av o K=K Awe:=by
 rw[GW];unfold LE
 simp only[Du,ct,B7,rG,Aud];kernel_rfl
theorem Bfd {n:Nat} {o o':Bool} {K:Int→O R}:Ln (n+64) Bf3.av o Awe o' K=K 1:=by
 rw[AL];unfold U5 O3 Se
 simp only[Du,ct,B7,rG,Aud];kernel_rfl
theorem Aue {n:Nat} {o:Bool} {K:LA→Nat→O R}:U6 (n+64) Bf3.av o Awe false K=K (Bbn++Awe) 2:=by
 rw[eY];unfold eX
 rw[show List.take 2 Awe=Awe from rfl]
 simp only[Du,ct,B7,Bfd,Aud];kernel_rfl
theorem Bbp {N:Nat} {k h v:Int} {o:Bool} {K:Bool→O R}:L7 N [.int .i64 k,.int .i64 h] o v K=K (k==v):=by
 rw[G_];rfl
theorem A50 {n:Nat} {a:Bool} {K:Int→O R}:Aq (n+64) (Bbn++Awe) 2 a false 2 K=K 1:=by
 rw[Bg]
 change L7 _ Bbn _ _ _=_
 rw[Bbn,Bbp]
 change L7 _ Awe _ _ _=_
 rw[Awe,Bbp];rfl
theorem Bc8 {n:Nat} {a:Bool} {K:Int→O R}:Aq (n+64) (Bbn++Awe) 2 a false 0 K=K 0:=by
 rw[Bg]
 change L7 _ Bbn _ _ _=_
 rw[Bbn,Bbp];rfl
theorem Bc9 {n:Nat} {o a b:Bool} {K:Nat→Int→Int→LA→O R}:DC (n+64) Bf3.av o Bbo 3 a b K=K 3 3 0 (Awe++Awe++Bbn):=by
 rw[ee];unfold e_
 simp only[Du,ct,B7,rG,Bc6,Bc7]
 change U6 _ Bf3.av _ Awe _ _=_
 rw[Aue]
 change Aq _ (Bbn++Awe) 2 _ _ _ _=_
 rw[A50]
 change U6 _ Bf3.av _ Awe _ _=_
 rw[Aue]
 change Aq _ (Bbn++Awe) 2 _ _ _ _=_
 rw[A50]
 change U6 _ Bf3.av _ Awe _ _=_
 rw[Aue]
 change Aq _ (Bbn++Awe) 2 _ _ _ _=_
 rw[Bc8]
 kernel_rfl
theorem Bfe {n:Nat} {o a b:Bool} {K:Nat→LA→O R}:Xe (n+64) Bf3.av o 3 Bbo 3 a b K=K 3 [.int .i64 10,.int .i64 17,.int .i64 10,.int .i64 22,.int .i64 0,.int .i64 0]:=by
 rw[eh];kernel_rfl
theorem Bff {n:Nat} {o a b:Bool} {K:LA→O R}:T0 (n+64) Bf3.av o 3 Bbo 3 a b [.int .i64 10,.int .i64 17,.int .i64 10,.int .i64 22,.int .i64 0,.int .i64 0] K=K [.int .i64 10,.int .i64 17,.int .i64 10,.int .i64 15,.int .i64 0,.int .i64 0]:=by
 rw[YQ];kernel_rfl
theorem Bfg {n:Nat} {o a b:Bool} {K:Nat→Int→LA→O R}:T1 (n+64) Bf3.av o 3 Bbo 3 a b K=K 3 0 [.int .i64 10,.int .i64 17,.int .i64 10,.int .i64 15,.int .i64 0,.int .i64 0]:=by
 rw[YT];unfold DD
 rw[Du,ct,B7,X7 (by omega) (by decide) (by simp[Bf3,Sl.l]),show De Bf3 3=true from rfl]
 rw[Bc9]
 unfold U8 AM
 rw[Du,ct,B7,Bfe,Bff]
 kernel_rfl
theorem rH (q:Rat):HD q q=0:=by
 unfold HD
 rw[if_neg (Rat.lt_irrefl),if_neg (Rat.lt_irrefl)]
theorem Ai9 {N:Nat} {K:Bool→O R} (k:fit 100000 N):Jh N K=K true:=by
 have hN:4000≤N:=by have:=k.1;omega
 obtain⟨n,rfl⟩:∃ n,N=n+64:=⟨N - 64,by omega⟩
 rw[YV];unfold VD
 rw[Bc5,show((Nat.beq 0 0)&&((Nat.beq (List.length Bf3.av) 22)&&(Nat.beq 22 22)))=true from rfl,ct,Du,ct,B7,Ai5 (by omega) hN]
 refine Ai8 (m:=2) (Bgl (by omega)) (by decide) (k.le (by omega)) hN fun d C=>?_
 rw[show Bhm Bf3 ((35:Int):Rat)=0 by kernel_rfl]
 rw[show Bc3 Bf3 ((35:Int):Rat)=((85:Int):Rat) by kernel_rfl] at C
 rw[c3,ct,ct,Ai5 (by omega) hN]
 refine Ay6 (m:=2) (Bgl (by omega)) (by decide) (k.le (by omega)) hN fun y z D F=>?_
 rw[show Bg5 Bf3 ((30:Int):Rat)=(true,((3:Int):Rat)) by kernel_rfl] at D ⊢
 rw[show Bg6 Bf3 ((30:Int):Rat)=(true,((5:Int):Rat)) by kernel_rfl] at F ⊢
 rw[c3,ct,c3,ct,ct]
 rw[show [(AV.int .i64 2),(.int .i64 2),(.int .i64 0)]=Bbo from rfl,Bfg,b3,ct,lN,Ai5 (by omega) hN,Bc1 C (Bgl (by omega)) (k.le (by omega)),rH]
 rw[b3,lN,Ai5 (by omega) hN,Bc1 D (Bgl (by omega)) (k.le (by omega)),rH]
 rw[b3,lN,Ai5 (by omega) hN,Bc1 F (Bgl (by omega)) (k.le (by omega)),rH]
 rfl
end
end Gx

namespace Gx
open Go Go.Proofs
open IntKind (wrap)
set_option maxRecDepth 100000
noncomputable section
variable {R:Type} (N:Nat)
def Auf (N:Nat) (b:LA) (c:Nat) (d e:Bool) (r0:O R):O R :=
 r0
def Aug:=(Af (@Auf R)).1
theorem Aja:@Aug R=@Auf R:=(Af _).2
def Aq1 (b:LA) (c:Nat) (d e:Bool) (F:KF R):O R:=F (op 0) (hq [⟨false,false,false,false,0,[(.imm b c 1 d e),(iv 0)],false⟩])
theorem Aq2 (b:LA) (c:Nat) (d e:Bool) (F:KF R):Cm [] Dr N 105 [(.imm b c 1 d e)] [] F=(Aug N b c d e (Aq1 b c d e F)):=by
 rw[Aja]
 kernel_rfl
def Ajb (a:LA) (h:Am) (k:KF R):O R :=
 match a,h with
 | [(.imm b c 1 d e)],[]=>(Aug N b c d e (Aq1 b c d e k))
 | _,_=>none
theorem Aq3:Ao N 105 @Ajb:=by
 intro R Q a h k j;unfold Ajb;split;exact Ay (Aq2 ..) (Aq2 ..) trivial;exact A0
def A9e:=Az (Aq3 N)
def A9f:=Cj (Aq3 N)
def Auh (N:Nat) (c b:Int) (r0:Int→O R):O R :=
 (cond ((wrap .u64 b)==0) none (r0 (wrap .i64 (Int.tmod (wrap .u64 c) (wrap .u64 b)))))
def Aui:=(Af (@Auh R)).1
theorem Ajc:@Aui R=@Auh R:=(Af _).2
def Aq4 (F:KF R):Int→O R:=(fun d=>F (iv d) [])
theorem Aq5 (c b:Int) (F:KF R):Cm [] Dr N 150 [(iv c),(iv b)] [] F=(Aui N c b (Aq4 F)):=by
 rw[Ajc]
 kernel_rfl
def Ajd (a:LA) (h:Am) (k:KF R):O R :=
 match a,h with
 | [(.int .i64 c),(.int .i64 b)],[]=>(Aui N c b (Aq4 k))
 | _,_=>none
theorem Aq6:Ao N 150 @Ajd:=by
 intro R Q a h k j;unfold Ajd;split;exact Ay (Aq5 ..) (Aq5 ..) trivial;exact A0
def A9g:=Az (Aq6 N)
def A9h:=Cj (Aq6 N)
def X9 (g:Int) (c:LA) (b:Nat) (e f:Bool) (d:Int) (r0:Int→Int→O R):O R :=
 (cond (decide (d≥((b:Nat):Int))) (r0 0 d) (cond (Ac (wrap .i64 ((wrap .i64 (d+1)) - 1)) b) (An .i64 (c.drop (((wrap .i64 ((wrap .i64 (d+1)) - 1)).toNat)*1)) fun i=>(Aui N i g (fun l=>(r0 l (wrap .i64 (d+1)))))) none))
def Ag:=(Af (@X9 R)).1
theorem Xh:@Ag R=@X9 R:=(Af _).2
def Aje:Ef:=[(150,A9g N)]
def ZA (c:LA) (b:Nat) (e f:Bool) (F:KF R):Int→Int→O R:=(fun m n=>F (iv m) [(100000,⟨false,false,false,false,0,[(.imm c b 1 e f),(iv n)],false⟩)])
theorem ZB (g:Int) (c:LA) (b:Nat) (e f:Bool) (d:Int) (F:KF R):Cm (Aje N) Dr N 106 [(.optr 100000 0),(iv g)] [(100000,⟨false,false,false,false,0,[(.imm c b 1 e f),(iv d)],false⟩)] F=(Ag N g c b e f d (ZA c b e f F)):=by
 rw[Xh]
 kernel_rfl
def QM (a:LA) (h:Am) (k:KF R):O R :=
 match a,h with
 | [(.optr 100000 0),(.int .i64 g)],[(100000,⟨false,false,false,false,0,[(.imm c b 1 e f),(.int .i64 d)],false⟩)]=>(Ag N g c b e f d (ZA c b e f k))
 | _,_=>none
theorem ZC:Ao N 106 @QM:=by
 intro R Q a h k j;unfold QM;split;exact Ay (ZB ..) (ZB ..) ⟨A9h N,trivial⟩;exact A0
def I5:=Az (ZC N)
def I6:=Cj (ZC N)
def Of (r0:Nat→Int→LA→O R) (f g:Int) (b:LA) (c:Nat) (d e:Bool) (k0:Nat→Int→Int→LA→O R) (i:Nat) (l m:Int) (o:LA):O R :=
 (cond (decide (l<f)) (Ag N g b c d e m (fun q r=>(cond ((Nat.ble (i+1) 140737488355328)&&(Nat.ble ((i+1)*8) 140737488355328)) (k0 (i+1) (wrap .i64 (l+1)) r ((o.take (i*1))++[(.int .i64 q)])) none))) (r0 i m o))
def F0 (r0:Nat→Int→LA→O R) (f g:Int) (b:LA) (c:Nat) (d e:Bool):Nat→Nat→Int→Int→LA→O R
 | 0,_,_,_,_=>none
 | n+1,i,l,m,o=>(Of N r0 f g b c d e (F0 r0 f g b c d e n) i l m o)
def Va (N:Nat) (r0:Nat→Int→LA→O R) (q0:Nat→Int→Int→LA→O R) (f g:Int) (b:LA) (c:Nat) (d e:Bool) (p:Int):O R :=
 (q0 0 0 p [])
def E3:=(Af (fun (N:Nat) (f g:Int) (b:LA) (c:Nat) (d e:Bool) (p:Int) (r0:Nat→Int→LA→O R)=>(Va N r0 (fun i l m o=>(F0 N r0 f g b c d e N i l m o)) f g b c d e p))).1
theorem LL (f g b c d e p r0):(@E3 R N f g b c d e p r0)=(Va N r0 (fun i l m o=>(F0 N r0 f g b c d e N i l m o)) f g b c d e p):=by rw[E3,(Af _).2]
def QN:Hints:={ H:=(hS hL (hS hL (hS (hS hL (hS (hP [0,1,2,7,8] hL) hL)) hL))),nils:=[(6,1),(7,1)],modes:=[(2,1)] }
def ZD:Ef:=[(106,I5 N)]
def um (F:KF R):=Ja Tryz.f107 QN (ZD N) [100000] N F
def K5 (b:LA) (c:Nat) (d e:Bool) (F:KF R):Nat→Int→LA→O R:=(fun s t u=>F (.own 300000 0 s) [(100000,⟨false,false,false,false,0,[(.imm b c 1 d e),(iv t)],false⟩),(300000,(bQ 1 u))])
def un (f g:Int) (b:LA) (c:Nat) (d e:Bool) (i:Nat) (l m:Int) (o:LA):St:=⟨[(0,(.optr 100000 0)),(1,(iv f)),(2,(iv g)),(7,(.own 300000 0 i)),(8,(iv l))],[(100000,⟨false,false,false,false,0,[(.imm b c 1 d e),(iv m)],false⟩),(300000,(bQ 1 o))]⟩
def uo (F:KF R):=um N F [1,1,0,1,0] []
theorem BJ (F:KF R) (f g:Int) (b:LA) (c:Nat) (d e:Bool):∀ (n i:Nat) (l m:Int) (o:LA),Ap (uo N F) n (un f g b c d e i l m o)=(F0 N (K5 b c d e F) f g b c d e n i l m o)
 | 0,_,_,_,_=>by kernel_rfl
 | n+1,i,l,m,o=>Eq.trans (by kernel_rfl) (Bn (Of N (K5 b c d e F) f g b c d e · i l m o) (funext fun i=>funext fun l=>funext fun m=>funext fun o=>(BJ F f g b c d e n i l m o)):_)
theorem QO (f g:Int) (b:LA) (c:Nat) (d e:Bool) (p:Int) (F:KF R):Cm (ZD N) QN N 107 [(.optr 100000 0),(iv f),(iv g)] [(100000,⟨false,false,false,false,0,[(.imm b c 1 d e),(iv p)],false⟩)] F=(E3 N f g b c d e p (K5 b c d e F)):=by
 rw[LL]
 exact Eq.trans (by kernel_rfl) (Bn (Va N (K5 b c d e F) · f g b c d e p) (funext fun i=>funext fun l=>funext fun m=>funext fun o=>(Aj ..).trans (BJ N F f g b c d e N i l m o)):_)
def LM (a:LA) (h:Am) (k:KF R):O R :=
 match a,h with
 | [(.optr 100000 0),(.int .i64 f),(.int .i64 g)],[(100000,⟨false,false,false,false,0,[(.imm b c 1 d e),(.int .i64 p)],false⟩)]=>(E3 N f g b c d e p (K5 b c d e k))
 | _,_=>none
theorem QP:Ao N 107 @LM:=by
 intro R Q a h k j;unfold LM;split;exact Ay (QO ..) (QO ..) ⟨I6 N,trivial⟩;exact A0
def uq:=Az (QP N)
def ur:=Cj (QP N)
def Ajf (N:Nat) (c:List UInt8) (b:Int) (r0:List UInt8→O R):O R :=
 (cond ((decide (0≤(Int.tmod b 16)))&&((decide ((Int.tmod b 16)≤(wrap .i64 ((Int.tmod b 16)+1))))&&((decide ((wrap .i64 ((Int.tmod b 16)+1))≤16))&&(decide ((16:Int)≤(16:Int)))))) (cond (Nat.ble ((c.length)+(List.length (List.take (((wrap .i64 ((Int.tmod b 16)+1)).toNat) - ((Int.tmod b 16).toNat)) (List.drop ((Int.tmod b 16).toNat) ([48,49,50,51,52,53,54,55,56,57,97,98,99,100,101,102]:List UInt8))))) 140737488355328) (r0 (c++(List.take (((wrap .i64 ((Int.tmod b 16)+1)).toNat) - ((Int.tmod b 16).toNat)) (List.drop ((Int.tmod b 16).toNat) ([48,49,50,51,52,53,54,55,56,57,97,98,99,100,101,102]:List UInt8))))) none) none)
def LN:=(Af (@Ajf R)).1
theorem y7:@LN R=@Ajf R:=(Af _).2
def Ajg (F:KF R):List UInt8→O R:=(fun d=>F (.str d) [])
theorem Ajh (c:List UInt8) (b:Int) (F:KF R):Cm [] Dr N 108 [(.str c),(iv b)] [] F=(LN N c b (Ajg F)):=by
 rw[y7]
 kernel_rfl
def y9 (a:LA) (h:Am) (k:KF R):O R :=
 match a,h with
 | [(.str c),(.int .i64 b)],[]=>(LN N c b (Ajg k))
 | _,_=>none
theorem Aji:Ao N 108 @y9:=by
 intro R Q a h k j;unfold y9;split;exact Ay (Ajh ..) (Ajh ..) trivial;exact A0
def VU:=Az (Aji N)
def VV:=Cj (Aji N)
def Ya (f:Int) (b:LA) (c:Nat) (d e:Bool) (g:Int) (r0:Nat→Int→LA→O R):O R :=
 (Ag N 6 b c d e g (fun l i=>(cond (l==5) (Ag N f b c d e i (fun m n=>(r0 1 n [(.int .i64 m)]))) (r0 0 i []))))
def Mb:=(Af (@Ya R)).1
theorem Xi:@Mb R=@Ya R:=(Af _).2
def Aav:Hints:={ H:=hL,nils:=[(4,1)],modes:=[(2,1)] }
def Ajj:Ef:=[(106,I5 N)]
def ZE (b:LA) (c:Nat) (d e:Bool) (F:KF R):Nat→Int→LA→O R:=(fun o p q=>F (.own 300000 0 o) [(100000,⟨false,false,false,false,0,[(.imm b c 1 d e),(iv p)],false⟩),(300000,(bQ 1 q))])
theorem ZF (f:Int) (b:LA) (c:Nat) (d e:Bool) (g:Int) (F:KF R):Cm (Ajj N) Aav N 151 [(.optr 100000 0),(iv f)] [(100000,⟨false,false,false,false,0,[(.imm b c 1 d e),(iv g)],false⟩)] F=(Mb N f b c d e g (ZE b c d e F)):=by
 rw[Xi]
 kernel_rfl
def QQ (a:LA) (h:Am) (k:KF R):O R :=
 match a,h with
 | [(.optr 100000 0),(.int .i64 f)],[(100000,⟨false,false,false,false,0,[(.imm b c 1 d e),(.int .i64 g)],false⟩)]=>(Mb N f b c d e g (ZE b c d e k))
 | _,_=>none
theorem ZG:Ao N 151 @QQ:=by
 intro R Q a h k j;unfold QQ;split;exact Ay (ZF ..) (ZF ..) ⟨I6 N,trivial⟩;exact A0
def ZH:=Az (ZG N)
def ZI:=Cj (ZG N)
def Yb (l f g i:Int) (b:LA) (c:Nat) (d e:Bool) (m:Int) (r0:LA→Int→O R):O R :=
 (LN N ([108]:List UInt8) l (fun o=>(Ag N 4 b c d e m (fun p v=>(Ag N 2 b c d e v (fun q w=>(Ag N 40 b c d e w (fun n x=>(Ag N 20 b c d e x (fun r y=>(Ag N 5 b c d e y (fun z s=>(cond (z==4) (Ag N 4 b c d e s (fun aa ab=>(Ag N 2 b c d e ab (fun ac ad=>(Ag N 4 b c d e ad (fun ae af=>(Mb N i b c d e af (fun t ag ah=>(r0 [(.str o),(.int .i64 f),(.int .i64 g),(.int .i64 (wrap .i64 (1+p))),(.int .i64 (wrap .i64 (1+q))),(.int .i64 (wrap .i64 ((0:Int) - aa))),(.int .i64 (wrap .i64 (1+ac))),(.int .i64 ae),(.int .i64 1),(.int .i64 (wrap .i64 (4+n))),(.int .i64 (wrap .i64 ((wrap .i64 (4+n))+r))),(.imm (ah.take (t*1)) t 1 false false)] ag))))))))) (Mb N i b c d e s (fun u ai aj=>(r0 [(.str o),(.int .i64 f),(.int .i64 g),(.int .i64 (wrap .i64 (1+p))),(.int .i64 (wrap .i64 (1+q))),(.int .i64 0),(.int .i64 1),(.int .i64 0),(.int .i64 1),(.int .i64 (wrap .i64 (4+n))),(.int .i64 (wrap .i64 ((wrap .i64 (4+n))+r))),(.imm (aj.take (u*1)) u 1 false false)] ai))))))))))))))))
def Qi:=(Af (@Yb R)).1
theorem Xj:@Qi R=@Yb R:=(Af _).2
def Aaw:Hints:={ H:=hL,modes:=[(3,0)],cob:=[28] }
def Ajk:Ef:=[(108,VU N),(106,I5 N),(151,ZH N)]
def ZJ (b:LA) (c:Nat) (d e:Bool) (F:KF R):LA→Int→O R:=(fun ak al=>F (.pagg ak false) [(100000,⟨false,false,false,false,0,[(.imm b c 1 d e),(iv al)],false⟩)])
theorem ZK (l f g i:Int) (b:LA) (c:Nat) (d e:Bool) (m:Int) (F:KF R):Cm (Ajk N) Aaw N 109 [(.optr 100000 0),(iv l),(iv f),(iv g),(iv i)] [(100000,⟨false,false,false,false,0,[(.imm b c 1 d e),(iv m)],false⟩)] F=(Qi N l f g i b c d e m (ZJ b c d e F)):=by
 rw[Xj]
 kernel_rfl
def QR (a:LA) (h:Am) (k:KF R):O R :=
 match a,h with
 | [(.optr 100000 0),(.int .i64 l),(.int .i64 f),(.int .i64 g),(.int .i64 i)],[(100000,⟨false,false,false,false,0,[(.imm b c 1 d e),(.int .i64 m)],false⟩)]=>(Qi N l f g i b c d e m (ZJ b c d e k))
 | _,_=>none
theorem ZL:Ao N 109 @QR:=by
 intro R Q a h k j;unfold QR;split;exact Ay (ZK ..) (ZK ..) ⟨VV N,I6 N,ZI N,trivial⟩;exact A0
def Aax:=Az (ZL N)
def Aay:=Cj (ZL N)
def Nh (r0:LA→Int→O R) (b:LA) (c:Nat) (d e:Bool) (y:Int) (l:List UInt8) (m f i:Int) (g:Nat) (o z aa ab ac x u ad ae af:Int) (v:Nat) (w:Int) (p ag:LA) (ah ai aj ak:Int):O R :=
 (cond (w==2) (Ag N (wrap .i64 ((wrap .i64 (i - f))+1)) b c d e y (fun av aw=>(r0 [(.str l),(.int .i64 m),(.int .i64 f),(.int .i64 i),(.imm (p.take (g*2)) g 2 false false),(.int .i64 o),(.int .i64 z),(.int .i64 aa),(.int .i64 ah),(.int .i64 ai),(.int .i64 ab),(.int .i64 ac),(.int .i64 x),(.int .i64 u),(.int .i64 aj),(.int .i64 ad),(.int .i64 ae),(.int .i64 af),(.imm (ag.take (v*1)) v 1 false false),(.int .i64 w),(.int .i64 ak),(.int .i64 (wrap .i64 (f+av)))] aw))) (r0 [(.str l),(.int .i64 m),(.int .i64 f),(.int .i64 i),(.imm (p.take (g*2)) g 2 false false),(.int .i64 o),(.int .i64 z),(.int .i64 aa),(.int .i64 ah),(.int .i64 ai),(.int .i64 ab),(.int .i64 ac),(.int .i64 x),(.int .i64 u),(.int .i64 aj),(.int .i64 ad),(.int .i64 ae),(.int .i64 af),(.imm (ag.take (v*1)) v 1 false false),(.int .i64 w),(.int .i64 ak),(.int .i64 0)] y))
def Qj (r0:LA→Int→O R) (q:Int) (b:LA) (c:Nat) (d e:Bool) (l:List UInt8) (m f o:Int) (k0:Int→Int→Int→Int→Nat→LA→O R) (q1:Int→Int→Int→Int→Int→Int→Int→Int→Int→Int→Nat→Int→LA→Int→Int→Int→Int→O R) (r s t i:Int) (g:Nat) (p:LA):O R :=
 (cond (decide (s>0)) (Ag N 15 b c d e t (fun ao ax=>(cond ((Nat.ble (g+1) 140737488355328)&&(Nat.ble ((g+1)*16) 140737488355328)) (Ag N 10 b c d e ax (fun ay az=>(k0 (wrap .i64 (r+ay)) (wrap .i64 (s - 1)) az (wrap .i64 (i+(wrap .i64 (1+ao)))) (g+1) ((p.take (g*2))++[(.int .i64 (wrap .i64 (1+ao))),(.int .i64 r)])))) none))) (Ag N 20 b c d e t (fun z ba=>(Ag N 20 b c d e ba (fun aa bb=>(Ag N (wrap .i64 ((wrap .i64 (i - f))+1)) b c d e bb (fun ap bc=>(Ag N (wrap .i64 ((wrap .i64 (i - f))+1)) b c d e bc (fun aq bd=>(Ag N 3 b c d e bd (fun ab be=>(Ag N 3 b c d e be (fun ac bf=>(Ag N 2 b c d e bf (fun x bg=>(Ag N 30 b c d e bg (fun u bh=>(Ag N 30 b c d e bh (fun ar bi=>(Ag N 4 b c d e bi (fun ad bj=>(Ag N 8 b c d e bj (fun ae bk=>(Ag N 4 b c d e bk (fun af bl=>(Mb N q b c d e bl (fun v bm ag=>(Ag N (wrap .i64 (2+x)) b c d e bm (fun au bn=>(cond (Ac au 3) (An .i64 (List.drop (0+((au.toNat)*1)) [(.int .i64 0),(.int .i64 2),(.int .i64 1)]) fun w=>(Ag N 4 b c d e bn (fun bo y=>(cond (w==1) (q1 y z aa ab ac x u ad ae af v w ag (wrap .i64 (f+ap)) (wrap .i64 (f+aq)) (wrap .i64 (u+ar)) 1) (q1 y z aa ab ac x u ad ae af v w ag (wrap .i64 (f+ap)) (wrap .i64 (f+aq)) (wrap .i64 (u+ar)) (wrap .i64 (1+bo))))))) none))))))))))))))))))))))))))))))
def Fo (r0:LA→Int→O R) (q:Int) (b:LA) (c:Nat) (d e:Bool) (l:List UInt8) (m f o:Int):Nat→Int→Int→Int→Int→Nat→LA→O R
 | 0,_,_,_,_,_,_=>none
 | n+1,r,s,t,i,g,p=>(Qj N r0 q b c d e l m f o (Fo r0 q b c d e l m f o n) (fun y z aa ab ac x u ad ae af v w ag ah ai aj ak=>(Nh N r0 b c d e y l m f i g o z aa ab ac x u ad ae af v w p ag ah ai aj ak)) r s t i g p)
def Yc (r0:LA→Int→O R) (q0:List UInt8→Int→Int→Int→Int→Int→Int→Int→Nat→LA→O R) (al am q:Int) (b:LA) (c:Nat) (d e:Bool) (an:Int):O R :=
 (LN N ([117]:List UInt8) al (fun l=>(Ag N am b c d e an (fun m bp=>(Ag N 8 b c d e bp (fun f bq=>(Ag N 20 b c d e bq (fun o br=>(Ag N 20 b c d e br (fun bs bt=>(Ag N 2 b c d e bt (fun bu bv=>(q0 l m f o (wrap .i64 (bs - 2)) (wrap .i64 (1+bu)) bv f 0 [])))))))))))))
def Qk:=(Af (fun (N:Nat) (al am q:Int) (b:LA) (c:Nat) (d e:Bool) (an:Int) (r0:LA→Int→O R)=>(Yc N r0 (fun l m f o r s t i g p=>(Fo N r0 q b c d e l m f o N r s t i g p)) al am q b c d e an))).1
theorem QS (al am q b c d e an r0):(@Qk R N al am q b c d e an r0)=(Yc N r0 (fun l m f o r s t i g p=>(Fo N r0 q b c d e l m f o N r s t i g p)) al am q b c d e an):=by rw[Qk,(Af _).2]
def ZM:Hints:={ H:=(hS hL (hS hL (hS hL (hS hL (hS (hS hL (hS (hP [0,3,8,9,10,11] hL) hL)) (hS hL (hS hL (hS hL (hS hL (hS hL (hS hL (hS hL (hS hL (hJ [0,8,9] hL hL)))))))))))))),modes:=[(3,0)],cob:=[22] }
def fM:Ef:=[(108,VU N),(106,I5 N),(151,ZH N)]
def ZN (F:KF R):=Ja Tryz.f110 ZM (fM N) [100000] N F
def I7 (b:LA) (c:Nat) (d e:Bool) (F:KF R):LA→Int→O R:=(fun bw bx=>F (.pagg bw false) [(100000,⟨false,false,false,false,0,[(.imm b c 1 d e),(iv bx)],false⟩)])
def Aaz (b:LA) (c:Nat) (d e:Bool) (y:Int) (l:List UInt8) (m f i:Int) (g:Nat) (o z aa ab ac x u ad ae af:Int) (v:Nat) (w:Int) (p ag:LA) (ah ai aj ak:Int):St:=⟨[(0,(.optr 100000 0)),(8,(op 0)),(9,(op 1))],[(100000,⟨false,false,false,false,0,[(.imm b c 1 d e),(iv y)],false⟩),(300000,⟨false,false,false,false,0,[(.str ([]:List UInt8)),(iv 0),(iv 0),(iv 0),.nsl,(iv 0),(iv 0),(iv 0),(iv 0),(iv 0),(iv 0),(iv 0),(iv 0),(iv 0),(iv 0),(iv 0),(iv 0),(iv 0),.nsl,(iv 0),(iv 0),(iv 0)],false⟩),(300001,⟨false,false,false,false,0,[(.str l),(iv m),(iv f),(iv i),(.own 300002 0 g),(iv o),(iv z),(iv aa),(iv ah),(iv ai),(iv ab),(iv ac),(iv x),(iv u),(iv aj),(iv ad),(iv ae),(iv af),(.own 300003 0 v),(iv w),(iv ak),(iv 0)],false⟩),(300002,(bQ 2 p)),(300003,(bQ 1 ag))]⟩
def Aa0 (F:KF R):=ZN N F [1,1,1,1,1,1,1,1,1,1,1,1,1,1] []
def Aa1 (q:Int) (b:LA) (c:Nat) (d e:Bool) (l:List UInt8) (m f o r s t i:Int) (g:Nat) (p:LA):St:=⟨[(0,(.optr 100000 0)),(3,(iv q)),(8,(op 0)),(9,(op 1)),(10,(iv r)),(11,(iv s))],[(100000,⟨false,false,false,false,0,[(.imm b c 1 d e),(iv t)],false⟩),(300000,⟨false,false,false,false,0,[(.str ([]:List UInt8)),(iv 0),(iv 0),(iv 0),.nsl,(iv 0),(iv 0),(iv 0),(iv 0),(iv 0),(iv 0),(iv 0),(iv 0),(iv 0),(iv 0),(iv 0),(iv 0),(iv 0),.nsl,(iv 0),(iv 0),(iv 0)],false⟩),(300001,⟨false,false,false,false,0,[(.str l),(iv m),(iv f),(iv i),(.own 300002 0 g),(iv o),(iv 0),(iv 0),(iv 0),(iv 0),(iv 0),(iv 0),(iv 0),(iv 0),(iv 0),(iv 0),(iv 0),(iv 0),(.own 300003 0 0),(iv 0),(iv 0),(iv 0)],false⟩),(300002,(bQ 2 p)),(300003,(bQ 1 []))]⟩
def Aa2 (F:KF R):=ZN N F [1,1,1,1,0,1,0] []
theorem n9 (F:KF R) (b:LA) (c:Nat) (d e:Bool) (y:Int) (l:List UInt8) (m f i:Int) (g:Nat) (o z aa ab ac x u ad ae af:Int) (v:Nat) (w:Int) (p ag:LA):∀ (ah ai aj ak:Int),A8 (Aa0 N F) (Aaz b c d e y l m f i g o z aa ab ac x u ad ae af v w p ag ah ai aj ak)=(Nh N (I7 b c d e F) b c d e y l m f i g o z aa ab ac x u ad ae af v w p ag ah ai aj ak):=by
 intro ah ai aj ak
 kernel_rfl
theorem HE (F:KF R) (q:Int) (b:LA) (c:Nat) (d e:Bool) (l:List UInt8) (m f o:Int):∀ (n:Nat) (r s t i:Int) (g:Nat) (p:LA),Ap (Aa2 N F) n (Aa1 q b c d e l m f o r s t i g p)=(Fo N (I7 b c d e F) q b c d e l m f o n r s t i g p)
 | 0,_,_,_,_,_,_=>by kernel_rfl
 | n+1,r,s,t,i,g,p=>Eq.trans (by kernel_rfl) (cR (Qj N (I7 b c d e F) q b c d e l m f o · · r s t i g p) (funext fun r=>funext fun s=>funext fun t=>funext fun i=>funext fun g=>funext fun p=>(HE F q b c d e l m f o n r s t i g p)) (funext fun y=>funext fun z=>funext fun aa=>funext fun ab=>funext fun ac=>funext fun x=>funext fun u=>funext fun ad=>funext fun ae=>funext fun af=>funext fun v=>funext fun w=>funext fun ag=>funext fun ah=>funext fun ai=>funext fun aj=>funext fun ak=>(Ar ..).trans (n9 N F b c d e y l m f i g o z aa ab ac x u ad ae af v w p ag ah ai aj ak)):_)
theorem ZO (al am q:Int) (b:LA) (c:Nat) (d e:Bool) (an:Int) (F:KF R):Cm (fM N) ZM N 110 [(.optr 100000 0),(iv al),(iv am),(iv q)] [(100000,⟨false,false,false,false,0,[(.imm b c 1 d e),(iv an)],false⟩)] F=(Qk N al am q b c d e an (I7 b c d e F)):=by
 rw[QS]
 exact Eq.trans (by kernel_rfl) (Bn (Yc N (I7 b c d e F) · al am q b c d e an) (funext fun l=>funext fun m=>funext fun f=>funext fun o=>funext fun r=>funext fun s=>funext fun t=>funext fun i=>funext fun g=>funext fun p=>(Aj ..).trans (HE N F q b c d e l m f o N r s t i g p)):_)
def QT (a:LA) (h:Am) (k:KF R):O R :=
 match a,h with
 | [(.optr 100000 0),(.int .i64 al),(.int .i64 am),(.int .i64 q)],[(100000,⟨false,false,false,false,0,[(.imm b c 1 d e),(.int .i64 an)],false⟩)]=>(Qk N al am q b c d e an (I7 b c d e k))
 | _,_=>none
theorem ZP:Ao N 110 @QT:=by
 intro R Q a h k j;unfold QT;split;exact Ay (ZO ..) (ZO ..) ⟨VV N,I6 N,ZI N,trivial⟩;exact A0
def Aa3:=Az (ZP N)
def Aa4:=Cj (ZP N)
def Ib (r0:LA→Int→O R) (f:Int) (b:LA) (c:Nat) (d e:Bool) (g:List UInt8) (i:Nat) (l:LA) (k1:Int→Int→Nat→LA→O R) (o q:Int) (m:Nat) (p:LA):O R :=
 (cond (decide (o<f)) (Ag N 2 b c d e q (fun ab w=>(cond (ab==1) (Ag N 8 b c d e w (fun ac ad=>(Ag N 8 b c d e ad (fun ae af=>(cond ((Nat.ble (m+1) 140737488355328)&&(Nat.ble ((m+1)*24) 140737488355328)) (k1 (wrap .i64 (o+1)) af (m+1) ((p.take (m*3))++[(.int .i64 o),(.int .i64 ac),(.int .i64 ae)])) none))))) (k1 (wrap .i64 (o+1)) w m p)))) (r0 [(.str g),(.imm (l.take (i*1)) i 1 false false),(.bool true),(.imm (p.take (m*3)) m 3 false false)] q))
def Fb (r0:LA→Int→O R) (f:Int) (b:LA) (c:Nat) (d e:Bool) (g:List UInt8) (i:Nat) (l:LA):Nat→Int→Int→Nat→LA→O R
 | 0,_,_,_,_=>none
 | n+1,o,q,m,p=>(Ib N r0 f b c d e g i l (Fb r0 f b c d e g i l n) o q m p)
def Mc (r0:LA→Int→O R) (f:Int) (b:LA) (c:Nat) (d e:Bool) (g:List UInt8) (q1:Int→Int→Nat→LA→O R) (r:Int) (i:Nat) (l:LA):O R :=
 (Ag N 2 b c d e r (fun ag x=>(cond (ag==1) (q1 0 x 0 []) (r0 [(.str g),(.imm (l.take (i*1)) i 1 false false),(.bool false),(.imm [] 0 3 false false)] x))))
def Fc (r0:LA→Int→O R) (f:Int) (b:LA) (c:Nat) (d e:Bool) (g:List UInt8) (r:Int) (i:Nat) (l:LA):O R:=(Mc N r0 f b c d e g (fun o q m p=>(Fb N r0 f b c d e g i l N o q m p)) r i l)
def I8 (r0:LA→Int→O R) (q0:List UInt8→Int→Nat→LA→O R) (t s f:Int) (b:LA) (c:Nat) (d e:Bool) (u:Int):O R :=
 (LN N ([111]:List UInt8) t (fun g=>(Ag N s b c d e u (fun v ah=>(Ag N s b c d e ah (fun y z=>(cond ((decide (y>v))==true) (Ag N 3 b c d e z (fun ai aa=>(cond (cond true (ai==2) false) (q0 g aa 2 [(.int .i64 v),(.int .i64 y)]) (q0 g aa 1 [(.int .i64 v)])))) (q0 g z 1 [(.int .i64 v)]))))))))
def K6:=(Af (fun (N:Nat) (t s f:Int) (b:LA) (c:Nat) (d e:Bool) (u:Int) (r0:LA→Int→O R)=>(I8 N r0 (fun g r i l=>(Fc N r0 f b c d e g r i l)) t s f b c d e u))).1
theorem Md (t s f b c d e u r0):(@K6 R N t s f b c d e u r0)=(I8 N r0 (fun g r i l=>(Fc N r0 f b c d e g r i l)) t s f b c d e u):=by rw[K6,(Af _).2]
def LO:Hints:={ H:=(hS hL (hS hL (hJ [0,3,8,9] hL (hS (hS hL (hS (hS hL (hS hL (hS (hP [0,3,8,9,11] hL) hL))) hL)) hL)))),modes:=[(3,0)],cob:=[18] }
def QU:Ef:=[(108,VU N),(106,I5 N)]
def LP (F:KF R):=Ja Tryz.f111 LO (QU N) [100000] N F
def Fd (b:LA) (c:Nat) (d e:Bool) (F:KF R):LA→Int→O R:=(fun aj ak=>F (.pagg aj false) [(100000,⟨false,false,false,false,0,[(.imm b c 1 d e),(iv ak)],false⟩)])
def rI (f:Int) (b:LA) (c:Nat) (d e:Bool) (g:List UInt8) (i:Nat) (l:LA) (o q:Int) (m:Nat) (p:LA):St:=⟨[(0,(.optr 100000 0)),(3,(iv f)),(8,(op 0)),(9,(op 1)),(11,(iv o))],[(100000,⟨false,false,false,false,0,[(.imm b c 1 d e),(iv q)],false⟩),(300000,⟨false,false,false,false,0,[(.str ([]:List UInt8)),.nsl,(.bool false),.nsl],false⟩),(300001,⟨false,false,false,false,0,[(.str g),(.own 300002 0 i),(.bool true),(.own 300003 0 m)],false⟩),(300002,(bQ 1 l)),(300003,(bQ 3 p))]⟩
def rJ (F:KF R):=LP N F [1,1,1,0,1,0,1,1,0] []
def rK (f:Int) (b:LA) (c:Nat) (d e:Bool) (g:List UInt8) (r:Int) (i:Nat) (l:LA):St:=⟨[(0,(.optr 100000 0)),(3,(iv f)),(8,(op 0)),(9,(op 1))],[(100000,⟨false,false,false,false,0,[(.imm b c 1 d e),(iv r)],false⟩),(300000,⟨false,false,false,false,0,[(.str ([]:List UInt8)),.nsl,(.bool false),.nsl],false⟩),(300001,⟨false,false,false,false,0,[(.str g),(.own 300002 0 i),(.bool false),(.own 300003 0 0)],false⟩),(300002,(bQ 1 l)),(300003,(bQ 3 []))]⟩
def rL (F:KF R):=LP N F [1,1,1] []
theorem Ze (F:KF R) (f:Int) (b:LA) (c:Nat) (d e:Bool) (g:List UInt8) (i:Nat) (l:LA):∀ (n:Nat) (o q:Int) (m:Nat) (p:LA),Ap (rJ N F) n (rI f b c d e g i l o q m p)=(Fb N (Fd b c d e F) f b c d e g i l n o q m p)
 | 0,_,_,_,_=>by kernel_rfl
 | n+1,o,q,m,p=>Eq.trans (by kernel_rfl) (Bn (Ib N (Fd b c d e F) f b c d e g i l · o q m p) (funext fun o=>funext fun q=>funext fun m=>funext fun p=>(Ze F f b c d e g i l n o q m p)):_)
theorem fN (F:KF R) (f:Int) (b:LA) (c:Nat) (d e:Bool) (g:List UInt8):∀ (r:Int) (i:Nat) (l:LA),A8 (rL N F) (rK f b c d e g r i l)=(Fc N (Fd b c d e F) f b c d e g r i l):=by
 intro r i l
 exact Eq.trans (by kernel_rfl) (Bn (Mc N (Fd b c d e F) f b c d e g · r i l) (funext fun o=>funext fun q=>funext fun m=>funext fun p=>(Aj ..).trans (Ze N F f b c d e g i l N o q m p)):_)
theorem LQ (t s f:Int) (b:LA) (c:Nat) (d e:Bool) (u:Int) (F:KF R):Cm (QU N) LO N 111 [(.optr 100000 0),(iv t),(iv s),(iv f)] [(100000,⟨false,false,false,false,0,[(.imm b c 1 d e),(iv u)],false⟩)] F=(K6 N t s f b c d e u (Fd b c d e F)):=by
 rw[Md]
 exact Eq.trans (by kernel_rfl) (Bn (I8 N (Fd b c d e F) · t s f b c d e u) (funext fun g=>funext fun r=>funext fun i=>funext fun l=>(Ar ..).trans (fN N F f b c d e g r i l)):_)
def HF (a:LA) (h:Am) (k:KF R):O R :=
 match a,h with
 | [(.optr 100000 0),(.int .i64 t),(.int .i64 s),(.int .i64 f)],[(100000,⟨false,false,false,false,0,[(.imm b c 1 d e),(.int .i64 u)],false⟩)]=>(K6 N t s f b c d e u (Fd b c d e k))
 | _,_=>none
theorem LR:Ao N 111 @HF:=by
 intro R Q a h k j;unfold HF;split;exact Ay (LQ ..) (LQ ..) ⟨VV N,I6 N,trivial⟩;exact A0
def rM:=Az (LR N)
def rN:=Cj (LR N)
def Sg (N:Nat) (r0:Bool→O R) (d e:Int) (c:LA) (b:Nat) (f g:Bool) (k0:Int→O R) (i:Int):O R :=
 (cond (decide (i<((b:Nat):Int))) (cond (Ac i b) (An .i64 (c.drop ((i.toNat)*1)) fun l=>(cond ((decide (l<d))==false) (cond (Ac i b) (An .i64 (c.drop ((i.toNat)*1)) fun m=>(cond (cond false true (decide (m>e))) (r0 false) (k0 (wrap .i64 (i+1))))) none) (r0 false))) none) (r0 true))
def Ic (r0:Bool→O R) (d e:Int) (c:LA) (b:Nat) (f g:Bool):Nat→Int→O R
 | 0,_=>none
 | n+1,i=>(Sg N r0 d e c b f g (Ic r0 d e c b f g n) i)
def DL (N:Nat) (r0:Bool→O R) (q0:Int→O R) (d e:Int) (c:LA) (b:Nat) (f g:Bool):O R :=
 (q0 0)
def Aw:=(Af (fun (N:Nat) (d e:Int) (c:LA) (b:Nat) (f g:Bool) (r0:Bool→O R)=>(DL N r0 (fun i=>(Ic N r0 d e c b f g N i)) d e c b f g))).1
theorem ZQ (d e c b f g r0):(@Aw R N d e c b f g r0)=(DL N r0 (fun i=>(Ic N r0 d e c b f g N i)) d e c b f g):=by rw[Aw,(Af _).2]
def fO:Hints:={ H:=(hS hL (hS (hS hL (hS (hP [0,1,2,7] hL) hL)) hL)) }
def Ajl (F:KF R):=Ja Tryz.f156 fO [] [] N F
def Pb (F:KF R):Bool→O R:=(fun o=>F (.bool o) [])
def Ajm (d e:Int) (c:LA) (b:Nat) (f g:Bool) (i:Int):St:=⟨[(0,(iv d)),(1,(iv e)),(2,(.imm c b 1 f g)),(7,(iv i))],[]⟩
def Ajn (F:KF R):=Ajl N F [1,0,1,0] []
theorem LT (F:KF R) (d e:Int) (c:LA) (b:Nat) (f g:Bool):∀ (n:Nat) (i:Int),Ap (Ajn N F) n (Ajm d e c b f g i)=(Ic N (Pb F) d e c b f g n i)
 | 0,_=>by kernel_rfl
 | n+1,i=>Eq.trans (by kernel_rfl) (Bn (Sg N (Pb F) d e c b f g · i) (funext fun i=>(LT F d e c b f g n i)):_)
theorem fP (d e:Int) (c:LA) (b:Nat) (f g:Bool) (F:KF R):Cm [] fO N 156 [(iv d),(iv e),(.imm c b 1 f g)] [] F=(Aw N d e c b f g (Pb F)):=by
 rw[ZQ]
 exact Eq.trans (by kernel_rfl) (Bn (DL N (Pb F) · d e c b f g) (funext fun i=>(Aj ..).trans (LT N F d e c b f g N i)):_)
def ZR (a:LA) (h:Am) (k:KF R):O R :=
 match a,h with
 | [(.int .i64 d),(.int .i64 e),(.imm c b 1 f g)],[]=>(Aw N d e c b f g (Pb k))
 | _,_=>none
theorem fQ:Ao N 156 @ZR:=by
 intro R Q a h k j;unfold ZR;split;exact Ay (fP ..) (fP ..) trivial;exact A0
def Dv:=Az (fQ N)
def Dw:=Cj (fQ N)
def Kk (N:Nat) (r0:LA→O R) (c d e f:Int) (b:LA) (g:Bool):O R :=
 (cond g (cond ((Nat.beq 3 3)&&((Nat.ble 3 (b.length))&&(!false))) (cond ((Nat.beq 1 1)&&((Nat.ble 4 ((C0 b 0 [(.int .i64 c),(.int .i64 d),(.int .i64 e)]).length))&&(!false))) (r0 ((C0 b 0 [(.int .i64 c),(.int .i64 d),(.int .i64 e)]).set 3 (.int .i64 f))) none) none) (r0 b))
def Og (N:Nat) (r0:LA→O R) (q0:Bool→O R) (i:Bool) (c d e f:Int) (b:LA):O R :=
 (An .i64 (b.drop 3) fun l=>(cond ((l==0)==true) (q0 (cond true (!i) false)) (q0 false)))
def Ab:=(Af (fun (N:Nat) (i:Bool) (c d e f:Int) (b:LA) (r0:LA→O R)=>(Og N r0 (fun g=>(Kk N r0 c d e f b g)) i c d e f b))).1
theorem Zf (i c d e f b r0):(@Ab R N i c d e f b r0)=(Og N r0 (fun g=>(Kk N r0 c d e f b g)) i c d e f b):=by rw[Ab,(Af _).2]
def BK:Hints:={ H:=(hJ [0,2,3,4,5,20] hL hL) }
def ia (F:KF R):=Ja Tryz.f155 BK [] [100000] N F
def Kl (F:KF R):LA→O R:=(fun m=>F (.tup []) [(100000,(bQ 0 m))])
def ib (c d e f:Int) (b:LA) (g:Bool):St:=⟨[(0,(.optr 100000 0)),(2,(iv c)),(3,(iv d)),(4,(iv e)),(5,(iv f)),(20,(.bool g))],[(100000,(bQ 0 b))]⟩
def ic (F:KF R):=ia N F [1] []
theorem VW (F:KF R) (c d e f:Int) (b:LA):∀ (g:Bool),A8 (ic N F) (ib c d e f b g)=(Kk N (Kl F) c d e f b g):=by
 intro g
 kernel_rfl
theorem BL (i:Bool) (c d e f:Int) (b:LA) (F:KF R):Cm [] BK N 155 [(.optr 100000 0),(.bool i),(iv c),(iv d),(iv e),(iv f)] [(100000,(bQ 0 b))] F=(Ab N i c d e f b (Kl F)):=by
 rw[Zf]
 exact Eq.trans (by kernel_rfl) (Bn (Og N (Kl F) · i c d e f b) (funext fun g=>(Ar ..).trans (VW N F c d e f b g)):_)
def Zg (a:LA) (h:Am) (k:KF R):O R :=
 match a,h with
 | [(.optr 100000 0),(.bool i),(.int .i64 c),(.int .i64 d),(.int .i64 e),(.int .i64 f)],[(100000,⟨false,false,true,false,0,b,false⟩)]=>(Ab N i c d e f b (Kl k))
 | _,_=>none
theorem BM:Ao N 155 @Zg:=by
 intro R Q a h k j;unfold Zg;split;exact Ay (BL ..) (BL ..) trivial;exact A0
def Bt:=Az (BM N)
def Bu:=Cj (BM N)
def Q4 (f:LA) (o:Bool) (g:LA) (b:Nat) (p i:Bool) (l m c d e:Int) (n:LA) (r0:LA→O R):O R :=
 (An .i64 f fun q=>(Ab N (((b:Nat):Int)==q) c d e 4 n (fun r=>(Aw N l m g b false i (fun s=>(Ab N s c d e 3 r (fun t=>(r0 t))))))))
def Cx:=(Af (@Q4 R)).1
theorem Vb:@Cx R=@Q4 R:=(Af _).2
def fR:Ef:=[(155,Bt N),(156,Dv N)]
def Wb (F:KF R):LA→O R:=(fun u=>F (.tup []) [(100000,(bQ 0 u))])
theorem Wc (f:LA) (o:Bool) (g:LA) (b:Nat) (p i:Bool) (l m c d e:Int) (n:LA) (F:KF R):Cm (fR N) Dr N 154 [(.optr 100000 0),(.pagg f o),(.imm g b 1 p i),(iv l),(iv m),(iv c),(iv d),(iv e)] [(100000,(bQ 0 n))] F=(Cx N f o g b p i l m c d e n (Wb F)):=by
 rw[Vb]
 kernel_rfl
def Vc (a:LA) (h:Am) (k:KF R):O R :=
 match a,h with
 | [(.optr 100000 0),(.pagg f o),(.imm g b 1 p i),(.int .i64 l),(.int .i64 m),(.int .i64 c),(.int .i64 d),(.int .i64 e)],[(100000,⟨false,false,true,false,0,n,false⟩)]=>(Cx N f o g b p i l m c d e n (Wb k))
 | _,_=>none
theorem Wd:Ao N 154 @Vc:=by
 intro R Q a h k j;unfold Vc;split;exact Ay (Wc ..) (Wc ..) ⟨Bu N,Dw N,trivial⟩;exact A0
def N1:=Az (Wd N)
def N2:=Cj (Wd N)
end
end Gx

namespace Gx
open Go Go.Proofs
open IntKind (wrap)
set_option maxRecDepth 100000
noncomputable section
variable {R:Type} (N:Nat)
def Yd (N:Nat) (r0:Nat→LA→O R) (c:Bool) (b:LA) (k0:Nat→Int→LA→O R) (d:Nat) (m:Int) (t:LA):O R :=
 (Co 3 (b.drop 2) fun bc aa=>(cond (decide (m<((aa:Nat):Int))) (Co 3 (b.drop 2) fun ab ac=>(cond (Ac m ac) (Awd (ab.drop ((m.toNat)*3)) fun ad=>(cond ((Nat.ble (d+1) 140737488355328)&&(Nat.ble ((d+1)*16) 140737488355328)) (k0 (d+1) (wrap .i64 (m+1)) ((t.take (d*1))++[(.str ad)])) none)) none)) (r0 d t)))
def Me (r0:Nat→LA→O R) (c:Bool) (b:LA):Nat→Nat→Int→LA→O R
 | 0,_,_,_=>none
 | n+1,d,m,t=>(Yd N r0 c b (Me r0 c b n) d m t)
def Ye (N:Nat) (r0:Nat→LA→O R) (c:Bool) (b:LA) (k1:Nat→Int→LA→O R) (e:Nat) (o:Int) (u:LA):O R :=
 (Co 12 (b.drop 3) fun bd ae=>(cond (decide (o<((ae:Nat):Int))) (Co 12 (b.drop 3) fun af ag=>(cond (Ac o ag) (Awd (af.drop ((o.toNat)*12)) fun ah=>(cond ((Nat.ble (e+1) 140737488355328)&&(Nat.ble ((e+1)*16) 140737488355328)) (k1 (e+1) (wrap .i64 (o+1)) ((u.take (e*1))++[(.str ah)])) none)) none)) (r0 e u)))
def Mf (r0:Nat→LA→O R) (c:Bool) (b:LA):Nat→Nat→Int→LA→O R
 | 0,_,_,_=>none
 | n+1,e,o,u=>(Ye N r0 c b (Mf r0 c b n) e o u)
def Yf (N:Nat) (r0:Nat→LA→O R) (c:Bool) (b:LA) (k2:Nat→Int→LA→O R) (f:Nat) (p:Int) (v:LA):O R :=
 (Co 22 (b.drop 4) fun be ai=>(cond (decide (p<((ai:Nat):Int))) (Co 22 (b.drop 4) fun aj ak=>(cond (Ac p ak) (Awd (aj.drop ((p.toNat)*22)) fun al=>(cond ((Nat.ble (f+1) 140737488355328)&&(Nat.ble ((f+1)*16) 140737488355328)) (k2 (f+1) (wrap .i64 (p+1)) ((v.take (f*1))++[(.str al)])) none)) none)) (r0 f v)))
def Mg (r0:Nat→LA→O R) (c:Bool) (b:LA):Nat→Nat→Int→LA→O R
 | 0,_,_,_=>none
 | n+1,f,p,v=>(Yf N r0 c b (Mg r0 c b n) f p v)
def Yg (N:Nat) (r0:Nat→LA→O R) (c:Bool) (b:LA) (k3:Nat→Int→LA→O R) (g:Nat) (q:Int) (w:LA):O R :=
 (Co 9 (b.drop 5) fun bf am=>(cond (decide (q<((am:Nat):Int))) (Co 9 (b.drop 5) fun an ao=>(cond (Ac q ao) (Awd (an.drop ((q.toNat)*9)) fun ap=>(cond ((Nat.ble (g+1) 140737488355328)&&(Nat.ble ((g+1)*16) 140737488355328)) (k3 (g+1) (wrap .i64 (q+1)) ((w.take (g*1))++[(.str ap)])) none)) none)) (r0 g w)))
def Mh (r0:Nat→LA→O R) (c:Bool) (b:LA):Nat→Nat→Int→LA→O R
 | 0,_,_,_=>none
 | n+1,g,q,w=>(Yg N r0 c b (Mh r0 c b n) g q w)
def Yh (N:Nat) (r0:Nat→LA→O R) (c:Bool) (b:LA) (k4:Nat→Int→LA→O R) (i:Nat) (r:Int) (x:LA):O R :=
 (Co 5 (b.drop 6) fun bg aq=>(cond (decide (r<((aq:Nat):Int))) (Co 5 (b.drop 6) fun ar au=>(cond (Ac r au) (Awd (ar.drop ((r.toNat)*5)) fun av=>(cond ((Nat.ble (i+1) 140737488355328)&&(Nat.ble ((i+1)*16) 140737488355328)) (k4 (i+1) (wrap .i64 (r+1)) ((x.take (i*1))++[(.str av)])) none)) none)) (r0 i x)))
def Mi (r0:Nat→LA→O R) (c:Bool) (b:LA):Nat→Nat→Int→LA→O R
 | 0,_,_,_=>none
 | n+1,i,r,x=>(Yh N r0 c b (Mi r0 c b n) i r x)
def Yi (N:Nat) (r0:Nat→LA→O R) (c:Bool) (b:LA) (k5:Nat→Int→LA→O R) (l:Nat) (s:Int) (y:LA):O R :=
 (Co 4 (b.drop 7) fun bh aw=>(cond (decide (s<((aw:Nat):Int))) (Co 4 (b.drop 7) fun ax ay=>(cond (Ac s ay) (Awd (ax.drop ((s.toNat)*4)) fun az=>(cond ((Nat.ble (l+1) 140737488355328)&&(Nat.ble ((l+1)*16) 140737488355328)) (k5 (l+1) (wrap .i64 (s+1)) ((y.take (l*1))++[(.str az)])) none)) none)) (r0 l y)))
def Mj (r0:Nat→LA→O R) (c:Bool) (b:LA):Nat→Nat→Int→LA→O R
 | 0,_,_,_=>none
 | n+1,l,s,y=>(Yi N r0 c b (Mj r0 c b n) l s y)
def Mk (N:Nat) (r0:Nat→LA→O R) (q0:Nat→Int→LA→O R) (q1:Nat→Int→LA→O R) (q2:Nat→Int→LA→O R) (q3:Nat→Int→LA→O R) (q4:Nat→Int→LA→O R) (q5:Nat→Int→LA→O R) (b:LA) (c:Bool) (z:Int):O R :=
 (cond (z==1) (q0 0 0 []) (cond (z==2) (q1 0 0 []) (cond (z==3) (q2 0 0 []) (cond (z==4) (q3 0 0 []) (cond (z==5) (q4 0 0 []) (cond (z==6) (q5 0 0 []) (r0 0 [])))))))
def Hk:=(Af (fun (N:Nat) (b:LA) (c:Bool) (z:Int) (r0:Nat→LA→O R)=>(Mk N r0 (fun d m t=>(Me N r0 c b N d m t)) (fun e o u=>(Mf N r0 c b N e o u)) (fun f p v=>(Mg N r0 c b N f p v)) (fun g q w=>(Mh N r0 c b N g q w)) (fun i r x=>(Mi N r0 c b N i r x)) (fun l s y=>(Mj N r0 c b N l s y)) b c z))).1
theorem J8 (b c z r0):(@Hk R N b c z r0)=(Mk N r0 (fun d m t=>(Me N r0 c b N d m t)) (fun e o u=>(Mf N r0 c b N e o u)) (fun f p v=>(Mg N r0 c b N f p v)) (fun g q w=>(Mh N r0 c b N g q w)) (fun i r x=>(Mi N r0 c b N i r x)) (fun l s y=>(Mj N r0 c b N l s y)) b c z):=by rw[Hk,(Af _).2]
def rO:Hints:={ H:=(hS hL (hS hL (hS (hS hL (hS (hS hL (hS (hS hL (hS (hP [2,5,6] hL) hL)) (hS hL (hS (hS hL (hS (hP [2,5,7] hL) hL)) (hS hL (hS (hS hL (hS (hP [2,5,8] hL) hL)) (hS hL (hS (hS hL (hS (hP [2,5,9] hL) hL)) (hS hL (hS (hS hL (hS (hP [2,5,10] hL) hL)) (hS hL (hS (hS hL (hS (hP [2,5,11] hL) hL)) hL)))))))))))) hL)) hL))),nils:=[(4,1),(5,1)],modes:=[(2,1)] }
def Ql (F:KF R):=Ja Tryz.f182 rO [] [] N F
def Cy (F:KF R):Nat→LA→O R:=(fun ba bb=>F (.own 300000 0 ba) (hq [(bQ 1 bb)]))
def Auj (c:Bool) (b:LA) (d:Nat) (m:Int) (t:LA):St:=⟨[(2,(op 0)),(5,(.own 300001 0 d)),(6,(iv m))],(hq [(bP c 0 b),(bQ 1 t)])⟩
def Auk (F:KF R):=Ql N F [1,1,0,1,0,1,0,1,0] []
def Aul (c:Bool) (b:LA) (e:Nat) (o:Int) (u:LA):St:=⟨[(2,(op 0)),(5,(.own 300001 0 e)),(7,(iv o))],(hq [(bP c 0 b),(bQ 1 u)])⟩
def Aum (F:KF R):=Ql N F [1,1,0,1,0,1,1,1,0,1,0] []
def Aun (c:Bool) (b:LA) (f:Nat) (p:Int) (v:LA):St:=⟨[(2,(op 0)),(5,(.own 300001 0 f)),(8,(iv p))],(hq [(bP c 0 b),(bQ 1 v)])⟩
def Auo (F:KF R):=Ql N F [1,1,0,1,0,1,1,1,1,1,0,1,0] []
def Aup (c:Bool) (b:LA) (g:Nat) (q:Int) (w:LA):St:=⟨[(2,(op 0)),(5,(.own 300001 0 g)),(9,(iv q))],(hq [(bP c 0 b),(bQ 1 w)])⟩
def Auq (F:KF R):=Ql N F [1,1,0,1,0,1,1,1,1,1,1,1,0,1,0] []
def Aur (c:Bool) (b:LA) (i:Nat) (r:Int) (x:LA):St:=⟨[(2,(op 0)),(5,(.own 300001 0 i)),(10,(iv r))],(hq [(bP c 0 b),(bQ 1 x)])⟩
def Aus (F:KF R):=Ql N F [1,1,0,1,0,1,1,1,1,1,1,1,1,1,0,1,0] []
def Aut (c:Bool) (b:LA) (l:Nat) (s:Int) (y:LA):St:=⟨[(2,(op 0)),(5,(.own 300001 0 l)),(11,(iv s))],(hq [(bP c 0 b),(bQ 1 y)])⟩
def Auu (F:KF R):=Ql N F [1,1,0,1,0,1,1,1,1,1,1,1,1,1,1,1,0,1,0] []
theorem ZS (F:KF R) (c:Bool) (b:LA):∀ (n d:Nat) (m:Int) (t:LA),Ap (Auk N F) n (Auj c b d m t)=(Me N (Cy F) c b n d m t)
 | 0,_,_,_=>by kernel_rfl
 | n+1,d,m,t=>Eq.trans (by kernel_rfl) (Bn (Yd N (Cy F) c b · d m t) (funext fun d=>funext fun m=>funext fun t=>(ZS F c b n d m t)):_)
theorem ZT (F:KF R) (c:Bool) (b:LA):∀ (n e:Nat) (o:Int) (u:LA),Ap (Aum N F) n (Aul c b e o u)=(Mf N (Cy F) c b n e o u)
 | 0,_,_,_=>by kernel_rfl
 | n+1,e,o,u=>Eq.trans (by kernel_rfl) (Bn (Ye N (Cy F) c b · e o u) (funext fun e=>funext fun o=>funext fun u=>(ZT F c b n e o u)):_)
theorem ZU (F:KF R) (c:Bool) (b:LA):∀ (n f:Nat) (p:Int) (v:LA),Ap (Auo N F) n (Aun c b f p v)=(Mg N (Cy F) c b n f p v)
 | 0,_,_,_=>by kernel_rfl
 | n+1,f,p,v=>Eq.trans (by kernel_rfl) (Bn (Yf N (Cy F) c b · f p v) (funext fun f=>funext fun p=>funext fun v=>(ZU F c b n f p v)):_)
theorem ZV (F:KF R) (c:Bool) (b:LA):∀ (n g:Nat) (q:Int) (w:LA),Ap (Auq N F) n (Aup c b g q w)=(Mh N (Cy F) c b n g q w)
 | 0,_,_,_=>by kernel_rfl
 | n+1,g,q,w=>Eq.trans (by kernel_rfl) (Bn (Yg N (Cy F) c b · g q w) (funext fun g=>funext fun q=>funext fun w=>(ZV F c b n g q w)):_)
theorem ZW (F:KF R) (c:Bool) (b:LA):∀ (n i:Nat) (r:Int) (x:LA),Ap (Aus N F) n (Aur c b i r x)=(Mi N (Cy F) c b n i r x)
 | 0,_,_,_=>by kernel_rfl
 | n+1,i,r,x=>Eq.trans (by kernel_rfl) (Bn (Yh N (Cy F) c b · i r x) (funext fun i=>funext fun r=>funext fun x=>(ZW F c b n i r x)):_)
theorem ZX (F:KF R) (c:Bool) (b:LA):∀ (n l:Nat) (s:Int) (y:LA),Ap (Auu N F) n (Aut c b l s y)=(Mj N (Cy F) c b n l s y)
 | 0,_,_,_=>by kernel_rfl
 | n+1,l,s,y=>Eq.trans (by kernel_rfl) (Bn (Yi N (Cy F) c b · l s y) (funext fun l=>funext fun s=>funext fun y=>(ZX F c b n l s y)):_)
theorem rP (b:LA) (c:Bool) (z:Int) (F:KF R):Cm [] rO N 182 [(.pagg b c),(iv z)] [] F=(Hk N b c z (Cy F)):=by
 rw[J8]
 exact Eq.trans (by kernel_rfl) (Bhw (Mk N (Cy F) · · · · · · b c z) (funext fun d=>funext fun m=>funext fun t=>(Aj ..).trans (ZS N F c b N d m t)) (funext fun e=>funext fun o=>funext fun u=>(Aj ..).trans (ZT N F c b N e o u)) (funext fun f=>funext fun p=>funext fun v=>(Aj ..).trans (ZU N F c b N f p v)) (funext fun g=>funext fun q=>funext fun w=>(Aj ..).trans (ZV N F c b N g q w)) (funext fun i=>funext fun r=>funext fun x=>(Aj ..).trans (ZW N F c b N i r x)) (funext fun l=>funext fun s=>funext fun y=>(Aj ..).trans (ZX N F c b N l s y)):_)
def lO (a:LA) (h:Am) (k:KF R):O R :=
 match a,h with
 | [(.pagg b c),(.int .i64 z)],[]=>(Hk N b c z (Cy k))
 | _,_=>none
theorem rQ:Ao N 182 @lO:=by
 intro R Q a h k j;unfold lO;split;exact Ay (rP ..) (rP ..) trivial;exact A0
def rR:=Az (rQ N)
def rS:=Cj (rQ N)
def ut (N:Nat) (b:Int) (r0:Int→O R):O R :=
 (cond (Ac b 7) (An .i64 (List.drop (0+((b.toNat)*1)) [(.int .i64 0),(.int .i64 32),(.int .i64 64),(.int .i64 16),(.int .i64 8),(.int .i64 8),(.int .i64 64)]) fun c=>(r0 c)) none)
def Rr:=(Af (@ut R)).1
theorem rT:@Rr R=@ut R:=(Af _).2
def y_ (F:KF R):Int→O R:=(fun d=>F (iv d) [])
theorem ya (b:Int) (F:KF R):Cm [] Dr N 183 [(iv b)] [] F=(Rr N b (y_ F)):=by
 rw[rT]
 kernel_rfl
def rU (a:LA) (h:Am) (k:KF R):O R :=
 match a,h with
 | [(.int .i64 b)],[]=>(Rr N b (y_ k))
 | _,_=>none
theorem yb:Ao N 183 @rU:=by
 intro R Q a h k j;unfold rU;split;exact Ay (ya ..) (ya ..) trivial;exact A0
def Ay7:=Az (yb N)
def Ay8:=Cj (yb N)
def Cp (r0:LA→O R) (c:Bool) (b:LA) (k0:Int→LA→O R) (d:Int) (e:LA):O R :=
 (cond (decide (d≤6)) (cond (Nat.ble 8 (b.length)) (Hk N (b.take 8) c d (fun g x=>(Rr N d (fun i=>(Ab N (decide (((g:Nat):Int)≤i)) 0 0 (wrap .i64 (d+1)) 8 e (fun l=>(k0 (wrap .i64 (d+1)) l))))))) none) (r0 e))
def Bm (r0:LA→O R) (c:Bool) (b:LA):Nat→Int→LA→O R
 | 0,_,_=>none
 | n+1,d,e=>(Cp N r0 c b (Bm r0 c b n) d e)
def Ml (r0:LA→O R) (q0:Int→LA→O R) (b:LA) (c:Bool) (f:LA):O R :=
 (An .i64 b fun m=>(Aw N 1 24 [(.int .i64 m)] 1 false true (fun o=>(Ab N o 0 0 0 3 f (fun p=>(cond (Nat.ble 8 (b.length)) (Co 1 (b.drop 1) fun q r=>(Cx N (b.take 8) c q r false c 0 1048576 0 0 1 p (fun s=>(Co 3 (b.drop 2) fun y t=>(Aw N 1 32 [(.int .i64 ((t:Nat):Int))] 1 false true (fun u=>(Ab N u 0 0 2 8 s (fun v=>(q0 2 v))))))))) none))))))
def Gr:=(Af (fun (N:Nat) (b:LA) (c:Bool) (f:LA) (r0:LA→O R)=>(Ml N r0 (fun d e=>(Bm N r0 c b N d e)) b c f))).1
theorem We (b c f r0):(@Gr R N b c f r0)=(Ml N r0 (fun d e=>(Bm N r0 c b N d e)) b c f):=by rw[Gr,(Af _).2]
def Zh:Hints:={ H:=(hS hL (hS hL (hS hL (hS hL (hS hL (hS (hP [0,3,4] hL) hL)))))) }
def BN:Ef:=[(156,Dv N),(155,Bt N),(154,N1 N),(182,rR N),(183,Ay7 N)]
def fS (F:KF R):=Ja Tryz.f152 Zh (BN N) [100000] N F
def Gk (F:KF R):LA→O R:=(fun w=>F (.tup []) [(100000,(bQ 0 w))])
def fT (c:Bool) (b:LA) (d:Int) (e:LA):St:=⟨[(0,(.optr 100000 0)),(3,(op 0)),(4,(iv d))],[(100000,(bQ 0 e)),(300000,(bP c 0 b))]⟩
def fU (F:KF R):=fS N F [1,1,1,1,1,0] []
theorem T4 (F:KF R) (c:Bool) (b:LA):∀ (n:Nat) (d:Int) (e:LA),Ap (fU N F) n (fT c b d e)=(Bm N (Gk F) c b n d e)
 | 0,_,_=>by kernel_rfl
 | n+1,d,e=>Eq.trans (by kernel_rfl) (Bn (Cp N (Gk F) c b · d e) (funext fun d=>funext fun e=>(T4 F c b n d e)):_)
theorem Zi (b:LA) (c:Bool) (f:LA) (F:KF R):Cm (BN N) Zh N 152 [(.optr 100000 0),(.pagg b c)] [(100000,(bQ 0 f))] F=(Gr N b c f (Gk F)):=by
 rw[We]
 exact Eq.trans (by kernel_rfl) (Bn (Ml N (Gk F) · b c f) (funext fun d=>funext fun e=>(Aj ..).trans (T4 N F c b N d e)):_)
def Wf (a:LA) (h:Am) (k:KF R):O R :=
 match a,h with
 | [(.optr 100000 0),(.pagg b c)],[(100000,⟨false,false,true,false,0,f,false⟩)]=>(Gr N b c f (Gk k))
 | _,_=>none
theorem Zj:Ao N 152 @Wf:=by
 intro R Q a h k j;unfold Wf;split;exact Ay (Zi ..) (Zi ..) ⟨Dw N,Bu N,N2 N,rS N,Ay8 N,trivial⟩;exact A0
def fV:=Az (Zj N)
def fW:=Cj (Zj N)
def LU (N:Nat) (k1:Int→O R) (r0:Bool→O R) (b:List UInt8) (d:Int) (e:Bool):O R :=
 (cond ((!e)==true) (cond ((d==0)==false) (cond (Ac d (b.length)) (cond ((((UInt8.toNat (List.getD b (d.toNat) 0):Nat):Int) != 95)==true) (cond (Ac d (b.length)) (cond ((decide (((UInt8.toNat (List.getD b (d.toNat) 0):Nat):Int)<48))==false) (cond (Ac d (b.length)) (cond (cond true (cond false true (cond true (cond false true (decide (((UInt8.toNat (List.getD b (d.toNat) 0):Nat):Int)>57))) false)) false) (r0 false) (k1 (wrap .i64 (d+1)))) none) (r0 false)) none) (k1 (wrap .i64 (d+1)))) none) (r0 false)) (k1 (wrap .i64 (d+1))))
def DM (N:Nat) (r0:Bool→O R) (b:List UInt8) (k1:Int→O R) (q2:Int→Bool→O R) (c:Int):O R :=
 (cond (decide (c<(((b.length):Nat):Int))) (cond (Ac c (b.length)) (cond ((decide (((UInt8.toNat (List.getD b (c.toNat) 0):Nat):Int)≥97))==true) (cond (Ac c (b.length)) (q2 c (cond true (decide (((UInt8.toNat (List.getD b (c.toNat) 0):Nat):Int)≤122)) false)) none) (q2 c false)) none) (r0 true))
def Pc (r0:Bool→O R) (b:List UInt8):Nat→Int→O R
 | 0,_=>none
 | n+1,c=>(DM N r0 b (Pc r0 b n) (fun d e=>(LU N (Pc r0 b n) r0 b d e)) c)
def VX (N:Nat) (r0:Bool→O R) (b:List UInt8) (q1:Int→O R):O R :=
 (q1 0)
def LV (r0:Bool→O R) (b:List UInt8):O R:=(VX N r0 b (fun c=>(Pc N r0 b N c)))
def iP (N:Nat) (r0:Bool→O R) (q0:O R) (b:List UInt8):O R :=
 (cond ((decide ((((b.length):Nat):Int)<1))==false) (cond ((cond false true (decide ((((b.length):Nat):Int)>16)))==false) (cond (cond false true (b==([99,111,114,114,101,99,116,105,118,101]:List UInt8))) (r0 false) q0) (r0 false)) (r0 false))
def QV:=(Af (fun (N:Nat) (b:List UInt8) (r0:Bool→O R)=>(iP N r0 (LV N r0 b) b))).1
theorem rV (b r0):(@QV R N b r0)=(iP N r0 (LV N r0 b) b):=by rw[QV,(Af _).2]
def yc:Hints:={ H:=(hS hL (hJ [0] hL (hS (hS hL (hS (hP [0,3] (hS hL (hS (hS (hJ [0,3,4] hL hL) hL) hL))) hL)) hL))) }
def fX (F:KF R):=Ja Tryz.f184 yc [] [] N F
def Ji (F:KF R):Bool→O R:=(fun f=>F (.bool f) [])
def Ay9 (b:List UInt8) (d:Int) (e:Bool):St:=⟨[(0,(.str b)),(3,(iv d)),(4,(.bool e))],[]⟩
def Aza (F:KF R) (Q1:St→O R):=fX N F [1,1,0,1,0,0,1,0,0,1] [Q1]
def yd (b:List UInt8) (c:Int):St:=⟨[(0,(.str b)),(3,(iv c))],[]⟩
def ye (F:KF R):=fX N F [1,1,0,1,0] []
def Azb (b:List UInt8):St:=⟨[(0,(.str b))],[]⟩
def Azc (F:KF R):=fX N F [1,1] []
theorem Ajo (Q1:St→O R) (F:KF R) (b:List UInt8):∀ (d:Int) (e:Bool),A8 (Aza N F Q1) (Ay9 b d e)=(LU N (fun c=>Q1 (yd b c)) (Ji F) b d e):=by
 intro d e
 kernel_rfl
theorem fY (F:KF R) (b:List UInt8):∀ (n:Nat) (c:Int),Ap (ye N F) n (yd b c)=(Pc N (Ji F) b n c)
 | 0,_=>by kernel_rfl
 | n+1,c=>have e0:=(funext fun c=>(fY F b n c))
  Eq.trans (by kernel_rfl) (cR (DM N (Ji F) b · · c) e0 (funext fun d=>funext fun e=>(Ar ..).trans ((Ajo N (Ap (ye N F) n) F b d e).trans (Bn (LU N · (Ji F) b d e) e0))):_)
theorem Ajp (F:KF R) (b:List UInt8):A8 (Azc N F) (Azb b)=(LV N (Ji F) b):=by
 exact Eq.trans (by kernel_rfl) (Bn (VX N (Ji F) b ·) (funext fun c=>(Aj ..).trans (fY N F b N c)):_)
theorem yf (b:List UInt8) (F:KF R):Cm [] yc N 184 [(.str b)] [] F=(QV N b (Ji F)):=by
 rw[rV]
 exact Eq.trans (by kernel_rfl) (Bn (iP N (Ji F) · b) ((Ar ..).trans (Ajp N F b)):_)
def rW (a:LA) (h:Am) (k:KF R):O R :=
 match a,h with
 | [(.str b)],[]=>(QV N b (Ji k))
 | _,_=>none
theorem yg:Ao N 184 @rW:=by
 intro R Q a h k j;unfold rW;split;exact Ay (yf ..) (yf ..) trivial;exact A0
def Azd:=Az (yg N)
def Aze:=Cj (yg N)
def Jj (r0:LA→O R) (c b:Int) (d:Nat) (e:LA) (k0:Int→LA→O R) (f:Int) (g:LA):O R :=
 (cond (decide (f<b)) (cond (Ac f d) (Awd (e.drop (0+((f.toNat)*1))) fun o=>(cond (Ac b d) (Awd (e.drop (0+((b.toNat)*1))) fun p=>(Ab N (!(o==p)) c b 0 10 g (fun q=>(k0 (wrap .i64 (f+1)) q)))) none)) none) (r0 g))
def Ec (r0:LA→O R) (c b:Int) (d:Nat) (e:LA):Nat→Int→LA→O R
 | 0,_,_=>none
 | n+1,f,g=>(Jj N r0 c b d e (Ec r0 c b d e n) f g)
def Oh (r0:LA→O R) (q0:Nat→LA→Int→LA→O R) (i:LA) (l:Bool) (c b:Int) (m:LA):O R :=
 (cond (Nat.ble 8 (i.length)) (Hk N (i.take 8) l c (fun d e=>(cond (Ac b d) (Awd (e.drop (0+((b.toNat)*1))) fun r=>(QV N r (fun s=>(Ab N s c b 0 9 m (fun t=>(q0 d e 0 t)))))) none))) none)
def Cr:=(Af (fun (N:Nat) (i:LA) (l:Bool) (c b:Int) (m:LA) (r0:LA→O R)=>(Oh N r0 (fun d e f g=>(Ec N r0 c b d e N f g)) i l c b m))).1
theorem Zk (i l c b m r0):(@Cr R N i l c b m r0)=(Oh N r0 (fun d e f g=>(Ec N r0 c b d e N f g)) i l c b m):=by rw[Cr,(Af _).2]
def BO:Hints:={ H:=(hS hL (hS hL (hS hL (hS hL (hS (hP [0,2,3,8,9] hL) hL))))) }
def HG:Ef:=[(182,rR N),(184,Azd N),(155,Bt N)]
def ig (F:KF R):=Ja Tryz.f153 BO (HG N) [100000] N F
def G8 (F:KF R):LA→O R:=(fun u=>F (.tup []) [(100000,(bQ 0 u))])
def ii (c b:Int) (d:Nat) (e:LA) (f:Int) (g:LA):St:=⟨[(0,(.optr 100000 0)),(2,(iv c)),(3,(iv b)),(8,(.own 300000 0 d)),(9,(iv f))],[(100000,(bQ 0 g)),(300000,(bQ 1 e))]⟩
def ij (F:KF R):=ig N F [1,1,1,1,0] []
theorem Vd (F:KF R) (c b:Int) (d:Nat) (e:LA):∀ (n:Nat) (f:Int) (g:LA),Ap (ij N F) n (ii c b d e f g)=(Ec N (G8 F) c b d e n f g)
 | 0,_,_=>by kernel_rfl
 | n+1,f,g=>Eq.trans (by kernel_rfl) (Bn (Jj N (G8 F) c b d e · f g) (funext fun f=>funext fun g=>(Vd F c b d e n f g)):_)
theorem BP (i:LA) (l:Bool) (c b:Int) (m:LA) (F:KF R):Cm (HG N) BO N 153 [(.optr 100000 0),(.pagg i l),(iv c),(iv b)] [(100000,(bQ 0 m))] F=(Cr N i l c b m (G8 F)):=by
 rw[Zk]
 exact Eq.trans (by kernel_rfl) (Bn (Oh N (G8 F) · i l c b m) (funext fun d=>funext fun e=>funext fun f=>funext fun g=>(Aj ..).trans (Vd N F c b d e N f g)):_)
def Zl (a:LA) (h:Am) (k:KF R):O R :=
 match a,h with
 | [(.optr 100000 0),(.pagg i l),(.int .i64 c),(.int .i64 b)],[(100000,⟨false,false,true,false,0,m,false⟩)]=>(Cr N i l c b m (G8 k))
 | _,_=>none
theorem BQ:Ao N 153 @Zl:=by
 intro R Q a h k j;unfold Zl;split;exact Ay (BP ..) (BP ..) ⟨rS N,Aze N,Bu N,trivial⟩;exact A0
def Fg:=Az (BQ N)
def Fh:=Cj (BQ N)
def Xk (b:LA) (i:Bool) (c d e f:Int) (g:LA) (r0:LA→O R):O R :=
 (Co 3 (b.drop 2) fun p l=>(Aw N 0 (wrap .i64 (((l:Nat):Int) - 1)) [(.int .i64 c)] 1 false true (fun m=>(Ab N m d e f 12 g (fun n=>(r0 n))))))
def Eo:=(Af (@Xk R)).1
theorem BR:@Eo R=@Xk R:=(Af _).2
def rX:Ef:=[(156,Dv N),(155,Bt N)]
def HH (F:KF R):LA→O R:=(fun o=>F (.tup []) [(100000,(bQ 0 o))])
theorem HI (b:LA) (i:Bool) (c d e f:Int) (g:LA) (F:KF R):Cm (rX N) Dr N 185 [(.optr 100000 0),(.pagg b i),(iv c),(iv d),(iv e),(iv f)] [(100000,(bQ 0 g))] F=(Eo N b i c d e f g (HH F)):=by
 rw[BR]
 kernel_rfl
def BS (a:LA) (h:Am) (k:KF R):O R :=
 match a,h with
 | [(.optr 100000 0),(.pagg b i),(.int .i64 c),(.int .i64 d),(.int .i64 e),(.int .i64 f)],[(100000,⟨false,false,true,false,0,g,false⟩)]=>(Eo N b i c d e f g (HH k))
 | _,_=>none
theorem HJ:Ao N 185 @BS:=by
 intro R Q a h k j;unfold BS;split;exact Ay (HI ..) (HI ..) ⟨Dw N,Bu N,trivial⟩;exact A0
def Mm:=Az (HJ N)
def Mn:=Cj (HJ N)
def NP (b:LA) (c:Bool) (r0:Bool→O R):O R :=
 (An .i64 (b.drop 1) fun d=>(Aw N 1 1048576 [(.int .i64 d)] 1 false true (fun e=>(cond (e==true) (An .i64 b fun f=>(Aw N (-1048576) 1048576 [(.int .i64 f)] 1 false true (fun g=>(r0 (cond true g false))))) (r0 false)))))
def Jk:=(Af (@NP R)).1
theorem QW:@Jk R=@NP R:=(Af _).2
def Ajq:Ef:=[(156,Dv N)]
def ZY (F:KF R):Bool→O R:=(fun i=>F (.bool i) [])
theorem ZZ (b:LA) (c:Bool) (F:KF R):Cm (Ajq N) Dr N 186 [(.pagg b c)] [] F=(Jk N b c (ZY F)):=by
 rw[QW]
 kernel_rfl
def QX (a:LA) (h:Am) (k:KF R):O R :=
 match a,h with
 | [(.pagg b c)],[]=>(Jk N b c (ZY k))
 | _,_=>none
theorem Z_:Ao N 186 @QX:=by
 intro R Q a h k j;unfold QX;split;exact Ay (ZZ ..) (ZZ ..) ⟨Dw N,trivial⟩;exact A0
def Z':=Az (Z_ N)
def aA:=Cj (Z_ N)
def Pd (N:Nat) (r0:Bool→O R) (c:LA) (b:Nat) (d e:Bool) (k0:Int→O R) (f:Int):O R :=
 (cond (decide (f<((b:Nat):Int))) (cond (Ac f b) (An .i64 (c.drop ((f.toNat)*1)) fun g=>(cond (Ac (wrap .i64 (f - 1)) b) (An .i64 (c.drop (((wrap .i64 (f - 1)).toNat)*1)) fun i=>(cond (decide (g≤i)) (r0 false) (k0 (wrap .i64 (f+1))))) none)) none) (r0 true))
def Hf (r0:Bool→O R) (c:LA) (b:Nat) (d e:Bool):Nat→Int→O R
 | 0,_=>none
 | n+1,f=>(Pd N r0 c b d e (Hf r0 c b d e n) f)
def LW (N:Nat) (r0:Bool→O R) (q0:Int→O R) (c:LA) (b:Nat) (d e:Bool):O R :=
 (q0 1)
def Pe:=(Af (fun (N:Nat) (c:LA) (b:Nat) (d e:Bool) (r0:Bool→O R)=>(LW N r0 (fun f=>(Hf N r0 c b d e N f)) c b d e))).1
theorem fZ (c b d e r0):(@Pe R N c b d e r0)=(LW N r0 (fun f=>(Hf N r0 c b d e N f)) c b d e):=by rw[Pe,(Af _).2]
def lP:Hints:={ H:=(hS hL (hS (hS hL (hS (hP [0,3] hL) hL)) hL)) }
def Ank (F:KF R):=Ja Tryz.f189 lP [] [] N F
def Rs (F:KF R):Bool→O R:=(fun l=>F (.bool l) [])
def Anl (c:LA) (b:Nat) (d e:Bool) (f:Int):St:=⟨[(0,(.imm c b 1 d e)),(3,(iv f))],[]⟩
def Anm (F:KF R):=Ank N F [1,0,1,0] []
theorem QY (F:KF R) (c:LA) (b:Nat) (d e:Bool):∀ (n:Nat) (f:Int),Ap (Anm N F) n (Anl c b d e f)=(Hf N (Rs F) c b d e n f)
 | 0,_=>by kernel_rfl
 | n+1,f=>Eq.trans (by kernel_rfl) (Bn (Pd N (Rs F) c b d e · f) (funext fun f=>(QY F c b d e n f)):_)
theorem lQ (c:LA) (b:Nat) (d e:Bool) (F:KF R):Cm [] lP N 189 [(.imm c b 1 d e)] [] F=(Pe N c b d e (Rs F)):=by
 rw[fZ]
 exact Eq.trans (by kernel_rfl) (Bn (LW N (Rs F) · c b d e) (funext fun f=>(Aj ..).trans (QY N F c b d e N f)):_)
def f5 (a:LA) (h:Am) (k:KF R):O R :=
 match a,h with
 | [(.imm c b 1 d e)],[]=>(Pe N c b d e (Rs k))
 | _,_=>none
theorem lR:Ao N 189 @f5:=by
 intro R Q a h k j;unfold f5;split;exact Ay (lQ ..) (lQ ..) trivial;exact A0
def lT:=Az (lR N)
def lU:=Cj (lR N)
def Ve (i:LA) (m:Bool) (b:LA) (c:Nat) (n d:Bool) (e f g:Int) (l:LA) (r0:LA→O R):O R :=
 (An .i64 i fun o=>(Aw N 0 (wrap .i64 (o - 1)) b c false d (fun p=>(Ab N p e f g 3 l (fun q=>(Pe N b c false d (fun r=>(Ab N r e f g 11 q (fun s=>(r0 s))))))))))
def Hl:=(Af (@Ve R)).1
theorem Zm:@Hl R=@Ve R:=(Af _).2
def n_:Ef:=[(156,Dv N),(155,Bt N),(189,lT N)]
def BT (F:KF R):LA→O R:=(fun t=>F (.tup []) [(100000,(bQ 0 t))])
theorem BU (i:LA) (m:Bool) (b:LA) (c:Nat) (n d:Bool) (e f g:Int) (l:LA) (F:KF R):Cm (n_ N) Dr N 187 [(.optr 100000 0),(.pagg i m),(.imm b c 1 n d),(iv e),(iv f),(iv g)] [(100000,(bQ 0 l))] F=(Hl N i m b c n d e f g l (BT F)):=by
 rw[Zm]
 kernel_rfl
def Zn (a:LA) (h:Am) (k:KF R):O R :=
 match a,h with
 | [(.optr 100000 0),(.pagg i m),(.imm b c 1 n d),(.int .i64 e),(.int .i64 f),(.int .i64 g)],[(100000,⟨false,false,true,false,0,l,false⟩)]=>(Hl N i m b c n d e f g l (BT k))
 | _,_=>none
theorem BV:Ao N 187 @Zn:=by
 intro R Q a h k j;unfold Zn;split;exact Ay (BU ..) (BU ..) ⟨Dw N,Bu N,lU N,trivial⟩;exact A0
def BW:=Az (BV N)
def BX:=Cj (BV N)
def Q5 (r0:LA→O R) (b:Int) (c:Bool) (d e:LA) (m:LA):O R :=
 (An .i64 (e.drop 9) fun o=>(Aw N 0 1048576 [(.int .i64 o)] 1 false true (fun p=>(Ab N p 2 b 6 3 m (fun q=>(An .i64 (e.drop 9) fun r=>(An .i64 (e.drop 10) fun s=>(Aw N r 1048576 [(.int .i64 s)] 1 false true (fun t=>(Ab N t 2 b 7 3 q (fun u=>(cond (Nat.ble 8 (d.length)) (Co 1 (e.drop 11) fun v w=>(Hl N (d.take 8) c v w false c 2 b 8 u (fun x=>(r0 x)))) none))))))))))))
def Pf (r0:LA→O R) (b:Int) (c:Bool) (d e:LA) (q2:LA→O R) (g:LA):O R :=
 (cond (Nat.ble 2 ((e.drop 7).length)) (cond ((!c)||(Ba ((e.drop 7).take 2))) (Jk N ((e.drop 7).take 2) false (fun y=>(cond (y==true) (An .i64 (e.drop 7) fun z=>(Ab N (cond true (decide (z≥0)) false) 2 b 5 3 g (fun aa=>(q2 aa)))) (Ab N false 2 b 5 3 g (fun ab=>(q2 ab)))))) none) none)
def Q6 (r0:LA→O R) (b:Int) (c:Bool) (d e:LA) (g:LA):O R:=(Pf N r0 b c d e (fun m=>(Q5 N r0 b c d e m)) g)
def Pg (r0:LA→O R) (b:Int) (c:Bool) (d:LA) (q1:LA→O R) (f e:LA):O R :=
 (cond (Nat.ble 2 ((e.drop 5).length)) (cond ((!c)||(Ba ((e.drop 5).take 2))) (Jk N ((e.drop 5).take 2) false (fun ac=>(cond (ac==true) (An .i64 (e.drop 5) fun ad=>(Ab N (cond true (decide (ad≤0)) false) 2 b 4 3 f (fun ae=>(q1 ae)))) (Ab N false 2 b 4 3 f (fun af=>(q1 af)))))) none) none)
def Km (r0:LA→O R) (b:Int) (c:Bool) (d:LA) (f e:LA):O R:=(Pg N r0 b c d (fun g=>(Q6 N r0 b c d e g)) f e)
def Oi (r0:LA→O R) (q0:LA→LA→O R) (d:LA) (c:Bool) (b:Int) (i:LA):O R :=
 (Co 12 (d.drop 3) fun l ag=>(cond (Ac b ag) (cond (Nat.ble 12 ((l.drop ((b.toNat)*12)).length)) (cond ((Nat.beq 0 0)&&((Nat.beq (((l.drop ((b.toNat)*12)).take 12).length) 12)&&(Nat.beq 12 12))) (cond (Nat.ble 8 (d.length)) (Cr N (d.take 8) c 2 b i (fun ah=>(cond (Nat.ble 8 (d.length)) (An .i64 (((l.drop ((b.toNat)*12)).take 12).drop 1) fun ai=>(Eo N (d.take 8) c ai 2 b 1 ah (fun aj=>(cond (Nat.ble 8 (d.length)) (An .i64 (((l.drop ((b.toNat)*12)).take 12).drop 2) fun ak=>(Eo N (d.take 8) c ak 2 b 2 aj (fun al=>(An .i64 (((l.drop ((b.toNat)*12)).take 12).drop 1) fun am=>(An .i64 (((l.drop ((b.toNat)*12)).take 12).drop 2) fun an=>(Ab N (am != an) 2 b 2 1 al (fun n=>(cond (Nat.ble 2 ((((l.drop ((b.toNat)*12)).take 12).drop 3).length)) (cond ((!c)||(Ba ((((l.drop ((b.toNat)*12)).take 12).drop 3).take 2))) (Jk N ((((l.drop ((b.toNat)*12)).take 12).drop 3).take 2) false (fun ao=>(cond (ao==true) (An .i64 (((l.drop ((b.toNat)*12)).take 12).drop 3) fun ap=>(Ab N (cond true (decide (ap>0)) false) 2 b 3 3 n (fun aq=>(q0 aq ((l.drop ((b.toNat)*12)).take 12))))) (Ab N false 2 b 3 3 n (fun ar=>(q0 ar ((l.drop ((b.toNat)*12)).take 12))))))) none) none)))))))) none)))) none))) none) none) none) none))
def Hm:=(Af (fun (N:Nat) (d:LA) (c:Bool) (b:Int) (i:LA) (r0:LA→O R)=>(Oi N r0 (fun f e=>(Km N r0 b c d f e)) d c b i))).1
theorem Zo (d c b i r0):(@Hm R N d c b i r0)=(Oi N r0 (fun f e=>(Km N r0 b c d f e)) d c b i):=by rw[Hm,(Af _).2]
def BY:Hints:={ H:=(hS hL (hS hL (hS hL (hS hL (hS hL (hS hL (hJ [0,2,4,6,7] hL (hJ [0,2,4,6,7] hL (hJ [0,2,4,6,7] hL hL))))))))) }
def HK:Ef:=[(153,Fg N),(185,Mm N),(155,Bt N),(186,Z' N),(156,Dv N),(187,BW N)]
def Q8 (F:KF R):=Ja Tryz.f157 BY (HK N) [100000] N F
def C7 (F:KF R):LA→O R:=(fun au=>F (.tup []) [(100000,(bQ 0 au))])
def ik (b:Int) (c:Bool) (d e m:LA):St:=⟨[(0,(.optr 100000 0)),(2,(iv b)),(4,(op 0)),(6,(op 1)),(7,(iv 2))],[(100000,(bQ 0 m)),(300000,(bP c 0 d)),(300001,(bP c 0 e))]⟩
def io (F:KF R):=Q8 N F [1,1,1,1,1,1,1,1,1] []
def ip (b:Int) (c:Bool) (d e g:LA):St:=⟨[(0,(.optr 100000 0)),(2,(iv b)),(4,(op 0)),(6,(op 1)),(7,(iv 2))],[(100000,(bQ 0 g)),(300000,(bP c 0 d)),(300001,(bP c 0 e))]⟩
def iq (F:KF R):=Q8 N F [1,1,1,1,1,1,1,1] []
def iw (b:Int) (c:Bool) (d f e:LA):St:=⟨[(0,(.optr 100000 0)),(2,(iv b)),(4,(op 0)),(6,(op 1)),(7,(iv 2))],[(100000,(bQ 0 f)),(300000,(bP c 0 d)),(300001,(bP c 0 e))]⟩
def ix (F:KF R):=Q8 N F [1,1,1,1,1,1,1] []
theorem VY (F:KF R) (b:Int) (c:Bool) (d e:LA):∀ (m:LA),A8 (io N F) (ik b c d e m)=(Q5 N (C7 F) b c d e m):=by
 intro m
 kernel_rfl
theorem VZ (F:KF R) (b:Int) (c:Bool) (d e:LA):∀ (g:LA),A8 (iq N F) (ip b c d e g)=(Q6 N (C7 F) b c d e g):=by
 intro g
 exact Eq.trans (by kernel_rfl) (Bn (Pf N (C7 F) b c d e · g) (funext fun m=>(Ar ..).trans (VY N F b c d e m)):_)
theorem V_ (F:KF R) (b:Int) (c:Bool) (d:LA):∀ (f e:LA),A8 (ix N F) (iw b c d f e)=(Km N (C7 F) b c d f e):=by
 intro f e
 exact Eq.trans (by kernel_rfl) (Bn (Pg N (C7 F) b c d · f e) (funext fun g=>(Ar ..).trans (VZ N F b c d e g)):_)
theorem BZ (d:LA) (c:Bool) (b:Int) (i:LA) (F:KF R):Cm (HK N) BY N 157 [(.optr 100000 0),(.pagg d c),(iv b)] [(100000,(bQ 0 i))] F=(Hm N d c b i (C7 F)):=by
 rw[Zo]
 exact Eq.trans (by kernel_rfl) (Bn (Oi N (C7 F) · d c b i) (funext fun f=>funext fun e=>(Ar ..).trans (V_ N F b c d f e)):_)
def Zp (a:LA) (h:Am) (k:KF R):O R :=
 match a,h with
 | [(.optr 100000 0),(.pagg d c),(.int .i64 b)],[(100000,⟨false,false,true,false,0,i,false⟩)]=>(Hm N d c b i (C7 k))
 | _,_=>none
theorem B_:Ao N 157 @Zp:=by
 intro R Q a h k j;unfold Zp;split;exact Ay (BZ ..) (BZ ..) ⟨Fh N,Mn N,Bu N,aA N,Dw N,BX N,trivial⟩;exact A0
def iy:=Az (B_ N)
def iz:=Cj (B_ N)
end
end Gx

namespace Gx
open Go Go.Proofs
open IntKind (wrap)
set_option maxRecDepth 100000
noncomputable section
variable {R:Type} (N:Nat)
def F9 (r0:LA→O R) (c:Int) (e:LA) (d:Bool) (b:LA) (k2:Int→Int→O R) (q p:Int):O R :=
 (Co 2 (b.drop 4) fun ba s=>(cond ((decide (p<((s:Nat):Int)))==true) (An .i64 (e.drop 3) fun t=>(cond (cond true (t==0) false) (Co 2 (b.drop 4) fun u v=>(cond (Ac p v) (An .i64 (u.drop ((p.toNat)*2)) fun w=>(k2 (wrap .i64 (q+w)) (wrap .i64 (p+1)))) none)) (An .i64 (e.drop 3) fun x=>(cond ((x != 0)==false) (An .i64 (b.drop 3) fun y=>(An .i64 (b.drop 2) fun z=>(Ab N (cond false true (q==(wrap .i64 (y - z)))) 3 c 4 4 e (fun aa=>(r0 aa))))) (Ab N true 3 c 4 4 e (fun ab=>(r0 ab))))))) (An .i64 (e.drop 3) fun ac=>(cond ((ac != 0)==false) (An .i64 (b.drop 3) fun ad=>(An .i64 (b.drop 2) fun ae=>(Ab N (cond false true (q==(wrap .i64 (ad - ae)))) 3 c 4 4 e (fun af=>(r0 af))))) (Ab N true 3 c 4 4 e (fun ag=>(r0 ag)))))))
def Dh (r0:LA→O R) (c:Int) (e:LA) (d:Bool) (b:LA):Nat→Int→Int→O R
 | 0,_,_=>none
 | n+1,q,p=>(F9 N r0 c e d b (Dh r0 c e d b n) q p)
def Em (r0:LA→O R) (c:Int) (d:Bool) (b:LA) (k1:Int→LA→O R) (q2:Int→Int→O R) (i:Int) (e:LA):O R :=
 (Co 2 (b.drop 4) fun bb ah=>(cond (decide (i<((ah:Nat):Int))) (Co 2 (b.drop 4) fun ai aj=>(cond (Ac i aj) (An .i64 ((ai.drop ((i.toNat)*2)).drop 1) fun ak=>(Co 2 (b.drop 4) fun al am=>(cond (Ac (wrap .i64 (i - 1)) am) (An .i64 ((al.drop (((wrap .i64 (i - 1)).toNat)*2)).drop 1) fun an=>(Ab N (decide (ak≥an)) 3 c 4 11 e (fun ao=>(k1 (wrap .i64 (i+1)) ao)))) none))) none)) (q2 0 0)))
def Cs (r0:LA→O R) (c:Int) (d:Bool) (b:LA):Nat→Int→LA→O R
 | 0,_,_=>none
 | n+1,i,e=>(Em N r0 c d b (Cs r0 c d b n) (fun q p=>(Dh N r0 c e d b N q p)) i e)
def Ga (r0:LA→O R) (c:Int) (g:LA) (l:Nat) (d:Bool) (b:LA) (k0:Int→Int→LA→O R) (q1:Int→LA→O R) (m f:Int) (o:LA):O R :=
 (cond (decide (f<m)) (cond (Ac f l) (cond (Nat.ble 2 ((g.drop ((f.toNat)*2)).length)) (cond ((!d)||(Ba ((g.drop ((f.toNat)*2)).take 2))) (cond ((Nat.beq (((g.drop ((f.toNat)*2)).take 2).length) 2)&&((Nat.ble 2 2)&&(!false))) (An .i64 (setCells [(.int .i64 0),(.int .i64 0)] 0 ((g.drop ((f.toNat)*2)).take 2)) fun ap=>(Aw N 1 1048576 [(.int .i64 ap)] 1 false true (fun aq=>(cond (aq==true) (An .i64 ((setCells [(.int .i64 0),(.int .i64 0)] 0 ((g.drop ((f.toNat)*2)).take 2)).drop 1) fun ar=>(Aw N (-1048576) 1048576 [(.int .i64 ar)] 1 false true (fun au=>(Ab N (cond true au false) 3 c 4 3 o (fun av=>(k0 m (wrap .i64 (f+1)) av)))))) (Ab N false 3 c 4 3 o (fun aw=>(k0 m (wrap .i64 (f+1)) aw))))))) none) none) none) none) (q1 1 o))
def Ct (r0:LA→O R) (c:Int) (g:LA) (l:Nat) (d:Bool) (b:LA):Nat→Int→Int→LA→O R
 | 0,_,_,_=>none
 | n+1,m,f,o=>(Ga N r0 c g l d b (Ct r0 c g l d b n) (fun i e=>(Cs N r0 c d b N i e)) m f o)
def Im (r0:LA→O R) (q0:LA→Nat→Int→Int→LA→O R) (b:LA) (d:Bool) (c:Int) (r:LA):O R :=
 (Co 2 (b.drop 4) fun bc ax=>(Ab N (decide (((ax:Nat):Int)≤8)) 3 c 4 8 r (fun ay=>(Co 2 (b.drop 4) fun g l=>(q0 g l ((l:Nat):Int) 0 ay)))))
def Dx:=(Af (fun (N:Nat) (b:LA) (d:Bool) (c:Int) (r:LA) (r0:LA→O R)=>(Im N r0 (fun g l m f o=>(Ct N r0 c g l d b N m f o)) b d c r))).1
theorem Rt (b d c r r0):(@Dx R N b d c r r0)=(Im N r0 (fun g l m f o=>(Ct N r0 c g l d b N m f o)) b d c r):=by rw[Dx,(Af _).2]
def T5:Hints:={ H:=(hS hL (hS hL (hS hL (hS (hS hL (hS (hP [0,2,4,6,21,22,23] hL) hL)) (hS (hS hL (hS (hP [0,2,4,6,9] hL) hL)) (hS hL (hS (hS hL (hS (hP [0,2,4,6,10,11] hL) hL)) hL))))))) }
def Vf:Ef:=[(155,Bt N),(156,Dv N)]
def K8 (F:KF R):=Ja Tryz.f188 T5 (Vf N) [100000] N F
def Bp (F:KF R):LA→O R:=(fun az=>F (.tup []) [(100000,(bQ 0 az))])
def QZ (c:Int) (e:LA) (d:Bool) (b:LA) (q p:Int):St:=⟨[(0,(.optr 100000 0)),(2,(iv c)),(4,(op 0)),(6,(iv 3)),(10,(iv q)),(11,(iv p))],[(100000,(bQ 0 e)),(300000,(bP d 0 b))]⟩
def Q_ (F:KF R):=K8 N F [1,1,1,1,1,1,0,1,0] []
def Q' (c:Int) (d:Bool) (b:LA) (i:Int) (e:LA):St:=⟨[(0,(.optr 100000 0)),(2,(iv c)),(4,(op 0)),(6,(iv 3)),(9,(iv i))],[(100000,(bQ 0 e)),(300000,(bP d 0 b))]⟩
def RA (F:KF R):=K8 N F [1,1,1,1,0,1,0] []
def RB (c:Int) (g:LA) (l:Nat) (d:Bool) (b:LA) (m f:Int) (o:LA):St:=⟨[(0,(.optr 100000 0)),(2,(iv c)),(4,(op 0)),(6,(iv 3)),(21,(.imm g l 2 false d)),(22,(iv m)),(23,(iv f))],[(100000,(bQ 0 o)),(300000,(bP d 0 b))]⟩
def RC (F:KF R):=K8 N F [1,1,1,0,1,0] []
theorem Ph (F:KF R) (c:Int) (e:LA) (d:Bool) (b:LA):∀ (n:Nat) (q p:Int),Ap (Q_ N F) n (QZ c e d b q p)=(Dh N (Bp F) c e d b n q p)
 | 0,_,_=>by kernel_rfl
 | n+1,q,p=>Eq.trans (by kernel_rfl) (Bn (F9 N (Bp F) c e d b · q p) (funext fun q=>funext fun p=>(Ph F c e d b n q p)):_)
theorem Pi (F:KF R) (c:Int) (d:Bool) (b:LA):∀ (n:Nat) (i:Int) (e:LA),Ap (RA N F) n (Q' c d b i e)=(Cs N (Bp F) c d b n i e)
 | 0,_,_=>by kernel_rfl
 | n+1,i,e=>Eq.trans (by kernel_rfl) (cR (Em N (Bp F) c d b · · i e) (funext fun i=>funext fun e=>(Pi F c d b n i e)) (funext fun q=>funext fun p=>(Aj ..).trans (Ph N F c e d b N q p)):_)
theorem Pj (F:KF R) (c:Int) (g:LA) (l:Nat) (d:Bool) (b:LA):∀ (n:Nat) (m f:Int) (o:LA),Ap (RC N F) n (RB c g l d b m f o)=(Ct N (Bp F) c g l d b n m f o)
 | 0,_,_,_=>by kernel_rfl
 | n+1,m,f,o=>Eq.trans (by kernel_rfl) (cR (Ga N (Bp F) c g l d b · · m f o) (funext fun m=>funext fun f=>funext fun o=>(Pj F c g l d b n m f o)) (funext fun i=>funext fun e=>(Aj ..).trans (Pi N F c d b N i e)):_)
theorem T6 (b:LA) (d:Bool) (c:Int) (r:LA) (F:KF R):Cm (Vf N) T5 N 188 [(.optr 100000 0),(.pagg b d),(iv c)] [(100000,(bQ 0 r))] F=(Dx N b d c r (Bp F)):=by
 rw[Rt]
 exact Eq.trans (by kernel_rfl) (Bn (Im N (Bp F) · b d c r) (funext fun g=>funext fun l=>funext fun m=>funext fun f=>funext fun o=>(Aj ..).trans (Pj N F c g l d b N m f o)):_)
def Ru (a:LA) (h:Am) (k:KF R):O R :=
 match a,h with
 | [(.optr 100000 0),(.pagg b d),(.int .i64 c)],[(100000,⟨false,false,true,false,0,r,false⟩)]=>(Dx N b d c r (Bp k))
 | _,_=>none
theorem T7:Ao N 188 @Ru:=by
 intro R Q a h k j;unfold Ru;split;exact Ay (T6 ..) (T6 ..) ⟨Bu N,Dw N,trivial⟩;exact A0
def RD:=Az (T7 N)
def RF:=Cj (T7 N)
def Ra (r0:LA→O R) (b:Int) (c:Bool) (d i:LA):O R :=
 (An .i64 (d.drop 19) fun o=>(cond (o==2) (An .i64 (d.drop 2) fun p=>(An .i64 (d.drop 3) fun q=>(An .i64 (d.drop 21) fun r=>(Aw N p q [(.int .i64 r)] 1 false true (fun s=>(Ab N s 3 b 21 3 i (fun t=>(r0 t)))))))) (An .i64 (d.drop 21) fun u=>(Ab N (u==0) 3 b 21 3 i (fun v=>(r0 v))))))
def Pk (r0:LA→O R) (b:Int) (c:Bool) (q1:LA→O R) (g d:LA):O R :=
 (An .i64 (d.drop 20) fun w=>(Aw N 1 48 [(.int .i64 w)] 1 false true (fun x=>(Ab N x 3 b 20 3 g (fun m=>(An .i64 (d.drop 19) fun y=>(cond ((y != 1)==false) (An .i64 (d.drop 20) fun z=>(An .i64 (d.drop 12) fun aa=>(Ab N (cond false true (decide (z≤aa))) 3 b 20 3 m (fun ab=>(q1 ab))))) (Ab N true 3 b 20 3 m (fun ac=>(q1 ac))))))))))
def Kn (r0:LA→O R) (b:Int) (c:Bool) (g d:LA):O R:=(Pk N r0 b c (fun i=>(Ra N r0 b c d i)) g d)
def Oj (r0:LA→O R) (q0:LA→LA→O R) (f:LA) (c:Bool) (b:Int) (l:LA):O R :=
 (Co 22 (f.drop 4) fun e ad=>(cond (Ac b ad) (cond (Nat.ble 22 ((e.drop ((b.toNat)*22)).length)) (cond ((Nat.beq 0 0)&&((Nat.beq (((e.drop ((b.toNat)*22)).take 22).length) 22)&&(Nat.beq 22 22))) (cond (Nat.ble 8 (f.length)) (Cr N (f.take 8) c 3 b l (fun ae=>(cond (Nat.ble 8 (f.length)) (An .i64 (((e.drop ((b.toNat)*22)).take 22).drop 1) fun af=>(Eo N (f.take 8) c af 3 b 1 ae (fun ag=>(An .i64 (((e.drop ((b.toNat)*22)).take 22).drop 2) fun ah=>(Aw N 0 1048576 [(.int .i64 ah)] 1 false true (fun ai=>(Ab N ai 3 b 2 3 ag (fun aj=>(An .i64 (((e.drop ((b.toNat)*22)).take 22).drop 2) fun ak=>(An .i64 (((e.drop ((b.toNat)*22)).take 22).drop 3) fun al=>(Aw N ak 1048576 [(.int .i64 al)] 1 false true (fun am=>(Ab N am 3 b 3 3 aj (fun an=>(cond (Nat.ble 22 (((e.drop ((b.toNat)*22)).take 22).length)) (Dx N (((e.drop ((b.toNat)*22)).take 22).take 22) c b an (fun ao=>(An .i64 (((e.drop ((b.toNat)*22)).take 22).drop 5) fun ap=>(Aw N 0 1048576 [(.int .i64 ap)] 1 false true (fun aq=>(Ab N aq 3 b 5 3 ao (fun ar=>(An .i64 (((e.drop ((b.toNat)*22)).take 22).drop 6) fun au=>(Aw N 0 1048576 [(.int .i64 au)] 1 false true (fun av=>(Ab N av 3 b 6 3 ar (fun aw=>(An .i64 (((e.drop ((b.toNat)*22)).take 22).drop 7) fun ax=>(Aw N 0 1048576 [(.int .i64 ax)] 1 false true (fun ay=>(Ab N ay 3 b 7 3 aw (fun az=>(An .i64 (((e.drop ((b.toNat)*22)).take 22).drop 2) fun ba=>(An .i64 (((e.drop ((b.toNat)*22)).take 22).drop 3) fun bb=>(An .i64 (((e.drop ((b.toNat)*22)).take 22).drop 8) fun bc=>(Aw N ba bb [(.int .i64 bc)] 1 false true (fun bd=>(Ab N bd 3 b 8 3 az (fun be=>(An .i64 (((e.drop ((b.toNat)*22)).take 22).drop 2) fun bf=>(An .i64 (((e.drop ((b.toNat)*22)).take 22).drop 3) fun bg=>(An .i64 (((e.drop ((b.toNat)*22)).take 22).drop 9) fun bh=>(Aw N bf bg [(.int .i64 bh)] 1 false true (fun bi=>(Ab N bi 3 b 9 3 be (fun bj=>(An .i64 (((e.drop ((b.toNat)*22)).take 22).drop 10) fun bk=>(Aw N 0 24 [(.int .i64 bk)] 1 false true (fun bl=>(Ab N bl 3 b 10 3 bj (fun bm=>(An .i64 (((e.drop ((b.toNat)*22)).take 22).drop 11) fun bn=>(Aw N 0 24 [(.int .i64 bn)] 1 false true (fun bo=>(Ab N bo 3 b 11 3 bm (fun bp=>(An .i64 (((e.drop ((b.toNat)*22)).take 22).drop 12) fun bq=>(Aw N 0 24 [(.int .i64 bq)] 1 false true (fun br=>(Ab N br 3 b 12 3 bp (fun bs=>(An .i64 (((e.drop ((b.toNat)*22)).take 22).drop 13) fun bt=>(Aw N 0 1048576 [(.int .i64 bt)] 1 false true (fun bu=>(Ab N bu 3 b 13 3 bs (fun bv=>(An .i64 (((e.drop ((b.toNat)*22)).take 22).drop 14) fun bw=>(Aw N 0 1048576 [(.int .i64 bw)] 1 false true (fun bx=>(Ab N bx 3 b 14 3 bv (fun bz=>(An .i64 (((e.drop ((b.toNat)*22)).take 22).drop 15) fun ca=>(Aw N 0 24 [(.int .i64 ca)] 1 false true (fun cb=>(Ab N cb 3 b 15 3 bz (fun cc=>(An .i64 (((e.drop ((b.toNat)*22)).take 22).drop 16) fun cd=>(Aw N 0 1048576 [(.int .i64 cd)] 1 false true (fun ce=>(Ab N ce 3 b 16 3 cc (fun cf=>(An .i64 (((e.drop ((b.toNat)*22)).take 22).drop 17) fun cg=>(Aw N 0 1048576 [(.int .i64 cg)] 1 false true (fun ch=>(Ab N ch 3 b 17 3 cf (fun ci=>(cond (Nat.ble 8 (f.length)) (Co 1 (((e.drop ((b.toNat)*22)).take 22).drop 18) fun cj ck=>(Hl N (f.take 8) c cj ck false c 3 b 18 ci (fun cl=>(An .i64 (((e.drop ((b.toNat)*22)).take 22).drop 19) fun cm=>(Aw N 0 2 [(.int .i64 cm)] 1 false true (fun cn=>(Ab N cn 3 b 19 12 cl (fun n=>(An .i64 (((e.drop ((b.toNat)*22)).take 22).drop 19) fun co=>(cond ((co != 1)==false) (An .i64 (((e.drop ((b.toNat)*22)).take 22).drop 12) fun cp=>(Ab N (cond false true (decide (cp>0))) 3 b 19 16 n (fun cq=>(q0 cq ((e.drop ((b.toNat)*22)).take 22))))) (Ab N true 3 b 19 16 n (fun cr=>(q0 cr ((e.drop ((b.toNat)*22)).take 22)))))))))))))) none)))))))))))))))))))))))))))))))))))))))))))))))))))))))))))))))))))))))) none))))))))))))))) none))) none) none) none) none))
def Hn:=(Af (fun (N:Nat) (f:LA) (c:Bool) (b:Int) (l:LA) (r0:LA→O R)=>(Oj N r0 (fun g d=>(Kn N r0 b c g d)) f c b l))).1
theorem Zq (f c b l r0):(@Hn R N f c b l r0)=(Oj N r0 (fun g d=>(Kn N r0 b c g d)) f c b l):=by rw[Hn,(Af _).2]
def CA:Hints:={ H:=(hS hL (hS hL (hS hL (hS hL (hS hL (hS hL (hS hL (hS hL (hS hL (hS hL (hS hL (hS hL (hS hL (hS hL (hS hL (hS hL (hS hL (hS hL (hS hL (hS hL (hS hL (hS hL (hJ [0,2,6,7] hL (hS hL (hJ [0,2,6,7] hL hL))))))))))))))))))))))))) }
def HL:Ef:=[(153,Fg N),(185,Mm N),(156,Dv N),(155,Bt N),(188,RD N),(187,BW N)]
def CB (F:KF R):=Ja Tryz.f158 CA (HL N) [100000] N F
def Fi (F:KF R):LA→O R:=(fun cs=>F (.tup []) [(100000,(bQ 0 cs))])
def jA (b:Int) (c:Bool) (d i:LA):St:=⟨[(0,(.optr 100000 0)),(2,(iv b)),(6,(op 0)),(7,(iv 3))],[(100000,(bQ 0 i)),(300000,(bP c 0 d))]⟩
def jB (F:KF R):=CB N F [1,1,1,1,1,1,1,1,1,1,1,1,1,1,1,1,1,1,1,1,1,1,1,1,1] []
def jC (b:Int) (c:Bool) (g d:LA):St:=⟨[(0,(.optr 100000 0)),(2,(iv b)),(6,(op 0)),(7,(iv 3))],[(100000,(bQ 0 g)),(300000,(bP c 0 d))]⟩
def jD (F:KF R):=CB N F [1,1,1,1,1,1,1,1,1,1,1,1,1,1,1,1,1,1,1,1,1,1,1] []
theorem V' (F:KF R) (b:Int) (c:Bool) (d:LA):∀ (i:LA),A8 (jB N F) (jA b c d i)=(Ra N (Fi F) b c d i):=by
 intro i
 kernel_rfl
theorem WA (F:KF R) (b:Int) (c:Bool):∀ (g d:LA),A8 (jD N F) (jC b c g d)=(Kn N (Fi F) b c g d):=by
 intro g d
 exact Eq.trans (by kernel_rfl) (Bn (Pk N (Fi F) b c · g d) (funext fun i=>(Ar ..).trans (V' N F b c d i)):_)
theorem CC (f:LA) (c:Bool) (b:Int) (l:LA) (F:KF R):Cm (HL N) CA N 158 [(.optr 100000 0),(.pagg f c),(iv b)] [(100000,(bQ 0 l))] F=(Hn N f c b l (Fi F)):=by
 rw[Zq]
 exact Eq.trans (by kernel_rfl) (Bn (Oj N (Fi F) · f c b l) (funext fun g=>funext fun d=>(Ar ..).trans (WA N F b c g d)):_)
def Zr (a:LA) (h:Am) (k:KF R):O R :=
 match a,h with
 | [(.optr 100000 0),(.pagg f c),(.int .i64 b)],[(100000,⟨false,false,true,false,0,l,false⟩)]=>(Hn N f c b l (Fi k))
 | _,_=>none
theorem CD:Ao N 158 @Zr:=by
 intro R Q a h k j;unfold Zr;split;exact Ay (CC ..) (CC ..) ⟨Fh N,Mn N,Dw N,Bu N,RF N,BX N,trivial⟩;exact A0
def jE:=Az (CD N)
def jF:=Cj (CD N)
def Tf (d:LA) (e:Bool) (b:Int) (f:LA) (r0:LA→O R):O R :=
 (Co 9 (d.drop 5) fun c i=>(cond (Ac b i) (cond (Nat.ble 9 ((c.drop ((b.toNat)*9)).length)) (cond ((Nat.beq 0 0)&&((Nat.beq (((c.drop ((b.toNat)*9)).take 9).length) 9)&&(Nat.beq 9 9))) (cond (Nat.ble 8 (d.length)) (Cr N (d.take 8) e 4 b f (fun l=>(cond (Nat.ble 8 (d.length)) (An .i64 (((c.drop ((b.toNat)*9)).take 9).drop 1) fun m=>(Eo N (d.take 8) e m 4 b 1 l (fun n=>(An .i64 (((c.drop ((b.toNat)*9)).take 9).drop 2) fun o=>(Aw N 0 1048576 [(.int .i64 o)] 1 false true (fun p=>(Ab N p 4 b 2 3 n (fun q=>(An .i64 (((c.drop ((b.toNat)*9)).take 9).drop 2) fun r=>(An .i64 (((c.drop ((b.toNat)*9)).take 9).drop 3) fun s=>(Aw N 0 r [(.int .i64 s)] 1 false true (fun t=>(Ab N t 4 b 3 3 q (fun u=>(An .i64 (((c.drop ((b.toNat)*9)).take 9).drop 2) fun v=>(An .i64 (((c.drop ((b.toNat)*9)).take 9).drop 4) fun w=>(Aw N 0 v [(.int .i64 w)] 1 false true (fun x=>(Ab N x 4 b 4 3 u (fun y=>(An .i64 (((c.drop ((b.toNat)*9)).take 9).drop 5) fun z=>(Aw N 0 1048576 [(.int .i64 z)] 1 false true (fun aa=>(Ab N aa 4 b 5 3 y (fun ab=>(An .i64 (((c.drop ((b.toNat)*9)).take 9).drop 6) fun ac=>(Aw N 0 1048576 [(.int .i64 ac)] 1 false true (fun ad=>(Ab N ad 4 b 6 3 ab (fun g=>(cond (Nat.ble 2 ((((c.drop ((b.toNat)*9)).take 9).drop 7).length)) (cond ((!e)||(Ba ((((c.drop ((b.toNat)*9)).take 9).drop 7).take 2))) (Jk N ((((c.drop ((b.toNat)*9)).take 9).drop 7).take 2) false (fun ae=>(cond (ae==true) (An .i64 (((c.drop ((b.toNat)*9)).take 9).drop 7) fun af=>(cond ((cond true (decide (af>0)) false)==true) (An .i64 (((c.drop ((b.toNat)*9)).take 9).drop 7) fun ag=>(An .i64 (((c.drop ((b.toNat)*9)).take 9).drop 8) fun ah=>(Ab N (cond true (decide (ag≤ah)) false) 4 b 7 3 g (fun ai=>(r0 ai))))) (Ab N false 4 b 7 3 g (fun aj=>(r0 aj))))) (Ab N false 4 b 7 3 g (fun ak=>(r0 ak)))))) none) none))))))))))))))))))))))))))))))) none))) none) none) none) none))
def Jl:=(Af (@Tf R)).1
theorem Wg:@Jl R=@Tf R:=(Af _).2
def jG:Ef:=[(153,Fg N),(185,Mm N),(156,Dv N),(155,Bt N),(186,Z' N)]
def Zs (F:KF R):LA→O R:=(fun al=>F (.tup []) [(100000,(bQ 0 al))])
theorem Zt (d:LA) (e:Bool) (b:Int) (f:LA) (F:KF R):Cm (jG N) Dr N 159 [(.optr 100000 0),(.pagg d e),(iv b)] [(100000,(bQ 0 f))] F=(Jl N d e b f (Zs F)):=by
 rw[Wg]
 kernel_rfl
def Wh (a:LA) (h:Am) (k:KF R):O R :=
 match a,h with
 | [(.optr 100000 0),(.pagg d e),(.int .i64 b)],[(100000,⟨false,false,true,false,0,f,false⟩)]=>(Jl N d e b f (Zs k))
 | _,_=>none
theorem Zu:Ao N 159 @Wh:=by
 intro R Q a h k j;unfold Wh;split;exact Ay (Zt ..) (Zt ..) ⟨Fh N,Mn N,Dw N,Bu N,aA N,trivial⟩;exact A0
def f6:=Az (Zu N)
def f7:=Cj (Zu N)
def Xl (c:LA) (d:Bool) (b:Int) (e:LA) (r0:LA→O R):O R :=
 (Co 5 (c.drop 6) fun f g=>(cond (Ac b g) (cond (Nat.ble 5 ((f.drop ((b.toNat)*5)).length)) (cond ((Nat.beq 0 0)&&((Nat.beq (((f.drop ((b.toNat)*5)).take 5).length) 5)&&(Nat.beq 5 5))) (cond (Nat.ble 8 (c.length)) (Cr N (c.take 8) d 5 b e (fun i=>(cond (Nat.ble 8 (c.length)) (An .i64 (((f.drop ((b.toNat)*5)).take 5).drop 1) fun l=>(Eo N (c.take 8) d l 5 b 1 i (fun m=>(cond (Nat.ble 8 (c.length)) (Co 1 (((f.drop ((b.toNat)*5)).take 5).drop 2) fun n o=>(Cx N (c.take 8) d n o false d 0 1048576 5 b 2 m (fun p=>(cond (Nat.ble 8 (c.length)) (Co 1 (((f.drop ((b.toNat)*5)).take 5).drop 3) fun q r=>(Cx N (c.take 8) d q r false d 0 1048576 5 b 3 p (fun s=>(cond (Nat.ble 8 (c.length)) (Co 1 (((f.drop ((b.toNat)*5)).take 5).drop 4) fun t u=>(Cx N (c.take 8) d t u false d (-1048576) 1048576 5 b 4 s (fun v=>(r0 v)))) none)))) none)))) none)))) none))) none) none) none) none))
def Ni:=(Af (@Xl R)).1
theorem CE:@Ni R=@Xl R:=(Af _).2
def rY:Ef:=[(153,Fg N),(185,Mm N),(154,N1 N)]
def HM (F:KF R):LA→O R:=(fun w=>F (.tup []) [(100000,(bQ 0 w))])
theorem HN (c:LA) (d:Bool) (b:Int) (e:LA) (F:KF R):Cm (rY N) Dr N 160 [(.optr 100000 0),(.pagg c d),(iv b)] [(100000,(bQ 0 e))] F=(Ni N c d b e (HM F)):=by
 rw[CE]
 kernel_rfl
def CF (a:LA) (h:Am) (k:KF R):O R :=
 match a,h with
 | [(.optr 100000 0),(.pagg c d),(.int .i64 b)],[(100000,⟨false,false,true,false,0,e,false⟩)]=>(Ni N c d b e (HM k))
 | _,_=>none
theorem HO:Ao N 160 @CF:=by
 intro R Q a h k j;unfold CF;split;exact Ay (HN ..) (HN ..) ⟨Fh N,Mn N,N2 N,trivial⟩;exact A0
def na:=Az (HO N)
def nc:=Cj (HO N)
def Hb (r0:LA→O R) (b:Int) (l:LA) (o:Nat) (c:Bool) (k2:Int→Int→LA→O R) (r f:Int) (s:LA):O R :=
 (cond (decide (f<r)) (cond (Ac f o) (cond (Nat.ble 3 ((l.drop ((f.toNat)*3)).length)) (cond ((!c)||(Ba ((l.drop ((f.toNat)*3)).take 3))) (cond ((Nat.beq (((l.drop ((f.toNat)*3)).take 3).length) 3)&&((Nat.ble 3 3)&&(!false))) (An .i64 ((setCells [(.int .i64 0),(.int .i64 0),(.int .i64 0)] 0 ((l.drop ((f.toNat)*3)).take 3)).drop 1) fun z=>(An .i64 ((setCells [(.int .i64 0),(.int .i64 0),(.int .i64 0)] 0 ((l.drop ((f.toNat)*3)).take 3)).drop 2) fun aa=>(Aw N 0 1048576 [(.int .i64 z),(.int .i64 aa)] 2 false true (fun ab=>(Ab N ab 6 b 3 3 s (fun ac=>(k2 r (wrap .i64 (f+1)) ac))))))) none) none) none) none) (r0 s))
def Eg (r0:LA→O R) (b:Int) (l:LA) (o:Nat) (c:Bool):Nat→Int→Int→LA→O R
 | 0,_,_,_=>none
 | n+1,r,f,s=>(Hb N r0 b l o c (Eg r0 b l o c n) r f s)
def Hc (r0:LA→O R) (b:Int) (m:LA) (p:Nat) (c:Bool) (t d e:LA) (k1:Nat→Int→Int→LA→O R) (q2:LA→Nat→Int→Int→LA→O R) (g:Nat) (u i:Int) (q:LA):O R :=
 (cond (decide (i<u)) (cond (Ac i p) (cond (Nat.ble 3 ((m.drop ((i.toNat)*3)).length)) (cond ((!c)||(Ba ((m.drop ((i.toNat)*3)).take 3))) (cond ((Nat.beq (((m.drop ((i.toNat)*3)).take 3).length) 3)&&((Nat.ble 3 3)&&(!false))) (An .i64 (setCells [(.int .i64 0),(.int .i64 0),(.int .i64 0)] 0 ((m.drop ((i.toNat)*3)).take 3)) fun ad=>(cond ((Nat.ble (g+1) 140737488355328)&&(Nat.ble ((g+1)*8) 140737488355328)) (k1 (g+1) u (wrap .i64 (i+1)) ((q.take (g*1))++[(.int .i64 ad)])) none)) none) none) none) none) (Co 22 (d.drop 4) fun be ae=>(Aw N 0 (wrap .i64 (((ae:Nat):Int) - 1)) (q.take (g*1)) g false true (fun af=>(Ab N af 6 b 3 12 t (fun ag=>(Pe N (q.take (g*1)) g false true (fun ah=>(Ab N ah 6 b 3 11 ag (fun ai=>(Co 3 (e.drop 3) fun l o=>(q2 l o ((o:Nat):Int) 0 ai))))))))))))
def Eh (r0:LA→O R) (b:Int) (m:LA) (p:Nat) (c:Bool) (t d e:LA):Nat→Nat→Int→Int→LA→O R
 | 0,_,_,_,_=>none
 | n+1,g,u,i,q=>(Hc N r0 b m p c t d e (Eh r0 b m p c t d e n) (fun l o r f s=>(Eg N r0 b l o c N r f s)) g u i q)
def Mo (r0:LA→O R) (b:Int) (c:Bool) (d:LA) (q1:LA→Nat→LA→Nat→Int→Int→LA→O R) (v e:LA):O R :=
 (Co 3 (e.drop 3) fun bf aj=>(Ab N (decide (((aj:Nat):Int)≤16)) 6 b 3 8 v (fun t=>(Co 3 (e.drop 3) fun m p=>(q1 m p t 0 ((p:Nat):Int) 0 [])))))
def In (r0:LA→O R) (b:Int) (c:Bool) (d:LA) (v e:LA):O R:=(Mo N r0 b c d (fun m p t g u i q=>(Eh N r0 b m p c t d e N g u i q)) v e)
def Ko (r0:LA→O R) (q0:LA→LA→O R) (d:LA) (c:Bool) (b:Int) (w:LA):O R :=
 (Co 4 (d.drop 7) fun x ak=>(cond (Ac b ak) (cond (Nat.ble 4 ((x.drop ((b.toNat)*4)).length)) (cond ((Nat.beq 0 0)&&((Nat.beq (((x.drop ((b.toNat)*4)).take 4).length) 4)&&(Nat.beq 4 4))) (cond (Nat.ble 8 (d.length)) (Cr N (d.take 8) c 6 b w (fun al=>(Co 1 (((x.drop ((b.toNat)*4)).take 4).drop 1) fun bg am=>(Aw N 1 2 [(.int .i64 ((am:Nat):Int))] 1 false true (fun an=>(Ab N an 6 b 1 4 al (fun ao=>(Co 12 (d.drop 3) fun bh ap=>(Co 1 (((x.drop ((b.toNat)*4)).take 4).drop 1) fun aq ar=>(Aw N 0 (wrap .i64 (((ap:Nat):Int) - 1)) aq ar false c (fun au=>(Ab N au 6 b 1 12 ao (fun av=>(Co 1 (((x.drop ((b.toNat)*4)).take 4).drop 1) fun aw ax=>(Pe N aw ax false c (fun ay=>(Ab N ay 6 b 1 11 av (fun y=>(ON (((x.drop ((b.toNat)*4)).take 4).drop 2) fun az=>(cond (az==false) (Co 3 (((x.drop ((b.toNat)*4)).take 4).drop 3) fun bi ba=>(Ab N (cond false true (((ba:Nat):Int)==0)) 6 b 3 16 y (fun bb=>(q0 bb ((x.drop ((b.toNat)*4)).take 4))))) (Ab N true 6 b 3 16 y (fun bc=>(q0 bc ((x.drop ((b.toNat)*4)).take 4)))))))))))))))))))))))) none) none) none) none))
def F1:=(Af (fun (N:Nat) (d:LA) (c:Bool) (b:Int) (w:LA) (r0:LA→O R)=>(Ko N r0 (fun v e=>(In N r0 b c d v e)) d c b w))).1
theorem Vg (d c b w r0):(@F1 R N d c b w r0)=(Ko N r0 (fun v e=>(In N r0 b c d v e)) d c b w):=by rw[F1,(Af _).2]
def Wi:Hints:={ H:=(hS hL (hS hL (hS hL (hS hL (hS hL (hS hL (hJ [0,2,4,6,7] hL (hS hL (hS hL (hS (hS hL (hS (hP [0,2,4,6,7,8,71,72,73] hL) hL)) (hS hL (hS hL (hS hL (hS (hP [0,2,7,100,101,102] hL) hL)))))))))))))),nils:=[(8,1)] }
def Zv:Ef:=[(153,Fg N),(156,Dv N),(155,Bt N),(189,lT N)]
def N3 (F:KF R):=Ja Tryz.f161 Wi (Zv N) [100000] N F
def B9 (F:KF R):LA→O R:=(fun bd=>F (.tup []) [(100000,(bQ 0 bd))])
def bM (b:Int) (l:LA) (o:Nat) (c:Bool) (r f:Int) (s:LA):St:=⟨[(0,(.optr 100000 0)),(2,(iv b)),(7,(iv 6)),(100,(.imm l o 3 false c)),(101,(iv r)),(102,(iv f))],[(100000,(bQ 0 s))]⟩
def bN (F:KF R):=N3 N F [1,1,1,1,1,1,1,1,1,1,1,1,1,0] []
def bO (b:Int) (m:LA) (p:Nat) (c:Bool) (t d e:LA) (g:Nat) (u i:Int) (q:LA):St:=⟨[(0,(.optr 100000 0)),(2,(iv b)),(4,(op 0)),(6,(op 1)),(7,(iv 6)),(8,(.own 300002 0 g)),(71,(.imm m p 3 false c)),(72,(iv u)),(73,(iv i))],[(100000,(bQ 0 t)),(300000,(bP c 0 d)),(300001,(bP c 0 e)),(300002,(bQ 1 q))]⟩
def bR (F:KF R):=N3 N F [1,1,1,1,1,1,1,1,1,0,1,0] []
def bS (b:Int) (c:Bool) (d v e:LA):St:=⟨[(0,(.optr 100000 0)),(2,(iv b)),(4,(op 0)),(6,(op 1)),(7,(iv 6))],[(100000,(bQ 0 v)),(300000,(bP c 0 d)),(300001,(bP c 0 e))]⟩
def bU (F:KF R):=N3 N F [1,1,1,1,1,1,1] []
theorem Rv (F:KF R) (b:Int) (l:LA) (o:Nat) (c:Bool):∀ (n:Nat) (r f:Int) (s:LA),Ap (bN N F) n (bM b l o c r f s)=(Eg N (B9 F) b l o c n r f s)
 | 0,_,_,_=>by kernel_rfl
 | n+1,r,f,s=>Eq.trans (by kernel_rfl) (Bn (Hb N (B9 F) b l o c · r f s) (funext fun r=>funext fun f=>funext fun s=>(Rv F b l o c n r f s)):_)
theorem Rw (F:KF R) (b:Int) (m:LA) (p:Nat) (c:Bool) (t d e:LA):∀ (n g:Nat) (u i:Int) (q:LA),Ap (bR N F) n (bO b m p c t d e g u i q)=(Eh N (B9 F) b m p c t d e n g u i q)
 | 0,_,_,_,_=>by kernel_rfl
 | n+1,g,u,i,q=>Eq.trans (by kernel_rfl) (cR (Hc N (B9 F) b m p c t d e · · g u i q) (funext fun g=>funext fun u=>funext fun i=>funext fun q=>(Rw F b m p c t d e n g u i q)) (funext fun l=>funext fun o=>funext fun r=>funext fun f=>funext fun s=>(Aj ..).trans (Rv N F b l o c N r f s)):_)
theorem NQ (F:KF R) (b:Int) (c:Bool) (d:LA):∀ (v e:LA),A8 (bU N F) (bS b c d v e)=(In N (B9 F) b c d v e):=by
 intro v e
 exact Eq.trans (by kernel_rfl) (Bn (Mo N (B9 F) b c d · v e) (funext fun m=>funext fun p=>funext fun t=>funext fun g=>funext fun u=>funext fun i=>funext fun q=>(Aj ..).trans (Rw N F b m p c t d e N g u i q)):_)
theorem Wj (d:LA) (c:Bool) (b:Int) (w:LA) (F:KF R):Cm (Zv N) Wi N 161 [(.optr 100000 0),(.pagg d c),(iv b)] [(100000,(bQ 0 w))] F=(F1 N d c b w (B9 F)):=by
 rw[Vg]
 exact Eq.trans (by kernel_rfl) (Bn (Ko N (B9 F) · d c b w) (funext fun v=>funext fun e=>(Ar ..).trans (NQ N F b c d v e)):_)
def Vh (a:LA) (h:Am) (k:KF R):O R :=
 match a,h with
 | [(.optr 100000 0),(.pagg d c),(.int .i64 b)],[(100000,⟨false,false,true,false,0,w,false⟩)]=>(F1 N d c b w (B9 k))
 | _,_=>none
theorem Wk:Ao N 161 @Vh:=by
 intro R Q a h k j;unfold Vh;split;exact Ay (Wj ..) (Wj ..) ⟨Fh N,Dw N,Bu N,lU N,trivial⟩;exact A0
def bV:=Az (Wk N)
def bW:=Cj (Wk N)
def LX (N:Nat) (r0:Bool→O R) (c:LA) (b:Nat) (e f:Bool) (d:Int) (k0:Int→O R) (g:Int):O R :=
 (cond (decide (g<((b:Nat):Int))) (cond (Ac g b) (An .i64 (c.drop ((g.toNat)*1)) fun i=>(cond (i==d) (r0 true) (k0 (wrap .i64 (g+1))))) none) (r0 false))
def Tg (r0:Bool→O R) (c:LA) (b:Nat) (e f:Bool) (d:Int):Nat→Int→O R
 | 0,_=>none
 | n+1,g=>(LX N r0 c b e f d (Tg r0 c b e f d n) g)
def rZ (N:Nat) (r0:Bool→O R) (q0:Int→O R) (c:LA) (b:Nat) (e f:Bool) (d:Int):O R :=
 (q0 0)
def LY:=(Af (fun (N:Nat) (c:LA) (b:Nat) (e f:Bool) (d:Int) (r0:Bool→O R)=>(rZ N r0 (fun g=>(Tg N r0 c b e f d N g)) c b e f d))).1
theorem yh (c b e f d r0):(@LY R N c b e f d r0)=(rZ N r0 (fun g=>(Tg N r0 c b e f d N g)) c b e f d):=by rw[LY,(Af _).2]
def Ajr:Hints:={ H:=(hS hL (hS (hS hL (hS (hP [0,1,5] hL) hL)) hL)) }
def A3p (F:KF R):=Ja Tryz.f163 Ajr [] [] N F
def HP (F:KF R):Bool→O R:=(fun l=>F (.bool l) [])
def A3q (c:LA) (b:Nat) (e f:Bool) (d g:Int):St:=⟨[(0,(.imm c b 1 e f)),(1,(iv d)),(5,(iv g))],[]⟩
def A3r (F:KF R):=A3p N F [1,0,1,0] []
theorem lV (F:KF R) (c:LA) (b:Nat) (e f:Bool) (d:Int):∀ (n:Nat) (g:Int),Ap (A3r N F) n (A3q c b e f d g)=(Tg N (HP F) c b e f d n g)
 | 0,_=>by kernel_rfl
 | n+1,g=>Eq.trans (by kernel_rfl) (Bn (LX N (HP F) c b e f d · g) (funext fun g=>(lV F c b e f d n g)):_)
theorem Ajs (c:LA) (b:Nat) (e f:Bool) (d:Int) (F:KF R):Cm [] Ajr N 163 [(.imm c b 1 e f),(iv d)] [] F=(LY N c b e f d (HP F)):=by
 rw[yh]
 exact Eq.trans (by kernel_rfl) (Bn (rZ N (HP F) · c b e f d) (funext fun g=>(Aj ..).trans (lV N F c b e f d N g)):_)
def yi (a:LA) (h:Am) (k:KF R):O R :=
 match a,h with
 | [(.imm c b 1 e f),(.int .i64 d)],[]=>(LY N c b e f d (HP k))
 | _,_=>none
theorem Ajt:Ao N 163 @yi:=by
 intro R Q a h k j;unfold yi;split;exact Ay (Ajs ..) (Ajs ..) trivial;exact A0
def nf:=Az (Ajt N)
def ng:=Cj (Ajt N)
def Ok (r0:Nat→LA→O R) (c:Int) (d:Bool) (b:LA) (k0:Nat→Int→LA→O R) (e:Nat) (f:Int) (g:LA):O R :=
 (Co 12 (b.drop 3) fun t i=>(cond (decide (f<((i:Nat):Int))) (Co 12 (b.drop 3) fun l m=>(cond (Ac f m) (Co 1 ((l.drop ((f.toNat)*12)).drop 11) fun o p=>(LY N o p false d c (fun q=>(cond (!q) (cond ((Nat.ble (e+1) 140737488355328)&&(Nat.ble ((e+1)*8) 140737488355328)) (k0 (e+1) (wrap .i64 (f+1)) ((g.take (e*1))++[(.int .i64 f)])) none) (k0 e (wrap .i64 (f+1)) g))))) none)) (r0 e g)))
def F2 (r0:Nat→LA→O R) (c:Int) (d:Bool) (b:LA):Nat→Nat→Int→LA→O R
 | 0,_,_,_=>none
 | n+1,e,f,g=>(Ok N r0 c d b (F2 r0 c d b n) e f g)
def Vi (N:Nat) (r0:Nat→LA→O R) (q0:Nat→Int→LA→O R) (b:LA) (d:Bool) (c:Int):O R :=
 (q0 0 0 [])
def Nu:=(Af (fun (N:Nat) (b:LA) (d:Bool) (c:Int) (r0:Nat→LA→O R)=>(Vi N r0 (fun e f g=>(F2 N r0 c d b N e f g)) b d c))).1
theorem LZ (b d c r0):(@Nu R N b d c r0)=(Vi N r0 (fun e f g=>(F2 N r0 c d b N e f g)) b d c):=by rw[Nu,(Af _).2]
def RG:Hints:={ H:=(hS hL (hS hL (hS (hS hL (hS (hP [1,2,5,6] hL) hL)) hL))),nils:=[(4,1),(5,1)],modes:=[(2,1)] }
def aB:Ef:=[(163,nf N)]
def uv (F:KF R):=Ja Tryz.f190 RG (aB N) [] N F
def La (F:KF R):Nat→LA→O R:=(fun r s=>F (.own 300000 0 r) (hq [(bQ 1 s)]))
def uw (c:Int) (d:Bool) (b:LA) (e:Nat) (f:Int) (g:LA):St:=⟨[(1,(iv c)),(2,(op 0)),(5,(.own 300001 0 e)),(6,(iv f))],(hq [(bP d 0 b),(bQ 1 g)])⟩
def ux (F:KF R):=uv N F [1,1,0,1,0] []
theorem CG (F:KF R) (c:Int) (d:Bool) (b:LA):∀ (n e:Nat) (f:Int) (g:LA),Ap (ux N F) n (uw c d b e f g)=(F2 N (La F) c d b n e f g)
 | 0,_,_,_=>by kernel_rfl
 | n+1,e,f,g=>Eq.trans (by kernel_rfl) (Bn (Ok N (La F) c d b · e f g) (funext fun e=>funext fun f=>funext fun g=>(CG F c d b n e f g)):_)
theorem RH (b:LA) (d:Bool) (c:Int) (F:KF R):Cm (aB N) RG N 190 [(.pagg b d),(iv c)] [] F=(Nu N b d c (La F)):=by
 rw[LZ]
 exact Eq.trans (by kernel_rfl) (Bn (Vi N (La F) · b d c) (funext fun e=>funext fun f=>funext fun g=>(Aj ..).trans (CG N F c d b N e f g)):_)
def L_ (a:LA) (h:Am) (k:KF R):O R :=
 match a,h with
 | [(.pagg b d),(.int .i64 c)],[]=>(Nu N b d c (La k))
 | _,_=>none
theorem RI:Ao N 190 @L_:=by
 intro R Q a h k j;unfold L_;split;exact Ay (RH ..) (RH ..) ⟨ng N,trivial⟩;exact A0
def uy:=Az (RI N)
def uz:=Cj (RI N)
end
end Gx

namespace Gx
open Go Go.Proofs
open IntKind (wrap)
set_option maxRecDepth 100000
noncomputable section
variable {R:Type} (N:Nat)
def Yj (N:Nat) (r0:Nat→Nat→LA→LA→O R) (d:Nat) (c:Bool) (b g:LA) (k0:Nat→Int→Int→LA→O R) (e:Nat) (i f:Int) (l:LA):O R :=
 (cond (decide (f<i)) (cond (Ac f d) (An .i64 (g.drop (0+((f.toNat)*1))) fun o=>(Co 12 (b.drop 3) fun p q=>(cond (Ac o q) (An .i64 ((p.drop ((o.toNat)*12)).drop 1) fun r=>(Co 12 (b.drop 3) fun s t=>(cond (Ac o t) (An .i64 ((s.drop ((o.toNat)*12)).drop 2) fun u=>(cond ((Nat.ble (e+1) 140737488355328)&&(Nat.ble ((e+1)*16) 140737488355328)) (k0 (e+1) i (wrap .i64 (f+1)) ((l.take (e*2))++[(.int .i64 r),(.int .i64 u)])) none)) none))) none))) none) (r0 e d l g))
def Mp (r0:Nat→Nat→LA→LA→O R) (d:Nat) (c:Bool) (b g:LA):Nat→Nat→Int→Int→LA→O R
 | 0,_,_,_,_=>none
 | n+1,e,i,f,l=>(Yj N r0 d c b g (Mp r0 d c b g n) e i f l)
def WB (r0:Nat→Nat→LA→LA→O R) (q0:Nat→LA→Nat→Int→Int→LA→O R) (b:LA) (c:Bool) (m:Int):O R :=
 (cond (Nat.ble 8 (b.length)) (Nu N (b.take 8) c m (fun d g=>(q0 d g 0 ((d:Nat):Int) 0 []))) none)
def EL:=(Af (fun (N:Nat) (b:LA) (c:Bool) (m:Int) (r0:Nat→Nat→LA→LA→O R)=>(WB N r0 (fun d g e i f l=>(Mp N r0 d c b g N e i f l)) b c m))).1
theorem lW (b c m r0):(@EL R N b c m r0)=(WB N r0 (fun d g e i f l=>(Mp N r0 d c b g N e i f l)) b c m):=by rw[EL,(Af _).2]
def r7:Hints:={ H:=(hS hL (hS hL (hS hL (hS (hS hL (hS (hP [2,6,7,13,14,15] hL) hL)) hL)))),nils:=[(4,2),(5,1),(7,2)],modes:=[(2,2),(2,1)] }
def yj:Ef:=[(190,uy N)]
def Auv (F:KF R):=Ja Tryz.f162 r7 (yj N) [] N F
def Vj (F:KF R):Nat→Nat→LA→LA→O R:=(fun v w x y=>F (.tup [(.own 300000 0 v),(.own 300001 0 w)]) (hq [(bQ 2 x),(bQ 1 y)]))
def Auw (d:Nat) (c:Bool) (b g:LA) (e:Nat) (i f:Int) (l:LA):St:=⟨[(2,(op 0)),(6,(.own 300001 0 d)),(7,(.own 300002 0 e)),(13,(.own 300001 0 d)),(14,(iv i)),(15,(iv f))],(hq [(bP c 0 b),(bQ 1 g),(bQ 2 l)])⟩
def Aux (F:KF R):=Auv N F [1,1,1,0,1,0] []
theorem aC (F:KF R) (d:Nat) (c:Bool) (b g:LA):∀ (n e:Nat) (i f:Int) (l:LA),Ap (Aux N F) n (Auw d c b g e i f l)=(Mp N (Vj F) d c b g n e i f l)
 | 0,_,_,_,_=>by kernel_rfl
 | n+1,e,i,f,l=>Eq.trans (by kernel_rfl) (Bn (Yj N (Vj F) d c b g · e i f l) (funext fun e=>funext fun i=>funext fun f=>funext fun l=>(aC F d c b g n e i f l)):_)
theorem r8 (b:LA) (c:Bool) (m:Int) (F:KF R):Cm (yj N) r7 N 162 [(.pagg b c),(iv m)] [] F=(EL N b c m (Vj F)):=by
 rw[lW]
 exact Eq.trans (by kernel_rfl) (Bn (WB N (Vj F) · b c m) (funext fun d=>funext fun g=>funext fun e=>funext fun i=>funext fun f=>funext fun l=>(Aj ..).trans (aC N F d c b g N e i f l)):_)
def lX (a:LA) (h:Am) (k:KF R):O R :=
 match a,h with
 | [(.pagg b c),(.int .i64 m)],[]=>(EL N b c m (Vj k))
 | _,_=>none
theorem r9:Ao N 162 @lX:=by
 intro R Q a h k j;unfold lX;split;exact Ay (r8 ..) (r8 ..) ⟨uz N,trivial⟩;exact A0
def Auy:=Az (r9 N)
def Auz:=Cj (r9 N)
def Sh (N:Nat) (k1:Bool→LA→O R) (r0:Nat→LA→O R) (b:LA) (d:Nat) (f e:Bool) (c:Nat) (k2:Bool→Int→Int→LA→O R) (s:Bool) (p g:Int) (l:LA):O R :=
 (cond (decide (g<p)) (cond (Ac g d) (cond (Nat.ble 2 ((b.drop ((g.toNat)*2)).length)) (cond ((!e)||(Ba ((b.drop ((g.toNat)*2)).take 2))) (cond ((Nat.beq (((b.drop ((g.toNat)*2)).take 2).length) 2)&&((Nat.ble 2 2)&&(!false))) (An .i64 (setCells [(.int .i64 0),(.int .i64 0)] 0 ((b.drop ((g.toNat)*2)).take 2)) fun ab=>(cond (Ac ab c) (An .i64 (l.drop (0+((ab.toNat)*1))) fun t=>(An .i64 ((setCells [(.int .i64 0),(.int .i64 0)] 0 ((b.drop ((g.toNat)*2)).take 2)).drop 1) fun ac=>(cond (Ac ac c) (An .i64 (l.drop (0+((ac.toNat)*1))) fun u=>(cond (s==false) (An .i64 (setCells [(.int .i64 0),(.int .i64 0)] 0 ((b.drop ((g.toNat)*2)).take 2)) fun ad=>(cond (Ac ad c) (An .i64 (l.drop (0+((ad.toNat)*1))) fun af=>(cond ((cond false true (af != (Bv t u)))==false) (An .i64 ((setCells [(.int .i64 0),(.int .i64 0)] 0 ((b.drop ((g.toNat)*2)).take 2)).drop 1) fun ae=>(cond (Ac ae c) (An .i64 (l.drop (0+((ae.toNat)*1))) fun ag=>(An .i64 (setCells [(.int .i64 0),(.int .i64 0)] 0 ((b.drop ((g.toNat)*2)).take 2)) fun v=>(An .i64 ((setCells [(.int .i64 0),(.int .i64 0)] 0 ((b.drop ((g.toNat)*2)).take 2)).drop 1) fun y=>(cond (Ac v c) (cond ((Nat.beq 1 1)&&((Nat.ble ((0+((v.toNat)*1))+1) (l.length))&&(!false))) (cond (Ac y c) (cond ((Nat.beq 1 1)&&((Nat.ble ((0+((y.toNat)*1))+1) ((l.set (0+((v.toNat)*1)) (.int .i64 (Bv t u))).length))&&(!false))) (k2 (cond false true (ag != (Bv t u))) p (wrap .i64 (g+1)) ((l.set (0+((v.toNat)*1)) (.int .i64 (Bv t u))).set (0+((y.toNat)*1)) (.int .i64 (Bv t u)))) none) none) none) none)))) none)) (An .i64 (setCells [(.int .i64 0),(.int .i64 0)] 0 ((b.drop ((g.toNat)*2)).take 2)) fun w=>(An .i64 ((setCells [(.int .i64 0),(.int .i64 0)] 0 ((b.drop ((g.toNat)*2)).take 2)).drop 1) fun z=>(cond (Ac w c) (cond ((Nat.beq 1 1)&&((Nat.ble ((0+((w.toNat)*1))+1) (l.length))&&(!false))) (cond (Ac z c) (cond ((Nat.beq 1 1)&&((Nat.ble ((0+((z.toNat)*1))+1) ((l.set (0+((w.toNat)*1)) (.int .i64 (Bv t u))).length))&&(!false))) (k2 true p (wrap .i64 (g+1)) ((l.set (0+((w.toNat)*1)) (.int .i64 (Bv t u))).set (0+((z.toNat)*1)) (.int .i64 (Bv t u)))) none) none) none) none))))) none)) (An .i64 (setCells [(.int .i64 0),(.int .i64 0)] 0 ((b.drop ((g.toNat)*2)).take 2)) fun x=>(An .i64 ((setCells [(.int .i64 0),(.int .i64 0)] 0 ((b.drop ((g.toNat)*2)).take 2)).drop 1) fun aa=>(cond (Ac x c) (cond ((Nat.beq 1 1)&&((Nat.ble ((0+((x.toNat)*1))+1) (l.length))&&(!false))) (cond (Ac aa c) (cond ((Nat.beq 1 1)&&((Nat.ble ((0+((aa.toNat)*1))+1) ((l.set (0+((x.toNat)*1)) (.int .i64 (Bv t u))).length))&&(!false))) (k2 true p (wrap .i64 (g+1)) ((l.set (0+((x.toNat)*1)) (.int .i64 (Bv t u))).set (0+((aa.toNat)*1)) (.int .i64 (Bv t u)))) none) none) none) none))))) none))) none)) none) none) none) none) (k1 s l))
def If (k1:Bool→LA→O R) (r0:Nat→LA→O R) (b:LA) (d:Nat) (f e:Bool) (c:Nat):Nat→Bool→Int→Int→LA→O R
 | 0,_,_,_,_=>none
 | n+1,s,p,g,l=>(Sh N k1 r0 b d f e c (If k1 r0 b d f e c n) s p g l)
def Si (N:Nat) (r0:Nat→LA→O R) (b:LA) (d:Nat) (f e:Bool) (c:Nat) (k1:Bool→LA→O R) (q2:Bool→Int→Int→LA→O R) (q:Bool) (o:LA):O R :=
 (cond q (q2 false ((d:Nat):Int) 0 o) (r0 c o))
def Dy (r0:Nat→LA→O R) (b:LA) (d:Nat) (f e:Bool) (c:Nat):Nat→Bool→LA→O R
 | 0,_,_=>none
 | n+1,q,o=>(Si N r0 b d f e c (Dy r0 b d f e c n) (fun s p g l=>(If N (Dy r0 b d f e c n) r0 b d f e c N s p g l)) q o)
def Sj (N:Nat) (r0:Nat→LA→O R) (i:Int) (b:LA) (d:Nat) (f e:Bool) (k0:Nat→Int→LA→O R) (q1:Bool→LA→O R) (c:Nat) (m:Int) (r:LA):O R :=
 (cond (decide (m<i)) (cond (Ac m c) (cond ((Nat.beq 1 1)&&((Nat.ble ((0+((m.toNat)*1))+1) (r.length))&&(!false))) (k0 c (wrap .i64 (m+1)) (r.set (0+((m.toNat)*1)) (.int .i64 m))) none) none) (q1 true r))
def Ig (r0:Nat→LA→O R) (i:Int) (b:LA) (d:Nat) (f e:Bool):Nat→Nat→Int→LA→O R
 | 0,_,_,_=>none
 | n+1,c,m,r=>(Sj N r0 i b d f e (Ig r0 i b d f e n) (fun q o=>(Dy N r0 b d f e c N q o)) c m r)
def DN (N:Nat) (r0:Nat→LA→O R) (q0:Nat→Int→LA→O R) (i:Int) (b:LA) (d:Nat) (f e:Bool):O R :=
 (cond ((decide (0≤i))&&((decide (i≤i))&&((decide (i≤140737488355328))&&(decide ((i*((8:Nat):Int))≤140737488355328))))) (q0 (i.toNat) 0 (List.replicate (i.toNat) (.int .i64 0))) none)
def Pl:=(Af (fun (N:Nat) (i:Int) (b:LA) (d:Nat) (f e:Bool) (r0:Nat→LA→O R)=>(DN N r0 (fun c m r=>(Ig N r0 i b d f e N c m r)) i b d f e))).1
theorem aD (i b d f e r0):(@Pl R N i b d f e r0)=(DN N r0 (fun c m r=>(Ig N r0 i b d f e N c m r)) i b d f e):=by rw[Pl,(Af _).2]
def f8:Hints:={ H:=(hS hL (hS hL (hS (hS hL (hS (hP [0,1,5,6] hL) hL)) (hS (hS hL (hS (hP [1,5,7] (hS hL (hS (hS hL (hS hL (hS (hP [1,5,7,23,24,25] hL) hL))) hL))) hL)) hL)))),nils:=[(4,1)],modes:=[(2,1)] }
def HQ (F:KF R):=Ja Tryz.f192 f8 [] [] N F
def En (F:KF R):Nat→LA→O R:=(fun ah ai=>F (.own 300000 0 ah) (hq [(bQ 1 ai)]))
def Aju (b:LA) (d:Nat) (f e:Bool) (c:Nat) (s:Bool) (p g:Int) (l:LA):St:=⟨[(1,(.imm b d 2 f e)),(5,(.own 300000 0 c)),(7,(.bool s)),(23,(.imm b d 2 f e)),(24,(iv p)),(25,(iv g))],(hq [(bQ 1 l)])⟩
def Ajv (F:KF R) (Q1:St→O R):=HQ N F [1,1,1,0,1,0,0,1,0,1,1,0] [Q1]
def HR (b:LA) (d:Nat) (f e:Bool) (c:Nat) (q:Bool) (o:LA):St:=⟨[(1,(.imm b d 2 f e)),(5,(.own 300000 0 c)),(7,(.bool q))],(hq [(bQ 1 o)])⟩
def f9 (F:KF R):=HQ N F [1,1,1,0,1,0] []
def Ajw (i:Int) (b:LA) (d:Nat) (f e:Bool) (c:Nat) (m:Int) (r:LA):St:=⟨[(0,(iv i)),(1,(.imm b d 2 f e)),(5,(.own 300000 0 c)),(6,(iv m))],(hq [(bQ 1 r)])⟩
def Ajx (F:KF R):=HQ N F [1,1,0,1,0] []
theorem MA (Q1:St→O R) (F:KF R) (b:LA) (d:Nat) (f e:Bool) (c:Nat):∀ (n:Nat) (s:Bool) (p g:Int) (l:LA),Ap (Ajv N F Q1) n (Aju b d f e c s p g l)=(If N (fun q o=>Q1 (HR b d f e c q o)) (En F) b d f e c n s p g l)
 | 0,_,_,_,_=>by kernel_rfl
 | n+1,s,p,g,l=>Eq.trans (by kernel_rfl) (Bn (Sh N (fun q o=>Q1 (HR b d f e c q o)) (En F) b d f e c · s p g l) (funext fun s=>funext fun p=>funext fun g=>funext fun l=>(MA Q1 F b d f e c n s p g l)):_)
theorem MB (F:KF R) (b:LA) (d:Nat) (f e:Bool) (c:Nat):∀ (n:Nat) (q:Bool) (o:LA),Ap (f9 N F) n (HR b d f e c q o)=(Dy N (En F) b d f e c n q o)
 | 0,_,_=>by kernel_rfl
 | n+1,q,o=>have e0:=(funext fun q=>funext fun o=>(MB F b d f e c n q o))
  Eq.trans (by kernel_rfl) (cR (Si N (En F) b d f e c · · q o) e0 (funext fun s=>funext fun p=>funext fun g=>funext fun l=>(Aj ..).trans ((MA N (Ap (f9 N F) n) F b d f e c N s p g l).trans (Bn (If N · (En F) b d f e c N s p g l) e0))):_)
theorem MC (F:KF R) (i:Int) (b:LA) (d:Nat) (f e:Bool):∀ (n c:Nat) (m:Int) (r:LA),Ap (Ajx N F) n (Ajw i b d f e c m r)=(Ig N (En F) i b d f e n c m r)
 | 0,_,_,_=>by kernel_rfl
 | n+1,c,m,r=>Eq.trans (by kernel_rfl) (cR (Sj N (En F) i b d f e · · c m r) (funext fun c=>funext fun m=>funext fun r=>(MC F i b d f e n c m r)) (funext fun q=>funext fun o=>(Aj ..).trans (MB N F b d f e c N q o)):_)
theorem f_ (i:Int) (b:LA) (d:Nat) (f e:Bool) (F:KF R):Cm [] f8 N 192 [(iv i),(.imm b d 2 f e)] [] F=(Pl N i b d f e (En F)):=by
 rw[aD]
 exact Eq.trans (by kernel_rfl) (Bn (DN N (En F) · i b d f e) (funext fun c=>funext fun m=>funext fun r=>(Aj ..).trans (MC N F i b d f e N c m r)):_)
def aE (a:LA) (h:Am) (k:KF R):O R :=
 match a,h with
 | [(.int .i64 i),(.imm b d 2 f e)],[]=>(Pl N i b d f e (En k))
 | _,_=>none
theorem fa:Ao N 192 @aE:=by
 intro R Q a h k j;unfold aE;split;exact Ay (f_ ..) (f_ ..) trivial;exact A0
def Ajy:=Az (fa N)
def Ajz:=Cj (fa N)
def Yk (N:Nat) (r0:Int→O R) (c:LA) (b:Nat) (d e:Bool) (k0:Int→Int→O R) (g f:Int):O R :=
 (cond (decide (f<((b:Nat):Int))) (cond (Ac f b) (An .i64 (c.drop ((f.toNat)*1)) fun i=>(cond (i==f) (k0 (wrap .i64 (g+1)) (wrap .i64 (f+1))) (k0 g (wrap .i64 (f+1))))) none) (r0 g))
def Mq (r0:Int→O R) (c:LA) (b:Nat) (d e:Bool):Nat→Int→Int→O R
 | 0,_,_=>none
 | n+1,g,f=>(Yk N r0 c b d e (Mq r0 c b d e n) g f)
def WC (N:Nat) (r0:Int→O R) (q0:Int→Int→O R) (c:LA) (b:Nat) (d e:Bool):O R :=
 (q0 0 0)
def Xm:=(Af (fun (N:Nat) (c:LA) (b:Nat) (d e:Bool) (r0:Int→O R)=>(WC N r0 (fun g f=>(Mq N r0 c b d e N g f)) c b d e))).1
theorem lY (c b d e r0):(@Xm R N c b d e r0)=(WC N r0 (fun g f=>(Mq N r0 c b d e N g f)) c b d e):=by rw[Xm,(Af _).2]
def r_:Hints:={ H:=(hS hL (hS hL (hS (hS hL (hS (hP [0,3,4] hL) hL)) hL))) }
def Au0 (F:KF R):=Ja Tryz.f191 r_ [] [] N F
def Vk (F:KF R):Int→O R:=(fun l=>F (iv l) [])
def Au1 (c:LA) (b:Nat) (d e:Bool) (g f:Int):St:=⟨[(0,(.imm c b 1 d e)),(3,(iv g)),(4,(iv f))],[]⟩
def Au2 (F:KF R):=Au0 N F [1,1,0,1,0] []
theorem aF (F:KF R) (c:LA) (b:Nat) (d e:Bool):∀ (n:Nat) (g f:Int),Ap (Au2 N F) n (Au1 c b d e g f)=(Mq N (Vk F) c b d e n g f)
 | 0,_,_=>by kernel_rfl
 | n+1,g,f=>Eq.trans (by kernel_rfl) (Bn (Yk N (Vk F) c b d e · g f) (funext fun g=>funext fun f=>(aF F c b d e n g f)):_)
theorem ra (c:LA) (b:Nat) (d e:Bool) (F:KF R):Cm [] r_ N 191 [(.imm c b 1 d e)] [] F=(Xm N c b d e (Vk F)):=by
 rw[lY]
 exact Eq.trans (by kernel_rfl) (Bn (WC N (Vk F) · c b d e) (funext fun g=>funext fun f=>(Aj ..).trans (aF N F c b d e N g f)):_)
def l7 (a:LA) (h:Am) (k:KF R):O R :=
 match a,h with
 | [(.imm c b 1 d e)],[]=>(Xm N c b d e (Vk k))
 | _,_=>none
theorem rc:Ao N 191 @l7:=by
 intro R Q a h k j;unfold l7;split;exact Ay (ra ..) (ra ..) trivial;exact A0
def Au3:=Az (rc N)
def Au4:=Cj (rc N)
def Ol (r0:Bool→O R) (d:Int) (b:LA) (c:Nat) (m e:Bool) (f:LA) (g:Nat) (o i:Bool) (k0:Nat→Int→LA→O R) (p:Nat) (l:Int) (q:LA):O R :=
 (cond (decide (l<((c:Nat):Int))) (LY N f g false i l (fun t=>(cond (!t) (cond (Ac l c) (cond (Nat.ble 2 ((b.drop ((l.toNat)*2)).length)) (cond ((!e)||(Ba ((b.drop ((l.toNat)*2)).take 2))) (cond ((Nat.beq (((b.drop ((l.toNat)*2)).take 2).length) 2)&&(Nat.ble 2 2)) (cond ((Nat.ble (p+1) 140737488355328)&&(Nat.ble ((p+1)*16) 140737488355328)) (k0 (p+1) (wrap .i64 (l+1)) ((q.take (p*2))++((setCells [(.int .i64 0),(.int .i64 0)] 0 ((b.drop ((l.toNat)*2)).take 2)).take 2))) none) none) none) none) none) (k0 p (wrap .i64 (l+1)) q)))) (Pl N d (q.take (p*2)) p false true (fun r u=>(Xm N (u.take (r*1)) r false true (fun v=>(Pl N d b c false e (fun s w=>(Xm N (w.take (s*1)) s false true (fun x=>(r0 (decide (v>x))))))))))))
def F3 (r0:Bool→O R) (d:Int) (b:LA) (c:Nat) (m e:Bool) (f:LA) (g:Nat) (o i:Bool):Nat→Nat→Int→LA→O R
 | 0,_,_,_=>none
 | n+1,p,l,q=>(Ol N r0 d b c m e f g o i (F3 r0 d b c m e f g o i n) p l q)
def Vl (N:Nat) (r0:Bool→O R) (q0:Nat→Int→LA→O R) (d:Int) (b:LA) (c:Nat) (m e:Bool) (f:LA) (g:Nat) (o i:Bool):O R :=
 (q0 0 0 [])
def Nv:=(Af (fun (N:Nat) (d:Int) (b:LA) (c:Nat) (m e:Bool) (f:LA) (g:Nat) (o i:Bool) (r0:Bool→O R)=>(Vl N r0 (fun p l q=>(F3 N r0 d b c m e f g o i N p l q)) d b c m e f g o i))).1
theorem MD (d b c m e f g o i r0):(@Nv R N d b c m e f g o i r0)=(Vl N r0 (fun p l q=>(F3 N r0 d b c m e f g o i N p l q)) d b c m e f g o i):=by rw[Nv,(Af _).2]
def RK:Hints:={ H:=(hS hL (hS hL (hS (hS hL (hS (hP [0,1,2,7,8] hL) hL)) hL))),nils:=[(7,2)] }
def aG:Ef:=[(163,nf N),(192,Ajy N),(191,Au3 N)]
def vA (F:KF R):=Ja Tryz.f164 RK (aG N) [] N F
def Lb (F:KF R):Bool→O R:=(fun y=>F (.bool y) [])
def vB (d:Int) (b:LA) (c:Nat) (m e:Bool) (f:LA) (g:Nat) (o i:Bool) (p:Nat) (l:Int) (q:LA):St:=⟨[(0,(iv d)),(1,(.imm b c 2 m e)),(2,(.imm f g 1 o i)),(7,(.own 300000 0 p)),(8,(iv l))],(hq [(bQ 2 q)])⟩
def vC (F:KF R):=vA N F [1,1,0,1,0] []
theorem CH (F:KF R) (d:Int) (b:LA) (c:Nat) (m e:Bool) (f:LA) (g:Nat) (o i:Bool):∀ (n p:Nat) (l:Int) (q:LA),Ap (vC N F) n (vB d b c m e f g o i p l q)=(F3 N (Lb F) d b c m e f g o i n p l q)
 | 0,_,_,_=>by kernel_rfl
 | n+1,p,l,q=>Eq.trans (by kernel_rfl) (Bn (Ol N (Lb F) d b c m e f g o i · p l q) (funext fun p=>funext fun l=>funext fun q=>(CH F d b c m e f g o i n p l q)):_)
theorem RL (d:Int) (b:LA) (c:Nat) (m e:Bool) (f:LA) (g:Nat) (o i:Bool) (F:KF R):Cm (aG N) RK N 164 [(iv d),(.imm b c 2 m e),(.imm f g 1 o i)] [] F=(Nv N d b c m e f g o i (Lb F)):=by
 rw[MD]
 exact Eq.trans (by kernel_rfl) (Bn (Vl N (Lb F) · d b c m e f g o i) (funext fun p=>funext fun l=>funext fun q=>(Aj ..).trans (CH N F d b c m e f g o i N p l q)):_)
def ME (a:LA) (h:Am) (k:KF R):O R :=
 match a,h with
 | [(.int .i64 d),(.imm b c 2 m e),(.imm f g 1 o i)],[]=>(Nv N d b c m e f g o i (Lb k))
 | _,_=>none
theorem RM:Ao N 164 @ME:=by
 intro R Q a h k j;unfold ME;split;exact Ay (RL ..) (RL ..) ⟨ng N,Ajz N,Au4 N,trivial⟩;exact A0
def vD:=Az (RM N)
def vE:=Cj (RM N)
end
end Gx

namespace Gx
open Go Go.Proofs
open IntKind (wrap)
set_option maxRecDepth 100000
noncomputable section
variable {R:Type} (N:Nat)
def Vm (k0:Int→LA→O R) (r0:LA→Int→O R) (c:Bool) (b:LA) (w:Int) (al:LA):O R :=
 (cond (Nat.ble 8 (b.length)) (Cr N (b.take 8) c 1 w al (fun am=>(cond (Nat.ble 8 (b.length)) (Co 3 (b.drop 2) fun an ao=>(cond (Ac w ao) (Co 1 ((an.drop ((w.toNat)*3)).drop 1) fun ap aq=>(Cx N (b.take 8) c ap aq false c 0 1048576 1 w 1 am (fun ar=>(Co 3 (b.drop 2) fun au av=>(cond (Ac w av) (An .i64 ((au.drop ((w.toNat)*3)).drop 2) fun aw=>(Aw N 0 1048576 [(.int .i64 aw)] 1 false true (fun ax=>(Ab N ax 1 w 2 3 ar (fun ay=>(k0 (wrap .i64 (w+1)) ay)))))) none))))) none)) none))) none)
def Vn (k7:Int→LA→O R) (k9:Int→Int→LA→O R) (r0:LA→Int→O R) (e f:Nat) (c:Bool) (b g i:LA) (k10:Int→Int→Nat→Int→LA→LA→O R) (v p:Int) (m:Nat) (q:Int) (x y:LA):O R :=
 (cond (decide (q<((f:Nat):Int))) (Co 4 (b.drop 7) fun az ba=>(cond (Ac p ba) (Co 1 ((az.drop ((p.toNat)*4)).drop 1) fun bb bc=>(cond (Ac q f) (An .i64 (i.drop (0+((q.toNat)*1))) fun bd=>(LY N bb bc false c bd (fun be=>(cond be (cond ((Nat.ble (m+1) 140737488355328)&&(Nat.ble ((m+1)*8) 140737488355328)) (k10 v p (m+1) (wrap .i64 (q+1)) x ((y.take (m*1))++[(.int .i64 q)])) none) (k10 v p m (wrap .i64 (q+1)) x y))))) none)) none)) (Co 3 (b.drop 2) fun ci bf=>(Nv N ((bf:Nat):Int) (g.take (e*2)) e false true (y.take (m*1)) m false true (fun bg=>(Ab N (!bg) 6 p v 13 x (fun bh=>(k9 v (wrap .i64 (p+1)) bh)))))))
def J9 (k7:Int→LA→O R) (k9:Int→Int→LA→O R) (r0:LA→Int→O R) (e f:Nat) (c:Bool) (b g i:LA):Nat→Int→Int→Nat→Int→LA→LA→O R
 | 0,_,_,_,_,_,_=>none
 | n+1,v,p,m,q,x,y=>(Vn N k7 k9 r0 e f c b g i (J9 k7 k9 r0 e f c b g i n) v p m q x y)
def Yl (N:Nat) (k7:Int→LA→O R) (r0:LA→Int→O R) (e f:Nat) (c:Bool) (b g i:LA) (k9:Int→Int→LA→O R) (q10:Int→Int→Nat→Int→LA→LA→O R) (r s:Int) (t:LA):O R :=
 (Co 4 (b.drop 7) fun cj bi=>(cond (decide (s<((bi:Nat):Int))) (q10 r s 0 0 t []) (k7 (wrap .i64 (r+1)) t)))
def Jm (k7:Int→LA→O R) (r0:LA→Int→O R) (e f:Nat) (c:Bool) (b g i:LA):Nat→Int→Int→LA→O R
 | 0,_,_,_=>none
 | n+1,r,s,t=>(Yl N k7 r0 e f c b g i (Jm k7 r0 e f c b g i n) (fun v p m q x y=>(J9 N k7 (Jm k7 r0 e f c b g i n) r0 e f c b g i N v p m q x y)) r s t)
def NR (k7:Int→LA→O R) (r0:LA→Int→O R) (c:Bool) (b:LA) (q9:Nat→Nat→LA→LA→Int→Int→LA→O R) (aj:Int) (ak:LA):O R :=
 (cond (Nat.ble 8 (b.length)) (EL N (b.take 8) c aj (fun e f g i=>(q9 e f g i aj 0 ak))) none)
def DO (k7:Int→LA→O R) (r0:LA→Int→O R) (c:Bool) (b:LA) (aj:Int) (ak:LA):O R:=(NR N k7 r0 c b (fun e f g i r s t=>(Jm N k7 r0 e f c b g i N r s t)) aj ak)
def Rx (N:Nat) (r0:LA→Int→O R) (c:Bool) (b:LA) (k7:Int→LA→O R) (q8:Int→LA→O R) (l:Int) (d:LA):O R :=
 (An .i64 b fun bj=>(cond ((decide (l<bj))==true) (An .i64 (d.drop 3) fun bk=>(cond (cond true (bk==0) false) (q8 l d) (cond (Nat.ble 3 (d.length)) (An .i64 (d.drop 3) fun bl=>(cond ((Nat.beq ((d.take 3).length) 3)&&((Nat.ble 3 3)&&(!false))) (cond (Nat.ble 3 ((setCells [(.int .i64 0),(.int .i64 0),(.int .i64 0)] 0 (d.take 3)).length)) (r0 ((setCells [(.int .i64 0),(.int .i64 0),(.int .i64 0)] 0 (d.take 3)).take 3) bl) none) none)) none))) (cond (Nat.ble 3 (d.length)) (An .i64 (d.drop 3) fun bm=>(cond ((Nat.beq ((d.take 3).length) 3)&&((Nat.ble 3 3)&&(!false))) (cond (Nat.ble 3 ((setCells [(.int .i64 0),(.int .i64 0),(.int .i64 0)] 0 (d.take 3)).length)) (r0 ((setCells [(.int .i64 0),(.int .i64 0),(.int .i64 0)] 0 (d.take 3)).take 3) bm) none) none)) none)))
def Ep (r0:LA→Int→O R) (c:Bool) (b:LA):Nat→Int→LA→O R
 | 0,_,_=>none
 | n+1,l,d=>(Rx N r0 c b (Ep r0 c b n) (fun aj ak=>(DO N (Ep r0 c b n) r0 c b aj ak)) l d)
def Ym (r0:LA→Int→O R) (c:Bool) (b:LA) (k6:Int→LA→O R) (q7:Int→LA→O R) (ae:Int) (z:LA):O R :=
 (Co 4 (b.drop 7) fun ck bn=>(cond ((decide (ae<((bn:Nat):Int)))==true) (An .i64 (z.drop 3) fun bo=>(cond (cond true (bo==0) false) (cond (Nat.ble 8 (b.length)) (F1 N (b.take 8) c ae z (fun bp=>(k6 (wrap .i64 (ae+1)) bp))) none) (q7 0 z))) (q7 0 z)))
def Mr (r0:LA→Int→O R) (c:Bool) (b:LA):Nat→Int→LA→O R
 | 0,_,_=>none
 | n+1,ae,z=>(Ym N r0 c b (Mr r0 c b n) (fun l d=>(Ep N r0 c b N l d)) ae z)
def Yn (r0:LA→Int→O R) (c:Bool) (b:LA) (k5:Int→LA→O R) (q6:Int→LA→O R) (af:Int) (aa:LA):O R :=
 (Co 5 (b.drop 6) fun cl bq=>(cond ((decide (af<((bq:Nat):Int)))==true) (An .i64 (aa.drop 3) fun br=>(cond (cond true (br==0) false) (cond (Nat.ble 8 (b.length)) (Ni N (b.take 8) c af aa (fun bs=>(k5 (wrap .i64 (af+1)) bs))) none) (q6 0 aa))) (q6 0 aa)))
def Ms (r0:LA→Int→O R) (c:Bool) (b:LA):Nat→Int→LA→O R
 | 0,_,_=>none
 | n+1,af,aa=>(Yn N r0 c b (Ms r0 c b n) (fun ae z=>(Mr N r0 c b N ae z)) af aa)
def Yo (r0:LA→Int→O R) (c:Bool) (b:LA) (k4:Int→LA→O R) (q5:Int→LA→O R) (ag:Int) (ab:LA):O R :=
 (Co 9 (b.drop 5) fun cm bt=>(cond ((decide (ag<((bt:Nat):Int)))==true) (An .i64 (ab.drop 3) fun bu=>(cond (cond true (bu==0) false) (cond (Nat.ble 8 (b.length)) (Jl N (b.take 8) c ag ab (fun bv=>(k4 (wrap .i64 (ag+1)) bv))) none) (q5 0 ab))) (q5 0 ab)))
def Mt (r0:LA→Int→O R) (c:Bool) (b:LA):Nat→Int→LA→O R
 | 0,_,_=>none
 | n+1,ag,ab=>(Yo N r0 c b (Mt r0 c b n) (fun af aa=>(Ms N r0 c b N af aa)) ag ab)
def Yp (r0:LA→Int→O R) (c:Bool) (b:LA) (k3:Int→LA→O R) (q4:Int→LA→O R) (ah:Int) (ac:LA):O R :=
 (Co 22 (b.drop 4) fun cn bw=>(cond ((decide (ah<((bw:Nat):Int)))==true) (An .i64 (ac.drop 3) fun bx=>(cond (cond true (bx==0) false) (cond (Nat.ble 8 (b.length)) (Hn N (b.take 8) c ah ac (fun bz=>(k3 (wrap .i64 (ah+1)) bz))) none) (q4 0 ac))) (q4 0 ac)))
def Mu (r0:LA→Int→O R) (c:Bool) (b:LA):Nat→Int→LA→O R
 | 0,_,_=>none
 | n+1,ah,ac=>(Yp N r0 c b (Mu r0 c b n) (fun ag ab=>(Mt N r0 c b N ag ab)) ah ac)
def Yq (r0:LA→Int→O R) (c:Bool) (b:LA) (k2:Int→LA→O R) (q3:Int→LA→O R) (ai:Int) (ad:LA):O R :=
 (Co 12 (b.drop 3) fun co ca=>(cond ((decide (ai<((ca:Nat):Int)))==true) (An .i64 (ad.drop 3) fun cb=>(cond (cond true (cb==0) false) (cond (Nat.ble 8 (b.length)) (Hm N (b.take 8) c ai ad (fun cc=>(k2 (wrap .i64 (ai+1)) cc))) none) (q3 0 ad))) (q3 0 ad)))
def Mv (r0:LA→Int→O R) (c:Bool) (b:LA):Nat→Int→LA→O R
 | 0,_,_=>none
 | n+1,ai,ad=>(Yq N r0 c b (Mv r0 c b n) (fun ah ac=>(Mu N r0 c b N ah ac)) ai ad)
def Yr (N:Nat) (r0:LA→Int→O R) (c:Bool) (b:LA) (k0:Int→LA→O R) (q1:Int→LA→O R) (q2:Int→LA→O R) (u:Int) (o:LA):O R :=
 (Co 3 (b.drop 2) fun cp cd=>(cond ((decide (u<((cd:Nat):Int)))==true) (An .i64 (o.drop 3) fun ce=>(cond (cond true (ce==0) false) (q1 u o) (q2 0 o))) (q2 0 o)))
def Jn (r0:LA→Int→O R) (c:Bool) (b:LA):Nat→Int→LA→O R
 | 0,_,_=>none
 | n+1,u,o=>(Yr N r0 c b (Jn r0 c b n) (fun w al=>(Vm N (Jn r0 c b n) r0 c b w al)) (fun ai ad=>(Mv N r0 c b N ai ad)) u o)
def WD (r0:LA→Int→O R) (q0:Int→LA→O R) (b:LA) (c:Bool):O R :=
 (cond (Nat.ble 8 (b.length)) (Gr N (b.take 8) c [(.int .i64 0),(.int .i64 0),(.int .i64 0),(.int .i64 0)] (fun cf=>(q0 0 cf))) none)
def EM:=(Af (fun (N:Nat) (b:LA) (c:Bool) (r0:LA→Int→O R)=>(WD N r0 (fun u o=>(Jn N r0 c b N u o)) b c))).1
theorem l8 (b c r0):(@EM R N b c r0)=(WD N r0 (fun u o=>(Jn N r0 c b N u o)) b c):=by rw[EM,(Af _).2]
def rf:Hints:={ H:=(hS hL (hS hL (hS hL (hS (hS hL (hS (hP [1,2,4,5] (hJ [1,2,4,5] hL hL)) hL)) (hS (hS hL (hS (hP [1,2,4,6] hL) hL)) (hS (hS hL (hS (hP [1,2,4,7] hL) hL)) (hS (hS hL (hS (hP [1,2,4,8] hL) hL)) (hS (hS hL (hS (hP [1,2,4,9] hL) hL)) (hS (hS hL (hS (hP [1,2,4,10] hL) hL)) (hS (hS hL (hS (hP [1,2,4,11] (hJ [1,2,4,11] hL (hS (hS (hS hL (hS hL (hS (hP [1,2,4,11,12,13,14] (hS hL (hS (hS (hS hL (hS (hS hL (hS (hP [1,2,4,11,12,13,14,15,16] hL) hL)) hL)) hL) hL))) hL))) hL) hL))) hL)) hL)))))))))),nils:=[(15,1)],modes:=[(3,0),(0,0)] }
def yk:Ef:=[(152,fV N),(153,Fg N),(154,N1 N),(156,Dv N),(155,Bt N),(157,iy N),(158,jE N),(159,f6 N),(160,na N),(161,bV N),(162,Auy N),(163,nf N),(164,vD N)]
def Fe (F:KF R):=Ja Tryz.f112 rf (yk N) [] N F
def A9 (F:KF R):LA→Int→O R:=(fun cg ch=>F (.tup [(.pagg cg false),(iv ch)]) [])
def Au5 (c:Bool) (b:LA) (w:Int) (al:LA):St:=⟨[(1,(op 0)),(2,(op 1)),(4,(op 2)),(5,(iv w))],(hq [(bP c 0 b),(bQ 0 [(iv 0),(iv 0),(iv 0)]),(bQ 0 al)])⟩
def Au6 (F:KF R) (Q0:St→O R):=Fe N F [1,1,1,0,1,0,0,1] [Q0]
def Ann (e f:Nat) (c:Bool) (b g i:LA) (v p:Int) (m:Nat) (q:Int) (x y:LA):St:=⟨[(1,(op 0)),(2,(op 1)),(4,(op 2)),(11,(iv v)),(12,(.own 300003 0 e)),(13,(.own 300004 0 f)),(14,(iv p)),(15,(.own 300005 0 m)),(16,(iv q))],(hq [(bP c 0 b),(bQ 0 [(iv 0),(iv 0),(iv 0)]),(bQ 0 x),(bQ 2 g),(bQ 1 i),(bQ 1 y)])⟩
def Ano (F:KF R) (Q7 Q9:St→O R):=Fe N F [1,1,1,1,1,1,1,1,1,0,1,0,0,1,0,0,1,1,0,0,1,0,0,1,0,1,0] [Q7,Q9]
def WE (e f:Nat) (c:Bool) (b g i:LA) (r s:Int) (t:LA):St:=⟨[(1,(op 0)),(2,(op 1)),(4,(op 2)),(11,(iv r)),(12,(.own 300003 0 e)),(13,(.own 300004 0 f)),(14,(iv s))],(hq [(bP c 0 b),(bQ 0 [(iv 0),(iv 0),(iv 0)]),(bQ 0 t),(bQ 2 g),(bQ 1 i)])⟩
def rg (F:KF R) (Q7:St→O R):=Fe N F [1,1,1,1,1,1,1,1,1,0,1,0,0,1,0,0,1,1,0] [Q7]
def Au7 (c:Bool) (b:LA) (aj:Int) (ak:LA):St:=⟨[(1,(op 0)),(2,(op 1)),(4,(op 2)),(11,(iv aj))],(hq [(bP c 0 b),(bQ 0 [(iv 0),(iv 0),(iv 0)]),(bQ 0 ak)])⟩
def Au8 (F:KF R) (Q7:St→O R):=Fe N F [1,1,1,1,1,1,1,1,1,0,1,0,0,1] [Q7]
def Jo (c:Bool) (b:LA) (l:Int) (d:LA):St:=⟨[(1,(op 0)),(2,(op 1)),(4,(op 2)),(11,(iv l))],(hq [(bP c 0 b),(bQ 0 [(iv 0),(iv 0),(iv 0)]),(bQ 0 d)])⟩
def ri (F:KF R):=Fe N F [1,1,1,1,1,1,1,1,1,0,1,0] []
def Au9 (c:Bool) (b:LA) (ae:Int) (z:LA):St:=⟨[(1,(op 0)),(2,(op 1)),(4,(op 2)),(10,(iv ae))],(hq [(bP c 0 b),(bQ 0 [(iv 0),(iv 0),(iv 0)]),(bQ 0 z)])⟩
def Ava (F:KF R):=Fe N F [1,1,1,1,1,1,1,1,0,1,0] []
def Avb (c:Bool) (b:LA) (af:Int) (aa:LA):St:=⟨[(1,(op 0)),(2,(op 1)),(4,(op 2)),(9,(iv af))],(hq [(bP c 0 b),(bQ 0 [(iv 0),(iv 0),(iv 0)]),(bQ 0 aa)])⟩
def Avc (F:KF R):=Fe N F [1,1,1,1,1,1,1,0,1,0] []
def Avd (c:Bool) (b:LA) (ag:Int) (ab:LA):St:=⟨[(1,(op 0)),(2,(op 1)),(4,(op 2)),(8,(iv ag))],(hq [(bP c 0 b),(bQ 0 [(iv 0),(iv 0),(iv 0)]),(bQ 0 ab)])⟩
def Ave (F:KF R):=Fe N F [1,1,1,1,1,1,0,1,0] []
def Avf (c:Bool) (b:LA) (ah:Int) (ac:LA):St:=⟨[(1,(op 0)),(2,(op 1)),(4,(op 2)),(7,(iv ah))],(hq [(bP c 0 b),(bQ 0 [(iv 0),(iv 0),(iv 0)]),(bQ 0 ac)])⟩
def Avg (F:KF R):=Fe N F [1,1,1,1,1,0,1,0] []
def Avh (c:Bool) (b:LA) (ai:Int) (ad:LA):St:=⟨[(1,(op 0)),(2,(op 1)),(4,(op 2)),(6,(iv ai))],(hq [(bP c 0 b),(bQ 0 [(iv 0),(iv 0),(iv 0)]),(bQ 0 ad)])⟩
def Avi (F:KF R):=Fe N F [1,1,1,1,0,1,0] []
def rj (c:Bool) (b:LA) (u:Int) (o:LA):St:=⟨[(1,(op 0)),(2,(op 1)),(4,(op 2)),(5,(iv u))],(hq [(bP c 0 b),(bQ 0 [(iv 0),(iv 0),(iv 0)]),(bQ 0 o)])⟩
def rk (F:KF R):=Fe N F [1,1,1,0,1,0] []
theorem Aa5 (Q0:St→O R) (F:KF R) (c:Bool) (b:LA):∀ (w:Int) (al:LA),A8 (Au6 N F Q0) (Au5 c b w al)=(Vm N (fun u o=>Q0 (rj c b u o)) (A9 F) c b w al):=by
 intro w al
 kernel_rfl
theorem RN (Q7 Q9:St→O R) (F:KF R) (e f:Nat) (c:Bool) (b g i:LA):∀ (n:Nat) (v p:Int) (m:Nat) (q:Int) (x y:LA),Ap (Ano N F Q7 Q9) n (Ann e f c b g i v p m q x y)=(J9 N (fun l d=>Q7 (Jo c b l d)) (fun r s t=>Q9 (WE e f c b g i r s t)) (A9 F) e f c b g i n v p m q x y)
 | 0,_,_,_,_,_,_=>by kernel_rfl
 | n+1,v,p,m,q,x,y=>Eq.trans (by kernel_rfl) (Bn (Vn N (fun l d=>Q7 (Jo c b l d)) (fun r s t=>Q9 (WE e f c b g i r s t)) (A9 F) e f c b g i · v p m q x y) (funext fun v=>funext fun p=>funext fun m=>funext fun q=>funext fun x=>funext fun y=>(RN Q7 Q9 F e f c b g i n v p m q x y)):_)
theorem aH (Q7:St→O R) (F:KF R) (e f:Nat) (c:Bool) (b g i:LA):∀ (n:Nat) (r s:Int) (t:LA),Ap (rg N F Q7) n (WE e f c b g i r s t)=(Jm N (fun l d=>Q7 (Jo c b l d)) (A9 F) e f c b g i n r s t)
 | 0,_,_,_=>by kernel_rfl
 | n+1,r,s,t=>have e0:=(funext fun r=>funext fun s=>funext fun t=>(aH Q7 F e f c b g i n r s t))
  Eq.trans (by kernel_rfl) (cR (Yl N (fun l d=>Q7 (Jo c b l d)) (A9 F) e f c b g i · · r s t) e0 (funext fun v=>funext fun p=>funext fun m=>funext fun q=>funext fun x=>funext fun y=>(Aj ..).trans ((RN N Q7 (Ap (rg N F Q7) n) F e f c b g i N v p m q x y).trans (Bn (J9 N (fun l d=>Q7 (Jo c b l d)) · (A9 F) e f c b g i N v p m q x y) e0))):_)
theorem Aa6 (Q7:St→O R) (F:KF R) (c:Bool) (b:LA):∀ (aj:Int) (ak:LA),A8 (Au8 N F Q7) (Au7 c b aj ak)=(DO N (fun l d=>Q7 (Jo c b l d)) (A9 F) c b aj ak):=by
 intro aj ak
 exact Eq.trans (by kernel_rfl) (Bn (NR N (fun l d=>Q7 (Jo c b l d)) (A9 F) c b · aj ak) (funext fun e=>funext fun f=>funext fun g=>funext fun i=>funext fun r=>funext fun s=>funext fun t=>(Aj ..).trans (aH N Q7 F e f c b g i N r s t)):_)
theorem aI (F:KF R) (c:Bool) (b:LA):∀ (n:Nat) (l:Int) (d:LA),Ap (ri N F) n (Jo c b l d)=(Ep N (A9 F) c b n l d)
 | 0,_,_=>by kernel_rfl
 | n+1,l,d=>have e0:=(funext fun l=>funext fun d=>(aI F c b n l d))
  Eq.trans (by kernel_rfl) (cR (Rx N (A9 F) c b · · l d) e0 (funext fun aj=>funext fun ak=>(Ar ..).trans ((Aa6 N (Ap (ri N F) n) F c b aj ak).trans (Bn (DO N · (A9 F) c b aj ak) e0))):_)
theorem aJ (F:KF R) (c:Bool) (b:LA):∀ (n:Nat) (ae:Int) (z:LA),Ap (Ava N F) n (Au9 c b ae z)=(Mr N (A9 F) c b n ae z)
 | 0,_,_=>by kernel_rfl
 | n+1,ae,z=>Eq.trans (by kernel_rfl) (cR (Ym N (A9 F) c b · · ae z) (funext fun ae=>funext fun z=>(aJ F c b n ae z)) (funext fun l=>funext fun d=>(Aj ..).trans (aI N F c b N l d)):_)
theorem aK (F:KF R) (c:Bool) (b:LA):∀ (n:Nat) (af:Int) (aa:LA),Ap (Avc N F) n (Avb c b af aa)=(Ms N (A9 F) c b n af aa)
 | 0,_,_=>by kernel_rfl
 | n+1,af,aa=>Eq.trans (by kernel_rfl) (cR (Yn N (A9 F) c b · · af aa) (funext fun af=>funext fun aa=>(aK F c b n af aa)) (funext fun ae=>funext fun z=>(Aj ..).trans (aJ N F c b N ae z)):_)
theorem aL (F:KF R) (c:Bool) (b:LA):∀ (n:Nat) (ag:Int) (ab:LA),Ap (Ave N F) n (Avd c b ag ab)=(Mt N (A9 F) c b n ag ab)
 | 0,_,_=>by kernel_rfl
 | n+1,ag,ab=>Eq.trans (by kernel_rfl) (cR (Yo N (A9 F) c b · · ag ab) (funext fun ag=>funext fun ab=>(aL F c b n ag ab)) (funext fun af=>funext fun aa=>(Aj ..).trans (aK N F c b N af aa)):_)
theorem aM (F:KF R) (c:Bool) (b:LA):∀ (n:Nat) (ah:Int) (ac:LA),Ap (Avg N F) n (Avf c b ah ac)=(Mu N (A9 F) c b n ah ac)
 | 0,_,_=>by kernel_rfl
 | n+1,ah,ac=>Eq.trans (by kernel_rfl) (cR (Yp N (A9 F) c b · · ah ac) (funext fun ah=>funext fun ac=>(aM F c b n ah ac)) (funext fun ag=>funext fun ab=>(Aj ..).trans (aL N F c b N ag ab)):_)
theorem aN (F:KF R) (c:Bool) (b:LA):∀ (n:Nat) (ai:Int) (ad:LA),Ap (Avi N F) n (Avh c b ai ad)=(Mv N (A9 F) c b n ai ad)
 | 0,_,_=>by kernel_rfl
 | n+1,ai,ad=>Eq.trans (by kernel_rfl) (cR (Yq N (A9 F) c b · · ai ad) (funext fun ai=>funext fun ad=>(aN F c b n ai ad)) (funext fun ah=>funext fun ac=>(Aj ..).trans (aM N F c b N ah ac)):_)
theorem aO (F:KF R) (c:Bool) (b:LA):∀ (n:Nat) (u:Int) (o:LA),Ap (rk N F) n (rj c b u o)=(Jn N (A9 F) c b n u o)
 | 0,_,_=>by kernel_rfl
 | n+1,u,o=>have e0:=(funext fun u=>funext fun o=>(aO F c b n u o))
  Eq.trans (by kernel_rfl) (Bf8 (Yr N (A9 F) c b · · · u o) e0 (funext fun w=>funext fun al=>(Ar ..).trans ((Aa5 N (Ap (rk N F) n) F c b w al).trans (Bn (Vm N · (A9 F) c b w al) e0))) (funext fun ai=>funext fun ad=>(Aj ..).trans (aN N F c b N ai ad)):_)
theorem rm (b:LA) (c:Bool) (F:KF R):Cm (yk N) rf N 112 [(.pagg b c)] [] F=(EM N b c (A9 F)):=by
 rw[l8]
 exact Eq.trans (by kernel_rfl) (Bn (WD N (A9 F) · b c) (funext fun u=>funext fun o=>(Aj ..).trans (aO N F c b N u o)):_)
def l_ (a:LA) (h:Am) (k:KF R):O R :=
 match a,h with
 | [(.pagg b c)],[]=>(EM N b c (A9 k))
 | _,_=>none
theorem rn:Ao N 112 @l_:=by
 intro R Q a h k j;unfold l_;split;exact Ay (rm ..) (rm ..) ⟨fW N,Fh N,N2 N,Dw N,Bu N,iz N,jF N,f7 N,nc N,bW N,Auz N,ng N,vE N,trivial⟩;exact A0
def Avj:=Az (rn N)
def Avk:=Cj (rn N)
end
end Gx

namespace Gx
open Go Go.Proofs
open IntKind (wrap)
set_option maxRecDepth 100000
noncomputable section
variable {R:Type} (N:Nat)
def WF (k2:Int→Int→Nat→LA→O R) (r0:LA→O R) (m:Int) (b:LA) (c:Nat) (d:Bool) (f:Int) (g e:Nat) (l i:LA) (au av:Int) (an:Nat) (aw:LA):O R :=
 (Ag N m b c false d av (fun bc bq=>(Ag N (wrap .i64 (m - 1)) b c false d bq (fun br bs=>(cond (m==0) none (Qi N ((an:Nat):Int) bc (Int.tmod (wrap .i64 ((wrap .i64 (bc+1))+br)) m) f b c false d bs (fun bd bt=>(cond ((Nat.beq (bd.length) 12)&&(Nat.ble 12 12)) (cond ((Nat.ble (an+1) 140737488355328)&&(Nat.ble ((an+1)*120) 140737488355328)) (k2 (wrap .i64 (au - 1)) bt (an+1) ((aw.take (an*12))++((setCells [(.str ([]:List UInt8)),(.int .i64 0),(.int .i64 0),(.int .i64 0),(.int .i64 0),(.int .i64 0),(.int .i64 0),(.int .i64 0),(.int .i64 0),(.int .i64 0),(.int .i64 0),.nsl] 0 bd).take 12))) none) none))))))))
def WG (k7:Int→Int→Nat→LA→O R) (r0:LA→O R) (b:LA) (c:Nat) (d:Bool) (f:Int) (g e p o s u:Nat) (l i q r t v:LA) (ar ax:Int) (w:Nat) (ao:LA):O R :=
 (K6 N ((w:Nat):Int) ((p:Nat):Int) ((o:Nat):Int) b c false d ax (fun az be=>(cond ((Nat.beq 0 0)&&((Nat.beq (az.length) 4)&&(Nat.beq 4 4))) (cond ((Nat.ble (0+w) 140737488355328)&&(Nat.ble ((0+w)*72) 140737488355328)) (cond (Nat.ble 4 (az.length)) (cond ((Nat.beq ((az.take 4).length) 4)&&(Nat.ble 4 4)) (cond ((Nat.ble ((0+w)+1) 140737488355328)&&(Nat.ble (((0+w)+1)*72) 140737488355328)) (EM N [(.int .i64 f),(.imm (l.take (g*1)) g 1 false true),(.imm (i.take (e*3)) e 3 false true),(.imm (q.take (p*12)) p 12 false true),(.imm (r.take (o*22)) o 22 false true),(.imm (t.take (s*9)) s 9 false true),(.imm (v.take (u*5)) u 5 false true),(.imm (List.take (((0+w)+1)*4) (((ao.take (w*4)).take ((0+w)*4))++((setCells [(.str ([]:List UInt8)),.nsl,(.bool false),.nsl] 0 (az.take 4)).take 4))) ((0+w)+1) 4 false true)] true (fun bu bv=>(cond ((Nat.beq (bu.length) 3)&&((Nat.ble 3 3)&&(!false))) (cond (bv==0) (k7 (wrap .i64 (ar - 1)) be ((0+w)+1) (((ao.take (w*4)).take ((0+w)*4))++((setCells [(.str ([]:List UInt8)),.nsl,(.bool false),.nsl] 0 (az.take 4)).take 4))) (k7 (wrap .i64 (ar - 1)) be w ao)) none))) none) none) none) none) none)))
def Zw (N:Nat) (r0:LA→O R) (b:LA) (c:Nat) (d:Bool) (f:Int) (g e p o s u:Nat) (l i q r t v:LA) (k7:Int→Int→Nat→LA→O R) (q8:Int→Int→Nat→LA→O R) (ae ai:Int) (x:Nat) (z:LA):O R :=
 (cond ((decide (ae>0))==true) (cond (cond true (decide (((p:Nat):Int)>0)) false) (q8 ae ai x z) (r0 [(.int .i64 f),(.imm (l.take (g*1)) g 1 false false),(.imm (i.take (e*3)) e 3 false false),(.imm (q.take (p*12)) p 12 false false),(.imm (r.take (o*22)) o 22 false false),(.imm (t.take (s*9)) s 9 false false),(.imm (v.take (u*5)) u 5 false false),(.imm (z.take (x*4)) x 4 false false)])) (r0 [(.int .i64 f),(.imm (l.take (g*1)) g 1 false false),(.imm (i.take (e*3)) e 3 false false),(.imm (q.take (p*12)) p 12 false false),(.imm (r.take (o*22)) o 22 false false),(.imm (t.take (s*9)) s 9 false false),(.imm (v.take (u*5)) u 5 false false),(.imm (z.take (x*4)) x 4 false false)]))
def Ih (r0:LA→O R) (b:LA) (c:Nat) (d:Bool) (f:Int) (g e p o s u:Nat) (l i q r t v:LA):Nat→Int→Int→Nat→LA→O R
 | 0,_,_,_,_=>none
 | n+1,ae,ai,x,z=>(Zw N r0 b c d f g e p o s u l i q r t v (Ih r0 b c d f g e p o s u l i q r t v n) (fun ar ax w ao=>(WG N (Ih r0 b c d f g e p o s u l i q r t v n) r0 b c d f g e p o s u l i q r t v ar ax w ao)) ae ai x z)
def fb (r0:LA→O R) (b:LA) (c:Nat) (d:Bool) (f:Int) (g e p o s:Nat) (l i q r t:LA) (q7:Int→Int→Nat→LA→O R) (ap:Int) (u:Nat) (v:LA):O R :=
 (Ag N 4 b c false d ap (fun bw bx=>(q7 bw bx 0 [])))
def WH (r0:LA→O R) (b:LA) (c:Nat) (d:Bool) (f:Int) (g e p o s:Nat) (l i q r t:LA) (ap:Int) (u:Nat) (v:LA):O R:=(fb N r0 b c d f g e p o s l i q r t (fun ae ai x z=>(Ih N r0 b c d f g e p o s u l i q r t v N ae ai x z)) ap u v)
def MF (r0:LA→O R) (m:Int) (b:LA) (c:Nat) (d:Bool) (f:Int) (g e p o:Nat) (l i q r:LA) (q6:Int→Nat→LA→O R) (aq:Int) (s:Nat) (t:LA):O R :=
 (Ag N 3 b c false d aq (fun bz bf=>(cond (bz==2) (Ag N m b c false d bf (fun ca cb=>(E3 N f 12 b c false d cb (fun bg cc cd=>(E3 N f 12 b c false d cc (fun bh ce cf=>(E3 N f 40 b c false d ce (fun bi cg ch=>(q6 cg 1 [(.str ([116,48]:List UInt8)),(.int .i64 ca),(.imm (cd.take (bg*1)) bg 1 false false),(.imm (cf.take (bh*1)) bh 1 false false),(.imm (ch.take (bi*1)) bi 1 false false)]))))))))) (q6 bf 0 []))))
def HS (r0:LA→O R) (m:Int) (b:LA) (c:Nat) (d:Bool) (f:Int) (g e p o:Nat) (l i q r:LA) (aq:Int) (s:Nat) (t:LA):O R:=(MF N r0 m b c d f g e p o l i q r (fun ap u v=>(WH N r0 b c d f g e p o s l i q r t ap u v)) aq s t)
def Zx (r0:LA→O R) (m:Int) (b:LA) (c:Nat) (d:Bool) (f:Int) (g e:Nat) (l i:LA) (k4:Int→Int→Nat→Nat→LA→LA→O R) (q5:Int→Nat→LA→O R) (aj ak:Int) (p o:Nat) (q r:LA):O R :=
 (cond (decide (aj>0)) (Qk N ((o:Nat):Int) m f b c false d ak (fun bj ci=>(cond ((Nat.beq (bj.length) 22)&&(Nat.ble 22 22)) (cond ((Nat.ble (o+1) 140737488355328)&&(Nat.ble ((o+1)*216) 140737488355328)) (k4 (wrap .i64 (aj - 1)) ci p (o+1) q ((r.take (o*22))++((setCells [(.str ([]:List UInt8)),(.int .i64 0),(.int .i64 0),(.int .i64 0),.nsl,(.int .i64 0),(.int .i64 0),(.int .i64 0),(.int .i64 0),(.int .i64 0),(.int .i64 0),(.int .i64 0),(.int .i64 0),(.int .i64 0),(.int .i64 0),(.int .i64 0),(.int .i64 0),(.int .i64 0),.nsl,(.int .i64 0),(.int .i64 0),(.int .i64 0)] 0 bj).take 22))) none) none))) (Ag N 3 b c false d ak (fun cj bk=>(cond (cj==2) (Ag N m b c false d bk (fun ck cl=>(Ag N 20 b c false d cl (fun bb cm=>(Ag N 8 b c false d cm (fun cn co=>(Ag N 8 b c false d co (fun cp cq=>(Ag N 4 b c false d cq (fun cr cs=>(Ag N (wrap .i64 (bb+1)) b c false d cs (fun ct cu=>(Ag N (wrap .i64 (bb+1)) b c false d cu (fun cv cw=>(q5 cw 1 [(.str ([115,48]:List UInt8)),(.int .i64 ck),(.int .i64 bb),(.int .i64 ct),(.int .i64 cv),(.int .i64 cn),(.int .i64 cp),(.int .i64 (wrap .i64 (1+cr))),(.int .i64 4)]))))))))))))))) (q5 bk 0 [])))))
def Pm (r0:LA→O R) (m:Int) (b:LA) (c:Nat) (d:Bool) (f:Int) (g e:Nat) (l i:LA):Nat→Int→Int→Nat→Nat→LA→LA→O R
 | 0,_,_,_,_,_,_=>none
 | n+1,aj,ak,p,o,q,r=>(Zx N r0 m b c d f g e l i (Pm r0 m b c d f g e l i n) (fun aq s t=>(HS N r0 m b c d f g e p o l i q r aq s t)) aj ak p o q r)
def Zy (r0:LA→O R) (m:Int) (b:LA) (c:Nat) (d:Bool) (f:Int) (g e:Nat) (l i:LA) (k2:Int→Int→Nat→LA→O R) (q3:Int→Int→Nat→LA→O R) (q4:Int→Int→Nat→Nat→LA→LA→O R) (af aa:Int) (ab:Nat) (ac:LA):O R :=
 (cond ((decide (af>0))==true) (cond (cond true (decide (m>1)) false) (q3 af aa ab ac) (Ag N 3 b c false d aa (fun cx cy=>(q4 (wrap .i64 (1+cx)) cy ab 0 ac [])))) (Ag N 3 b c false d aa (fun cz da=>(q4 (wrap .i64 (1+cz)) da ab 0 ac []))))
def Pn (r0:LA→O R) (m:Int) (b:LA) (c:Nat) (d:Bool) (f:Int) (g e:Nat) (l i:LA):Nat→Int→Int→Nat→LA→O R
 | 0,_,_,_,_=>none
 | n+1,af,aa,ab,ac=>(Zy N r0 m b c d f g e l i (Pn r0 m b c d f g e l i n) (fun au av an aw=>(WF N (Pn r0 m b c d f g e l i n) r0 m b c d f g e l i au av an aw)) (fun aj ak p o q r=>(Pm N r0 m b c d f g e l i N aj ak p o q r)) af aa ab ac)
def MG (r0:LA→O R) (b:LA) (c:Nat) (d:Bool) (f:Int) (g e:Nat) (l i:LA) (k1:Int→Int→Int→Nat→LA→O R) (q2:Int→Int→Nat→LA→O R) (m ag al:Int) (y:Nat) (am:LA):O R :=
 (cond (decide (ag<m)) (Ag N ag b c false d al (fun db dc=>(Qi N ((y:Nat):Int) db ag f b c false d dc (fun bl dd=>(cond ((Nat.beq (bl.length) 12)&&(Nat.ble 12 12)) (cond ((Nat.ble (y+1) 140737488355328)&&(Nat.ble ((y+1)*120) 140737488355328)) (k1 m (wrap .i64 (ag+1)) dd (y+1) ((am.take (y*12))++((setCells [(.str ([]:List UInt8)),(.int .i64 0),(.int .i64 0),(.int .i64 0),(.int .i64 0),(.int .i64 0),(.int .i64 0),(.int .i64 0),(.int .i64 0),(.int .i64 0),(.int .i64 0),.nsl] 0 bl).take 12))) none) none))))) (Ag N 5 b c false d al (fun de df=>(q2 de df y am))))
def Xn (r0:LA→O R) (b:LA) (c:Nat) (d:Bool) (f:Int) (g e:Nat) (l i:LA):Nat→Int→Int→Int→Nat→LA→O R
 | 0,_,_,_,_,_=>none
 | n+1,m,ag,al,y,am=>(MG N r0 b c d f g e l i (Xn r0 b c d f g e l i n) (fun af aa ab ac=>(Pn N r0 m b c d f g e l i N af aa ab ac)) m ag al y am)
def Zz (r0:LA→O R) (b:LA) (c:Nat) (d:Bool) (g:Nat) (l:LA) (k0:Int→Int→Int→Nat→LA→O R) (q1:Int→Int→Int→Nat→LA→O R) (ad ah f:Int) (e:Nat) (i:LA):O R :=
 (cond (decide (ad>0)) (LN N ([98]:List UInt8) ((e:Nat):Int) (fun bm=>(E3 N f 14 b c false d ah (fun ba dg bn=>(Ag N 2 b c false d dg (fun dh bo=>(cond (dh==1) (Ag N 200 b c false d bo (fun di dj=>(cond ((Nat.ble (e+1) 140737488355328)&&(Nat.ble ((e+1)*48) 140737488355328)) (k0 (wrap .i64 (ad - 1)) dj f (e+1) ((i.take (e*3))++[(.str bm),(.imm (bn.take (ba*1)) ba 1 false false),(.int .i64 (wrap .i64 (100+di)))])) none))) (cond ((Nat.ble (e+1) 140737488355328)&&(Nat.ble ((e+1)*48) 140737488355328)) (k0 (wrap .i64 (ad - 1)) bo f (e+1) ((i.take (e*3))++[(.str bm),(.imm (bn.take (ba*1)) ba 1 false false),(.int .i64 0)])) none)))))))) (q1 ((e:Nat):Int) 1 ah 0 []))
def Mw (r0:LA→O R) (b:LA) (c:Nat) (d:Bool) (g:Nat) (l:LA):Nat→Int→Int→Int→Nat→LA→O R
 | 0,_,_,_,_,_=>none
 | n+1,ad,ah,f,e,i=>(Zz N r0 b c d g l (Mw r0 b c d g l n) (fun m ag al y am=>(Xn N r0 b c d f g e l i N m ag al y am)) ad ah f e i)
def ro (r0:LA→O R) (q0:Nat→LA→Int→Int→Int→Nat→LA→O R) (b:LA) (c:Nat) (ay d:Bool):O R :=
 (Aug N b c false d (Ag N 3 b c false d 0 (fun bp dk=>(E3 N (wrap .i64 (1+bp)) 5 b c false d dk (fun g dl l=>(Ag N 4 b c false d dl (fun dm dn=>(q0 g l (wrap .i64 (1+dm)) dn (wrap .i64 (1+bp)) 0 []))))))))
def iQ:=(Af (fun (N:Nat) (b:LA) (c:Nat) (ay d:Bool) (r0:LA→O R)=>(ro N r0 (fun g l ad ah f e i=>(Mw N r0 b c d g l N ad ah f e i)) b c ay d))).1
theorem ym (b c ay d r0):(@iQ R N b c ay d r0)=(ro N r0 (fun g l ad ah f e i=>(Mw N r0 b c d g l N ad ah f e i)) b c ay d):=by rw[iQ,(Af _).2]
def Aj0:Hints:={ H:=(hS hL (hS hL (hS hL (hS hL (hS (hS hL (hS (hP [2,3,4,5] hL) hL)) (hS hL (hS (hS hL (hS (hP [2,3,4,7,8] hL) hL)) (hS (hS hL (hS (hP [2,3,4,7,9] (hJ [2,3,4,7,9] hL hL)) hL)) (hS (hS hL (hS (hP [2,3,4,7,11] hL) hL)) (hJ [2,3,4,7] hL (hJ [2,3,4] hL (hS (hS hL (hS (hP [2,3,4,13] (hJ [2,3,4,13] hL hL)) hL)) hL)))))))))))),modes:=[(3,0)],cob:=[23,44,192] }
def Aq7:Ef:=[(105,A9e N),(106,I5 N),(107,uq N),(108,VU N),(109,Aax N),(110,Aa3 N),(111,rM N),(112,Avj N)]
def Mx (F:KF R):=Ja Tryz.f61 Aj0 (Aq7 N) [] N F
def Cl (F:KF R):LA→O R:=(fun dp=>F (.pagg dp false) [])
def A3s (m:Int) (b:LA) (c:Nat) (d:Bool) (f:Int) (g e:Nat) (l i:LA) (au av:Int) (an:Nat) (aw:LA):St:=⟨[(2,(op 0)),(3,(op 1)),(4,(op 2)),(7,(iv m)),(9,(iv au))],(hq [⟨false,false,false,false,0,[(iv 0),.nsl,.nsl,.nsl,.nsl,.nsl,.nsl,.nsl],false⟩,⟨false,false,false,false,0,[(.imm b c 1 false d),(iv av)],false⟩,⟨false,false,false,false,0,[(iv f),(.own 300003 0 g),(.own 300004 0 e),(.own 300005 0 an),(.own 300006 0 0),(.own 300007 0 0),(.own 300008 0 0),(.own 300009 0 0)],false⟩,(bQ 1 l),(bQ 3 i),(bQ 12 aw),(bQ 22 []),(bQ 9 []),(bQ 5 []),(bQ 4 [])])⟩
def A3t (F:KF R) (Q2:St→O R):=Mx N F [1,1,1,1,1,1,1,0,1,0,0,1] [Q2]
def A3u (b:LA) (c:Nat) (d:Bool) (f:Int) (g e p o s u:Nat) (l i q r t v:LA) (ar ax:Int) (w:Nat) (ao:LA):St:=⟨[(2,(op 0)),(3,(op 1)),(4,(op 2)),(13,(iv ar))],(hq [⟨false,false,false,false,0,[(iv 0),.nsl,.nsl,.nsl,.nsl,.nsl,.nsl,.nsl],false⟩,⟨false,false,false,false,0,[(.imm b c 1 false d),(iv ax)],false⟩,⟨false,false,false,false,0,[(iv f),(.own 300003 0 g),(.own 300004 0 e),(.own 300005 0 p),(.own 300006 0 o),(.own 300007 0 s),(.own 300008 0 u),(.own 300009 0 w)],false⟩,(bQ 1 l),(bQ 3 i),(bQ 12 q),(bQ 22 r),(bQ 9 t),(bQ 5 v),(bQ 4 ao)])⟩
def A3v (F:KF R) (Q7:St→O R):=Mx N F [1,1,1,1,1,1,1,1,1,1,1,0,1,0,0,1] [Q7]
def Aj1 (b:LA) (c:Nat) (d:Bool) (f:Int) (g e p o s u:Nat) (l i q r t v:LA) (ae ai:Int) (x:Nat) (z:LA):St:=⟨[(2,(op 0)),(3,(op 1)),(4,(op 2)),(13,(iv ae))],(hq [⟨false,false,false,false,0,[(iv 0),.nsl,.nsl,.nsl,.nsl,.nsl,.nsl,.nsl],false⟩,⟨false,false,false,false,0,[(.imm b c 1 false d),(iv ai)],false⟩,⟨false,false,false,false,0,[(iv f),(.own 300003 0 g),(.own 300004 0 e),(.own 300005 0 p),(.own 300006 0 o),(.own 300007 0 s),(.own 300008 0 u),(.own 300009 0 x)],false⟩,(bQ 1 l),(bQ 3 i),(bQ 12 q),(bQ 22 r),(bQ 9 t),(bQ 5 v),(bQ 4 z)])⟩
def Aj2 (F:KF R):=Mx N F [1,1,1,1,1,1,1,1,1,1,1,0,1,0] []
def A3w (b:LA) (c:Nat) (d:Bool) (f:Int) (g e p o s:Nat) (l i q r t:LA) (ap:Int) (u:Nat) (v:LA):St:=⟨[(2,(op 0)),(3,(op 1)),(4,(op 2))],(hq [⟨false,false,false,false,0,[(iv 0),.nsl,.nsl,.nsl,.nsl,.nsl,.nsl,.nsl],false⟩,⟨false,false,false,false,0,[(.imm b c 1 false d),(iv ap)],false⟩,⟨false,false,false,false,0,[(iv f),(.own 300003 0 g),(.own 300004 0 e),(.own 300005 0 p),(.own 300006 0 o),(.own 300007 0 s),(.own 300008 0 u),(.own 300009 0 0)],false⟩,(bQ 1 l),(bQ 3 i),(bQ 12 q),(bQ 22 r),(bQ 9 t),(bQ 5 v),(bQ 4 [])])⟩
def A3x (F:KF R):=Mx N F [1,1,1,1,1,1,1,1,1,1,1] []
def A3y (m:Int) (b:LA) (c:Nat) (d:Bool) (f:Int) (g e p o:Nat) (l i q r:LA) (aq:Int) (s:Nat) (t:LA):St:=⟨[(2,(op 0)),(3,(op 1)),(4,(op 2)),(7,(iv m))],(hq [⟨false,false,false,false,0,[(iv 0),.nsl,.nsl,.nsl,.nsl,.nsl,.nsl,.nsl],false⟩,⟨false,false,false,false,0,[(.imm b c 1 false d),(iv aq)],false⟩,⟨false,false,false,false,0,[(iv f),(.own 300003 0 g),(.own 300004 0 e),(.own 300005 0 p),(.own 300006 0 o),(.own 300007 0 s),(.own 300008 0 0),(.own 300009 0 0)],false⟩,(bQ 1 l),(bQ 3 i),(bQ 12 q),(bQ 22 r),(bQ 9 t),(bQ 5 []),(bQ 4 [])])⟩
def A3z (F:KF R):=Mx N F [1,1,1,1,1,1,1,1,1,1] []
def A30 (m:Int) (b:LA) (c:Nat) (d:Bool) (f:Int) (g e:Nat) (l i:LA) (aj ak:Int) (p o:Nat) (q r:LA):St:=⟨[(2,(op 0)),(3,(op 1)),(4,(op 2)),(7,(iv m)),(11,(iv aj))],(hq [⟨false,false,false,false,0,[(iv 0),.nsl,.nsl,.nsl,.nsl,.nsl,.nsl,.nsl],false⟩,⟨false,false,false,false,0,[(.imm b c 1 false d),(iv ak)],false⟩,⟨false,false,false,false,0,[(iv f),(.own 300003 0 g),(.own 300004 0 e),(.own 300005 0 p),(.own 300006 0 o),(.own 300007 0 0),(.own 300008 0 0),(.own 300009 0 0)],false⟩,(bQ 1 l),(bQ 3 i),(bQ 12 q),(bQ 22 r),(bQ 9 []),(bQ 5 []),(bQ 4 [])])⟩
def A31 (F:KF R):=Mx N F [1,1,1,1,1,1,1,1,0,1,0] []
def Aj3 (m:Int) (b:LA) (c:Nat) (d:Bool) (f:Int) (g e:Nat) (l i:LA) (af aa:Int) (ab:Nat) (ac:LA):St:=⟨[(2,(op 0)),(3,(op 1)),(4,(op 2)),(7,(iv m)),(9,(iv af))],(hq [⟨false,false,false,false,0,[(iv 0),.nsl,.nsl,.nsl,.nsl,.nsl,.nsl,.nsl],false⟩,⟨false,false,false,false,0,[(.imm b c 1 false d),(iv aa)],false⟩,⟨false,false,false,false,0,[(iv f),(.own 300003 0 g),(.own 300004 0 e),(.own 300005 0 ab),(.own 300006 0 0),(.own 300007 0 0),(.own 300008 0 0),(.own 300009 0 0)],false⟩,(bQ 1 l),(bQ 3 i),(bQ 12 ac),(bQ 22 []),(bQ 9 []),(bQ 5 []),(bQ 4 [])])⟩
def Aj4 (F:KF R):=Mx N F [1,1,1,1,1,1,1,0,1,0] []
def A32 (b:LA) (c:Nat) (d:Bool) (f:Int) (g e:Nat) (l i:LA) (m ag al:Int) (y:Nat) (am:LA):St:=⟨[(2,(op 0)),(3,(op 1)),(4,(op 2)),(7,(iv m)),(8,(iv ag))],(hq [⟨false,false,false,false,0,[(iv 0),.nsl,.nsl,.nsl,.nsl,.nsl,.nsl,.nsl],false⟩,⟨false,false,false,false,0,[(.imm b c 1 false d),(iv al)],false⟩,⟨false,false,false,false,0,[(iv f),(.own 300003 0 g),(.own 300004 0 e),(.own 300005 0 y),(.own 300006 0 0),(.own 300007 0 0),(.own 300008 0 0),(.own 300009 0 0)],false⟩,(bQ 1 l),(bQ 3 i),(bQ 12 am),(bQ 22 []),(bQ 9 []),(bQ 5 []),(bQ 4 [])])⟩
def A33 (F:KF R):=Mx N F [1,1,1,1,1,1,0,1,0] []
def A34 (b:LA) (c:Nat) (d:Bool) (g:Nat) (l:LA) (ad ah f:Int) (e:Nat) (i:LA):St:=⟨[(2,(op 0)),(3,(op 1)),(4,(op 2)),(5,(iv ad))],(hq [⟨false,false,false,false,0,[(iv 0),.nsl,.nsl,.nsl,.nsl,.nsl,.nsl,.nsl],false⟩,⟨false,false,false,false,0,[(.imm b c 1 false d),(iv ah)],false⟩,⟨false,false,false,false,0,[(iv f),(.own 300003 0 g),(.own 300004 0 e),(.own 300005 0 0),(.own 300006 0 0),(.own 300007 0 0),(.own 300008 0 0),(.own 300009 0 0)],false⟩,(bQ 1 l),(bQ 3 i),(bQ 12 []),(bQ 22 []),(bQ 9 []),(bQ 5 []),(bQ 4 [])])⟩
def A35 (F:KF R):=Mx N F [1,1,1,1,0,1,0] []
theorem Anp (Q2:St→O R) (F:KF R) (m:Int) (b:LA) (c:Nat) (d:Bool) (f:Int) (g e:Nat) (l i:LA):∀ (au av:Int) (an:Nat) (aw:LA),A8 (A3t N F Q2) (A3s m b c d f g e l i au av an aw)=(WF N (fun af aa ab ac=>Q2 (Aj3 m b c d f g e l i af aa ab ac)) (Cl F) m b c d f g e l i au av an aw):=by
 intro au av an aw
 kernel_rfl
theorem Anq (Q7:St→O R) (F:KF R) (b:LA) (c:Nat) (d:Bool) (f:Int) (g e p o s u:Nat) (l i q r t v:LA):∀ (ar ax:Int) (w:Nat) (ao:LA),A8 (A3v N F Q7) (A3u b c d f g e p o s u l i q r t v ar ax w ao)=(WG N (fun ae ai x z=>Q7 (Aj1 b c d f g e p o s u l i q r t v ae ai x z)) (Cl F) b c d f g e p o s u l i q r t v ar ax w ao):=by
 intro ar ax w ao
 kernel_rfl
theorem lc (F:KF R) (b:LA) (c:Nat) (d:Bool) (f:Int) (g e p o s u:Nat) (l i q r t v:LA):∀ (n:Nat) (ae ai:Int) (x:Nat) (z:LA),Ap (Aj2 N F) n (Aj1 b c d f g e p o s u l i q r t v ae ai x z)=(Ih N (Cl F) b c d f g e p o s u l i q r t v n ae ai x z)
 | 0,_,_,_,_=>by kernel_rfl
 | n+1,ae,ai,x,z=>have e0:=(funext fun ae=>funext fun ai=>funext fun x=>funext fun z=>(lc F b c d f g e p o s u l i q r t v n ae ai x z))
  Eq.trans (by kernel_rfl) (cR (Zw N (Cl F) b c d f g e p o s u l i q r t v · · ae ai x z) e0 (funext fun ar=>funext fun ax=>funext fun w=>funext fun ao=>(Ar ..).trans ((Anq N (Ap (Aj2 N F) n) F b c d f g e p o s u l i q r t v ar ax w ao).trans (Bn (WG N · (Cl F) b c d f g e p o s u l i q r t v ar ax w ao) e0))):_)
theorem Anr (F:KF R) (b:LA) (c:Nat) (d:Bool) (f:Int) (g e p o s:Nat) (l i q r t:LA):∀ (ap:Int) (u:Nat) (v:LA),A8 (A3x N F) (A3w b c d f g e p o s l i q r t ap u v)=(WH N (Cl F) b c d f g e p o s l i q r t ap u v):=by
 intro ap u v
 exact Eq.trans (by kernel_rfl) (Bn (fb N (Cl F) b c d f g e p o s l i q r t · ap u v) (funext fun ae=>funext fun ai=>funext fun x=>funext fun z=>(Aj ..).trans (lc N F b c d f g e p o s u l i q r t v N ae ai x z)):_)
theorem Ans (F:KF R) (m:Int) (b:LA) (c:Nat) (d:Bool) (f:Int) (g e p o:Nat) (l i q r:LA):∀ (aq:Int) (s:Nat) (t:LA),A8 (A3z N F) (A3y m b c d f g e p o l i q r aq s t)=(HS N (Cl F) m b c d f g e p o l i q r aq s t):=by
 intro aq s t
 exact Eq.trans (by kernel_rfl) (Bn (MF N (Cl F) m b c d f g e p o l i q r · aq s t) (funext fun ap=>funext fun u=>funext fun v=>(Ar ..).trans (Anr N F b c d f g e p o s l i q r t ap u v)):_)
theorem ld (F:KF R) (m:Int) (b:LA) (c:Nat) (d:Bool) (f:Int) (g e:Nat) (l i:LA):∀ (n:Nat) (aj ak:Int) (p o:Nat) (q r:LA),Ap (A31 N F) n (A30 m b c d f g e l i aj ak p o q r)=(Pm N (Cl F) m b c d f g e l i n aj ak p o q r)
 | 0,_,_,_,_,_,_=>by kernel_rfl
 | n+1,aj,ak,p,o,q,r=>Eq.trans (by kernel_rfl) (cR (Zx N (Cl F) m b c d f g e l i · · aj ak p o q r) (funext fun aj=>funext fun ak=>funext fun p=>funext fun o=>funext fun q=>funext fun r=>(ld F m b c d f g e l i n aj ak p o q r)) (funext fun aq=>funext fun s=>funext fun t=>(Ar ..).trans (Ans N F m b c d f g e p o l i q r aq s t)):_)
theorem lh (F:KF R) (m:Int) (b:LA) (c:Nat) (d:Bool) (f:Int) (g e:Nat) (l i:LA):∀ (n:Nat) (af aa:Int) (ab:Nat) (ac:LA),Ap (Aj4 N F) n (Aj3 m b c d f g e l i af aa ab ac)=(Pn N (Cl F) m b c d f g e l i n af aa ab ac)
 | 0,_,_,_,_=>by kernel_rfl
 | n+1,af,aa,ab,ac=>have e0:=(funext fun af=>funext fun aa=>funext fun ab=>funext fun ac=>(lh F m b c d f g e l i n af aa ab ac))
  Eq.trans (by kernel_rfl) (Bf8 (Zy N (Cl F) m b c d f g e l i · · · af aa ab ac) e0 (funext fun au=>funext fun av=>funext fun an=>funext fun aw=>(Ar ..).trans ((Anp N (Ap (Aj4 N F) n) F m b c d f g e l i au av an aw).trans (Bn (WF N · (Cl F) m b c d f g e l i au av an aw) e0))) (funext fun aj=>funext fun ak=>funext fun p=>funext fun o=>funext fun q=>funext fun r=>(Aj ..).trans (ld N F m b c d f g e l i N aj ak p o q r)):_)
theorem li (F:KF R) (b:LA) (c:Nat) (d:Bool) (f:Int) (g e:Nat) (l i:LA):∀ (n:Nat) (m ag al:Int) (y:Nat) (am:LA),Ap (A33 N F) n (A32 b c d f g e l i m ag al y am)=(Xn N (Cl F) b c d f g e l i n m ag al y am)
 | 0,_,_,_,_,_=>by kernel_rfl
 | n+1,m,ag,al,y,am=>Eq.trans (by kernel_rfl) (cR (MG N (Cl F) b c d f g e l i · · m ag al y am) (funext fun m=>funext fun ag=>funext fun al=>funext fun y=>funext fun am=>(li F b c d f g e l i n m ag al y am)) (funext fun af=>funext fun aa=>funext fun ab=>funext fun ac=>(Aj ..).trans (lh N F m b c d f g e l i N af aa ab ac)):_)
theorem lj (F:KF R) (b:LA) (c:Nat) (d:Bool) (g:Nat) (l:LA):∀ (n:Nat) (ad ah f:Int) (e:Nat) (i:LA),Ap (A35 N F) n (A34 b c d g l ad ah f e i)=(Mw N (Cl F) b c d g l n ad ah f e i)
 | 0,_,_,_,_,_=>by kernel_rfl
 | n+1,ad,ah,f,e,i=>Eq.trans (by kernel_rfl) (cR (Zz N (Cl F) b c d g l · · ad ah f e i) (funext fun ad=>funext fun ah=>funext fun f=>funext fun e=>funext fun i=>(lj F b c d g l n ad ah f e i)) (funext fun m=>funext fun ag=>funext fun al=>funext fun y=>funext fun am=>(Aj ..).trans (li N F b c d f g e l i N m ag al y am)):_)
theorem Aj5 (b:LA) (c:Nat) (ay d:Bool) (F:KF R):Cm (Aq7 N) Aj0 N 61 [(.imm b c 1 ay d)] [] F=(iQ N b c ay d (Cl F)):=by
 rw[ym]
 exact Eq.trans (by kernel_rfl) (Bn (ro N (Cl F) · b c ay d) (funext fun g=>funext fun l=>funext fun ad=>funext fun ah=>funext fun f=>funext fun e=>funext fun i=>(Aj ..).trans (lj N F b c d g l N ad ah f e i)):_)
def yn (a:LA) (h:Am) (k:KF R):O R :=
 match a,h with
 | [(.imm b c 1 ay d)],[]=>(iQ N b c ay d (Cl k))
 | _,_=>none
theorem Aj6:Ao N 61 @yn:=by
 intro R Q a h k j;unfold yn;split;exact Ay (Aj5 ..) (Aj5 ..) ⟨A9f N,I6 N,ur N,VV N,Aay N,Aa4 N,rN N,Avk N,trivial⟩;exact A0
def A36:=Az (Aj6 N)
def A37:=Cj (Aj6 N)
def Aj7 (b:LA) (c:Nat) (e d:Bool) (r0:LA→Int→O R):O R :=
 (iQ N b c false d (fun g=>(cond ((Nat.beq 0 0)&&((Nat.beq (g.length) 8)&&(Nat.beq 8 8))) (Co 22 (g.drop 4) fun f i=>(cond (Ac 0 i) (cond (Nat.ble 22 (f.length)) (An .i64 g fun l=>(cond ((Nat.beq 0 0)&&((Nat.beq ((f.take 22).length) 22)&&(Nat.beq 22 22))) (cond (Nat.ble 22 ((f.take 22).length)) (r0 ((f.take 22).take 22) l) none) none)) none) none)) none)))
def rt:=(Af (@Aj7 R)).1
theorem yp:@rt R=@Aj7 R:=(Af _).2
def A9i:Ef:=[(61,A36 N)]
def Aj8 (F:KF R):LA→Int→O R:=(fun m n=>F (.tup [(.pagg m false),(iv n)]) [])
theorem Aj9 (b:LA) (c:Nat) (e d:Bool) (F:KF R):Cm (A9i N) Bam N 27 [(.imm b c 1 e d)] [] F=(rt N b c e d (Aj8 F)):=by
 rw[yp]
 kernel_rfl
def yq (a:LA) (h:Am) (k:KF R):O R :=
 match a,h with
 | [(.imm b c 1 e d)],[]=>(rt N b c e d (Aj8 k))
 | _,_=>none
theorem Aka:Ao N 27 @yq:=by
 intro R Q a h k j;unfold yq;split;exact Ay (Aj9 ..) (Aj9 ..) ⟨A37 N,trivial⟩;exact A0
def A38:=Az (Aka N)
def A39:=Cj (Aka N)
def nh (b:LA) (c:Bool) (d:Int) (r0:Bool→O R):O R :=
 (cond (Nat.ble 3 (b.length)) (B6 N d (fun e=>(Fu N (b.take 3) c e false (fun f=>(r0 (decide (f≤0))))))) none)
def Qm:=(Af (@nh R)).1
theorem lk:@Qm R=@nh R:=(Af _).2
def Azf:Ef:=[(60,F7 N),(59,Rl N)]
def rx (F:KF R):Bool→O R:=(fun g=>F (.bool g) [])
theorem ry (b:LA) (c:Bool) (d:Int) (F:KF R):Cm (Azf N) Dr N 125 [(.pagg b c),(iv d)] [] F=(Qm N b c d (rx F)):=by
 rw[lk]
 kernel_rfl
def lm (a:LA) (h:Am) (k:KF R):O R :=
 match a,h with
 | [(.pagg b c),(.int .i64 d)],[]=>(Qm N b c d (rx k))
 | _,_=>none
theorem rz:Ao N 125 @lm:=by
 intro R Q a h k j;unfold lm;split;exact Ay (ry ..) (ry ..) ⟨F8 N,Rm N,trivial⟩;exact A0
def sA:=Az (rz N)
def sB:=Cj (rz N)
def HT (d:LA) (i g:Bool) (b:LA) (e:Bool) (c:LA) (f:Bool) (r0:Bool→O R):O R :=
 (cond (!g) (cond (Nat.ble 3 (b.length)) (Sa N (b.take 3) e (fun l=>(cond ((l==0)==true) (cond (Nat.ble 3 (c.length)) (Sa N (c.take 3) f (fun m=>(r0 (cond true (m==0) false)))) none) (r0 false)))) none) (cond (Nat.ble 3 (b.length)) (An .i64 (d.drop 2) fun n=>(B6 N n (fun o=>(Fu N (b.take 3) e o false (fun p=>(cond ((decide (p≥0))==true) (cond (Nat.ble 3 (c.length)) (An .i64 (d.drop 16) fun q=>(Xd N (c.take 3) f 0 q (fun r=>(cond ((cond true r false)==true) (cond (Nat.ble 3 (b.length)) (cond (Nat.ble 3 (c.length)) (N0 N (b.take 3) e (c.take 3) f (fun s=>(An .i64 (d.drop 3) fun t=>(Qm N s false t (fun u=>(r0 (cond true u false))))))) none) none) (r0 false))))) none) (r0 false))))))) none))
def Ry:=(Af (@HT R)).1
theorem MH:@Ry R=@HT R:=(Af _).2
def Aa7:Ef:=[(95,UD N),(60,F7 N),(59,Rl N),(56,UX N),(81,EF N),(125,sA N)]
def RO (F:KF R):Bool→O R:=(fun v=>F (.bool v) [])
theorem RP (d:LA) (i g:Bool) (b:LA) (e:Bool) (c:LA) (f:Bool) (F:KF R):Cm (Aa7 N) Dr N 76 [(.pagg d i),(.bool g),(.pagg b e),(.pagg c f)] [] F=(Ry N d i g b e c f (RO F)):=by
 rw[MH]
 kernel_rfl
def MI (a:LA) (h:Am) (k:KF R):O R :=
 match a,h with
 | [(.pagg d i),(.bool g),(.pagg b e),(.pagg c f)],[]=>(Ry N d i g b e c f (RO k))
 | _,_=>none
theorem RQ:Ao N 76 @MI:=by
 intro R Q a h k j;unfold MI;split;exact Ay (RP ..) (RP ..) ⟨UE N,F8 N,Rm N,UY N,EG N,sB N,trivial⟩;exact A0
def vF:=Az (RQ N)
def vG:=Cj (RQ N)
end
end Gx

namespace Gx
open Go Go.Proofs
open IntKind (wrap)
set_option maxRecDepth 100000
noncomputable section
variable {R:Type} (N:Nat)
def Sk (r0:Bool→O R) (f g l:Bool) (c:LA) (e:Bool) (b:LA) (i:Bool) (d m:LA) (n:Bool):O R :=
 (cond n (cond (Nat.ble 3 (m.length)) (cond (Nat.ble 3 (b.length)) (GO N (m.take 3) false (b.take 3) e (fun q=>(An .i64 (c.drop 6) fun r=>(Qm N q false r (fun s=>(cond (s==true) (cond (Nat.ble 3 (b.length)) (cond (Nat.ble 3 (d.length)) (GO N (b.take 3) e (d.take 3) i (fun t=>(An .i64 (c.drop 7) fun u=>(Qm N t false u (fun v=>(r0 (cond true v false))))))) none) none) (r0 false))))))) none) none) (cond g (cond (Nat.ble 3 (m.length)) (An .i64 (c.drop 8) fun w=>(Qm N (m.take 3) false w (fun x=>(r0 x)))) none) (cond f (cond (Nat.ble 3 (b.length)) (An .i64 (c.drop 9) fun y=>(Qm N (b.take 3) e y (fun z=>(r0 z)))) none) (r0 true))))
def Ys (r0:Bool→O R) (q0:LA→Bool→O R) (c:LA) (l f g:Bool) (b:LA) (e:Bool) (d:LA) (i:Bool) (o:LA) (p:Bool):O R :=
 (cond (Nat.ble 3 (d.length)) (cond (Nat.ble 3 (o.length)) (N0 N (d.take 3) i (o.take 3) p (fun m=>(cond ((Nat.beq 0 0)&&((Nat.beq (m.length) 3)&&(Nat.beq 3 3))) (cond (g==true) (q0 m (cond true f false)) (q0 m false)) none))) none) none)
def Qn:=(Af (fun (N:Nat) (c:LA) (l f g:Bool) (b:LA) (e:Bool) (d:LA) (i:Bool) (o:LA) (p:Bool) (r0:Bool→O R)=>(Ys N r0 (fun m n=>(Sk N r0 f g l c e b i d m n)) c l f g b e d i o p))).1
theorem RR (c l f g b e d i o p r0):(@Qn R N c l f g b e d i o p r0)=(Ys N r0 (fun m n=>(Sk N r0 f g l c e b i d m n)) c l f g b e d i o p):=by rw[Qn,(Af _).2]
def aP:Hints:={ H:=(hS hL (hS hL (hS (hS (hJ [1,2,6,9,10,13,17] hL hL) hL) hL))) }
def fc:Ef:=[(81,EF N),(83,uS N),(125,sA N)]
def Aa8 (F:KF R):=Ja Tryz.f77 aP (fc N) [] N F
def Sm (F:KF R):Bool→O R:=(fun aa=>F (.bool aa) [])
def Aa9 (f g l:Bool) (c:LA) (e:Bool) (b:LA) (i:Bool) (d m:LA) (n:Bool):St:=⟨[(1,(.bool f)),(2,(.bool g)),(6,(op 0)),(9,(op 1)),(10,(op 2)),(13,(op 3)),(17,(.bool n))],(hq [(bP l 0 c),(bP e 0 b),(bP i 0 d),(bQ 0 m)])⟩
def Aba (F:KF R):=Aa8 N F [1,1,0,0,1] []
theorem ni (F:KF R) (f g l:Bool) (c:LA) (e:Bool) (b:LA) (i:Bool) (d m:LA):∀ (n:Bool),A8 (Aba N F) (Aa9 f g l c e b i d m n)=(Sk N (Sm F) f g l c e b i d m n):=by
 intro n
 kernel_rfl
theorem aQ (c:LA) (l f g:Bool) (b:LA) (e:Bool) (d:LA) (i:Bool) (o:LA) (p:Bool) (F:KF R):Cm (fc N) aP N 77 [(.pagg c l),(.bool f),(.bool g),(.pagg b e),(.pagg d i),(.pagg o p)] [] F=(Qn N c l f g b e d i o p (Sm F)):=by
 rw[RR]
 exact Eq.trans (by kernel_rfl) (Bn (Ys N (Sm F) · c l f g b e d i o p) (funext fun m=>funext fun n=>(Ar ..).trans (ni N F f g l c e b i d m n)):_)
def RS (a:LA) (h:Am) (k:KF R):O R :=
 match a,h with
 | [(.pagg c l),(.bool f),(.bool g),(.pagg b e),(.pagg d i),(.pagg o p)],[]=>(Qn N c l f g b e d i o p (Sm k))
 | _,_=>none
theorem aR:Ao N 77 @RS:=by
 intro R Q a h k j;unfold RS;split;exact Ay (aQ ..) (aQ ..) ⟨EG N,uT N,sB N,trivial⟩;exact A0
def Abb:=Az (aR N)
def Abc:=Cj (aR N)
def MJ (k1:Bool→Int→Bool→LA→O R) (r0:Int→Int→O R) (d i l:Int) (o:Bool) (f:Int) (g:Bool) (b:LA) (e:Bool) (c:LA) (m:Bool) (q:LA):O R :=
 (Co 1 c fun y z=>(cond (Ac f z) (An .i64 (y.drop ((f.toNat)*1)) fun r=>(cond (Nat.ble 22 (b.length)) (Co 3 (c.drop 1) fun t aa=>(cond (Ac f aa) (cond (Nat.ble 3 ((t.drop ((f.toNat)*3)).length)) (Co 3 (c.drop 2) fun u ab=>(cond (Ac f ab) (cond (Nat.ble 3 ((u.drop ((f.toNat)*3)).length)) (Ry N (b.take 22) g (r==2) ((t.drop ((f.toNat)*3)).take 3) e ((u.drop ((f.toNat)*3)).take 3) e (fun ac=>(cond (!ac) (r0 f 3) (cond (Nat.ble 22 (b.length)) (cond (Nat.ble 3 (q.length)) (Co 3 (c.drop 1) fun v ad=>(cond (Ac f ad) (cond (Nat.ble 3 ((v.drop ((f.toNat)*3)).length)) (Co 3 (c.drop 2) fun w ae=>(cond (Ac f ae) (cond (Nat.ble 3 ((w.drop ((f.toNat)*3)).length)) (Qn N (b.take 22) g o (r==2) (q.take 3) m ((v.drop ((f.toNat)*3)).take 3) e ((w.drop ((f.toNat)*3)).take 3) e (fun af=>(cond (!af) (r0 f 64) (Co 3 (c.drop 1) fun s ag=>(cond (Ac f ag) (cond (Nat.ble 3 ((s.drop ((f.toNat)*3)).length)) (cond ((Nat.beq (((s.drop ((f.toNat)*3)).take 3).length) 3)&&((Nat.ble 3 (q.length))&&(!false))) (k1 (r==2) (wrap .i64 (f+1)) (m||e) (setCells q 0 ((s.drop ((f.toNat)*3)).take 3))) none) none) none))))) none) none)) none) none)) none) none)))) none) none)) none) none)) none)) none))
def DP (N:Nat) (r0:Int→Int→O R) (d i l:Int) (g:Bool) (b:LA) (e:Bool) (c:LA) (k1:Bool→Int→Bool→LA→O R) (q2:LA→O R) (o:Bool) (f:Int) (m:Bool) (p:LA):O R :=
 (cond (decide (f<d)) (cond ((l != 0)==true) (cond (cond true (decide (f≥i)) false) (r0 f 16) (q2 p)) (q2 p)) (r0 d 0))
def Lo (r0:Int→Int→O R) (d i l:Int) (g:Bool) (b:LA) (e:Bool) (c:LA):Nat→Bool→Int→Bool→LA→O R
 | 0,_,_,_,_=>none
 | n+1,o,f,m,p=>(DP N r0 d i l g b e c (Lo r0 d i l g b e c n) (fun q=>(MJ N (Lo r0 d i l g b e c n) r0 d i l o f g b e c m q)) o f m p)
def WI (r0:Int→Int→O R) (d:Int) (g:Bool) (b:LA) (e:Bool) (c:LA) (q1:Int→Int→Bool→Int→Bool→LA→O R):O R :=
 (cond (Nat.ble 22 (b.length)) (Co 1 c fun ah ai=>(DC N (b.take 22) g ah ai false e (fun ar i l au=>(An .i64 (b.drop 19) fun aj=>(An .i64 (b.drop 21) fun ak=>(B6 N ak (fun x=>(cond ((Nat.beq 0 0)&&((Nat.beq (x.length) 3)&&(Nat.beq 3 3))) (q1 i l (aj==2) 0 false x) none)))))))) none)
def MK (r0:Int→Int→O R) (d:Int) (g:Bool) (b:LA) (e:Bool) (c:LA):O R:=(WI N r0 d g b e c (fun i l o f m p=>(Lo N r0 d i l g b e c N o f m p)))
def iR (r0:Int→Int→O R) (q0:O R) (b:LA) (g:Bool) (d:Int) (c:LA) (e:Bool):O R :=
 (cond (Nat.ble 22 (b.length)) (Uw N (b.take 22) g d (fun al=>(cond (!al) (r0 0 1) (Co 1 c fun av am=>(cond ((((am:Nat):Int) != d)==false) (Co 3 (c.drop 1) fun aw an=>(cond ((cond false true (((an:Nat):Int) != d))==false) (Co 3 (c.drop 2) fun ax ao=>(cond (cond false true (((ao:Nat):Int) != d)) (r0 0 4) q0)) (r0 0 4))) (r0 0 4)))))) none)
def RT:=(Af (fun (N:Nat) (b:LA) (g:Bool) (d:Int) (c:LA) (e:Bool) (r0:Int→Int→O R)=>(iR N r0 (MK N r0 d g b e c) b g d c e))).1
theorem sC (b g d c e r0):(@RT R N b g d c e r0)=(iR N r0 (MK N r0 d g b e c) b g d c e):=by rw[RT,(Af _).2]
def yr:Hints:={ H:=(hS hL (hS hL (hJ [1,3,5] hL (hS hL (hS hL (hS hL (hS (hS hL (hS (hP [1,3,5,9,10,11,12,52,53] (hS hL (hS hL (hS (hS (hS hL (hJ [1,3,5,9,10,11,12,13,52,53] hL hL)) hL) hL)))) hL)) hL))))))) }
def Akb:Ef:=[(16,KE N),(64,nW N),(60,F7 N),(76,vF N),(77,Abb N)]
def fe (F:KF R):=Ja Tryz.f38 yr (Akb N) [] N F
def Jp (F:KF R):Int→Int→O R:=(fun ap aq=>F (.tup [(iv ap),(iv aq)]) [])
def Azg (d i l:Int) (o:Bool) (f:Int) (g:Bool) (b:LA) (e:Bool) (c:LA) (m:Bool) (q:LA):St:=⟨[(1,(iv d)),(3,(op 0)),(5,(op 1)),(9,(iv i)),(10,(iv l)),(11,(.bool o)),(12,(op 2)),(13,(iv f)),(52,(iv d)),(53,(iv f))],(hq [(bP g 0 b),(bP e 0 c),(bP m 0 q)])⟩
def Azh (F:KF R) (Q1:St→O R):=fe N F [1,1,1,1,1,1,0,1,0,0,1,1,0,0,1,1] [Q1]
def yu (d i l:Int) (g:Bool) (b:LA) (e:Bool) (c:LA) (o:Bool) (f:Int) (m:Bool) (p:LA):St:=⟨[(1,(iv d)),(3,(op 0)),(5,(op 1)),(9,(iv i)),(10,(iv l)),(11,(.bool o)),(12,(op 2)),(52,(iv d)),(53,(iv f))],(hq [(bP g 0 b),(bP e 0 c),(bP m 0 p)])⟩
def yv (F:KF R):=fe N F [1,1,1,1,1,1,0,1,0] []
def Azi (d:Int) (g:Bool) (b:LA) (e:Bool) (c:LA):St:=⟨[(1,(iv d)),(3,(op 0)),(5,(op 1))],(hq [(bP g 0 b),(bP e 0 c)])⟩
def Azj (F:KF R):=fe N F [1,1,1] []
theorem Akc (Q1:St→O R) (F:KF R) (d i l:Int) (o:Bool) (f:Int) (g:Bool) (b:LA) (e:Bool) (c:LA) (m:Bool):∀ (q:LA),A8 (Azh N F Q1) (Azg d i l o f g b e c m q)=(MJ N (fun o f m p=>Q1 (yu d i l g b e c o f m p)) (Jp F) d i l o f g b e c m q):=by
 intro q
 kernel_rfl
theorem ff (F:KF R) (d i l:Int) (g:Bool) (b:LA) (e:Bool) (c:LA):∀ (n:Nat) (o:Bool) (f:Int) (m:Bool) (p:LA),Ap (yv N F) n (yu d i l g b e c o f m p)=(Lo N (Jp F) d i l g b e c n o f m p)
 | 0,_,_,_,_=>by kernel_rfl
 | n+1,o,f,m,p=>have e0:=(funext fun o=>funext fun f=>funext fun m=>funext fun p=>(ff F d i l g b e c n o f m p))
  Eq.trans (by kernel_rfl) (cR (DP N (Jp F) d i l g b e c · · o f m p) e0 (funext fun q=>(Ar ..).trans ((Akc N (Ap (yv N F) n) F d i l o f g b e c m q).trans (Bn (MJ N · (Jp F) d i l o f g b e c m q) e0))):_)
theorem Akd (F:KF R) (d:Int) (g:Bool) (b:LA) (e:Bool) (c:LA):A8 (Azj N F) (Azi d g b e c)=(MK N (Jp F) d g b e c):=by
 exact Eq.trans (by kernel_rfl) (Bn (WI N (Jp F) d g b e c ·) (funext fun i=>funext fun l=>funext fun o=>funext fun f=>funext fun m=>funext fun p=>(Aj ..).trans (ff N F d i l g b e c N o f m p)):_)
theorem yw (b:LA) (g:Bool) (d:Int) (c:LA) (e:Bool) (F:KF R):Cm (Akb N) yr N 38 [(.pagg b g),(iv d),(.pagg c e)] [] F=(RT N b g d c e (Jp F)):=by
 rw[sC]
 exact Eq.trans (by kernel_rfl) (Bn (iR N (Jp F) · b g d c e) ((Ar ..).trans (Akd N F d g b e c)):_)
def sD (a:LA) (h:Am) (k:KF R):O R :=
 match a,h with
 | [(.pagg b g),(.int .i64 d),(.pagg c e)],[]=>(RT N b g d c e (Jp k))
 | _,_=>none
theorem yx:Ao N 38 @sD:=by
 intro R Q a h k j;unfold sD;split;exact Ay (yw ..) (yw ..) ⟨KG N,nX N,F8 N,vG N,Abc N,trivial⟩;exact A0
def Azk:=Az (yx N)
def Azl:=Cj (yx N)
def vH (b:LA) (c:Bool) (r0:Int→Int→O R):O R :=
 (cond (Nat.ble 22 (b.length)) (Kz N (b.take 22) c (fun d=>(cond (!d) (r0 0 0) (An .i64 (b.drop 11) fun e=>(An .i64 (b.drop 15) fun f=>(An .i64 (b.drop 10) fun g=>(r0 (Iq (Iq e (wrap .i64 (f+1))) 1) (Iq g 1)))))))) none)
def HU:=(Af (@vH R)).1
theorem sE:@HU R=@vH R:=(Af _).2
def A4a:Ef:=[(52,Qd N)]
def yy (F:KF R):Int→Int→O R:=(fun i l=>F (.tup [(iv i),(iv l)]) [])
theorem yz (b:LA) (c:Bool) (F:KF R):Cm (A4a N) Dr N 165 [(.pagg b c)] [] F=(HU N b c (yy F)):=by
 rw[sE]
 kernel_rfl
def sF (a:LA) (h:Am) (k:KF R):O R :=
 match a,h with
 | [(.pagg b c)],[]=>(HU N b c (yy k))
 | _,_=>none
theorem zA:Ao N 165 @sF:=by
 intro R Q a h k j;unfold sF;split;exact Ay (yz ..) (yz ..) ⟨Qe N,trivial⟩;exact A0
def fg:=Az (zA N)
def fh:=Cj (zA N)
def WJ (b:LA) (c:Bool) (r0:LA→O R):O R :=
 (cond (Nat.ble 22 (b.length)) (Kz N (b.take 22) c (fun e=>(cond (!e) (r0 [(.int .i64 0),(.int .i64 0)]) (cond (Nat.ble 22 (b.length)) (HU N (b.take 22) c (fun f g=>(An .i64 (b.drop 19) fun d=>(cond (d==0) (An .i64 (b.drop 20) fun i=>(r0 [(.int .i64 0),(.int .i64 (Bv i f))])) (cond (d==2) (An .i64 (b.drop 20) fun l=>(r0 [(.int .i64 2),(.int .i64 (Bv l g))])) (An .i64 (b.drop 20) fun m=>(r0 [(.int .i64 1),(.int .i64 m)]))))))) none)))) none)
def T8:=(Af (@WJ R)).1
theorem aS:@T8 R=@WJ R:=(Af _).2
def Ant:Ef:=[(52,Qd N),(165,fg N)]
def fi (F:KF R):LA→O R:=(fun n=>F (.pagg n false) [])
theorem fj (b:LA) (c:Bool) (F:KF R):Cm (Ant N) Ou N 113 [(.pagg b c)] [] F=(T8 N b c (fi F)):=by
 rw[aS]
 kernel_rfl
def aT (a:LA) (h:Am) (k:KF R):O R :=
 match a,h with
 | [(.pagg b c)],[]=>(T8 N b c (fi k))
 | _,_=>none
theorem fk:Ao N 113 @aT:=by
 intro R Q a h k j;unfold aT;split;exact Ay (fj ..) (fj ..) ⟨Qe N,fh N,trivial⟩;exact A0
def fl:=Az (fk N)
def fm:=Cj (fk N)
def Vo (N:Nat) (r0:Nat→LA→O R) (b:Int) (k2:Nat→Int→LA→O R) (f:Nat) (o:Int) (q:LA):O R :=
 (cond (decide (o≤b)) (cond ((Nat.ble (f+1) 140737488355328)&&(Nat.ble ((f+1)*16) 140737488355328)) (k2 (f+1) (wrap .i64 (o+1)) ((q.take (f*2))++[(.int .i64 2),(.int .i64 o)])) none) (r0 f q))
def Nw (r0:Nat→LA→O R) (b:Int):Nat→Nat→Int→LA→O R
 | 0,_,_,_=>none
 | n+1,f,o,q=>(Vo N r0 b (Nw r0 b n) f o q)
def Vp (N:Nat) (r0:Nat→LA→O R) (b:Int) (d:Bool) (c:LA) (k1:Nat→Int→LA→O R) (q2:Nat→Int→LA→O R) (g:Nat) (p:Int) (r:LA):O R :=
 (An .i64 (c.drop 12) fun s=>(cond (decide (p≤s)) (cond ((Nat.ble (g+1) 140737488355328)&&(Nat.ble ((g+1)*16) 140737488355328)) (k1 (g+1) (wrap .i64 (p+1)) ((r.take (g*2))++[(.int .i64 1),(.int .i64 p)])) none) (q2 g 1 r)))
def Nx (r0:Nat→LA→O R) (b:Int) (d:Bool) (c:LA):Nat→Nat→Int→LA→O R
 | 0,_,_,_=>none
 | n+1,g,p,r=>(Vp N r0 b d c (Nx r0 b d c n) (fun f o q=>(Nw N r0 b N f o q)) g p r)
def Vq (N:Nat) (r0:Nat→LA→O R) (l b:Int) (d:Bool) (c:LA) (k0:Nat→Int→LA→O R) (q1:Nat→Int→LA→O R) (e:Nat) (i:Int) (m:LA):O R :=
 (cond (decide (i≤l)) (cond ((Nat.ble (e+1) 140737488355328)&&(Nat.ble ((e+1)*16) 140737488355328)) (k0 (e+1) (wrap .i64 (i+1)) ((m.take (e*2))++[(.int .i64 0),(.int .i64 i)])) none) (q1 e 1 m))
def Ka (r0:Nat→LA→O R) (l b:Int) (d:Bool) (c:LA):Nat→Nat→Int→LA→O R
 | 0,_,_,_=>none
 | n+1,e,i,m=>(Vq N r0 l b d c (Ka r0 l b d c n) (fun g p r=>(Nx N r0 b d c N g p r)) e i m)
def ML (r0:Nat→LA→O R) (q0:Int→Int→Nat→Int→LA→O R) (c:LA) (d:Bool):O R :=
 (cond (Nat.ble 22 (c.length)) (HU N (c.take 22) d (fun l b=>(cond (Nat.ble 22 (c.length)) (Kz N (c.take 22) d (fun t=>(cond (!t) (r0 0 []) (q0 l b 0 1 [])))) none))) none)
def Xo:=(Af (fun (N:Nat) (c:LA) (d:Bool) (r0:Nat→LA→O R)=>(ML N r0 (fun l b e i m=>(Ka N r0 l b d c N e i m)) c d))).1
theorem fq (c d r0):(@Xo R N c d r0)=(ML N r0 (fun l b e i m=>(Ka N r0 l b d c N e i m)) c d):=by rw[Xo,(Af _).2]
def ln:Hints:={ H:=(hS hL (hS hL (hS hL (hS hL (hS (hS hL (hS (hP [1,3,4,5,6] hL) hL)) (hS (hS hL (hS (hP [1,3,5,7] hL) hL)) (hS (hS hL (hS (hP [3,5,8] hL) hL)) hL))))))),nils:=[(2,2),(3,2)],modes:=[(2,2)] }
def sG:Ef:=[(165,fg N),(52,Qd N)]
def NS (F:KF R):=Ja Tryz.f199 ln (sG N) [] N F
def Gb (F:KF R):Nat→LA→O R:=(fun u v=>F (.own 300000 0 u) (hq [(bQ 2 v)]))
def Anu (b:Int) (f:Nat) (o:Int) (q:LA):St:=⟨[(3,(.own 300000 0 f)),(5,(iv b)),(8,(iv o))],(hq [(bQ 2 q)])⟩
def Anv (F:KF R):=NS N F [1,1,1,1,1,1,0,1,0] []
def Anw (b:Int) (d:Bool) (c:LA) (g:Nat) (p:Int) (r:LA):St:=⟨[(1,(op 0)),(3,(.own 300001 0 g)),(5,(iv b)),(7,(iv p))],(hq [(bP d 0 c),(bQ 2 r)])⟩
def Anx (F:KF R):=NS N F [1,1,1,1,1,0,1,0] []
def Any (l b:Int) (d:Bool) (c:LA) (e:Nat) (i:Int) (m:LA):St:=⟨[(1,(op 0)),(3,(.own 300001 0 e)),(4,(iv l)),(5,(iv b)),(6,(iv i))],(hq [(bP d 0 c),(bQ 2 m)])⟩
def Anz (F:KF R):=NS N F [1,1,1,1,0,1,0] []
theorem RU (F:KF R) (b:Int):∀ (n f:Nat) (o:Int) (q:LA),Ap (Anv N F) n (Anu b f o q)=(Nw N (Gb F) b n f o q)
 | 0,_,_,_=>by kernel_rfl
 | n+1,f,o,q=>Eq.trans (by kernel_rfl) (Bn (Vo N (Gb F) b · f o q) (funext fun f=>funext fun o=>funext fun q=>(RU F b n f o q)):_)
theorem RV (F:KF R) (b:Int) (d:Bool) (c:LA):∀ (n g:Nat) (p:Int) (r:LA),Ap (Anx N F) n (Anw b d c g p r)=(Nx N (Gb F) b d c n g p r)
 | 0,_,_,_=>by kernel_rfl
 | n+1,g,p,r=>Eq.trans (by kernel_rfl) (cR (Vp N (Gb F) b d c · · g p r) (funext fun g=>funext fun p=>funext fun r=>(RV F b d c n g p r)) (funext fun f=>funext fun o=>funext fun q=>(Aj ..).trans (RU N F b N f o q)):_)
theorem RW (F:KF R) (l b:Int) (d:Bool) (c:LA):∀ (n e:Nat) (i:Int) (m:LA),Ap (Anz N F) n (Any l b d c e i m)=(Ka N (Gb F) l b d c n e i m)
 | 0,_,_,_=>by kernel_rfl
 | n+1,e,i,m=>Eq.trans (by kernel_rfl) (cR (Vq N (Gb F) l b d c · · e i m) (funext fun e=>funext fun i=>funext fun m=>(RW F l b d c n e i m)) (funext fun g=>funext fun p=>funext fun r=>(Aj ..).trans (RV N F b d c N g p r)):_)
theorem lp (c:LA) (d:Bool) (F:KF R):Cm (sG N) ln N 199 [(.pagg c d)] [] F=(Xo N c d (Gb F)):=by
 rw[fq]
 exact Eq.trans (by kernel_rfl) (Bn (ML N (Gb F) · c d) (funext fun l=>funext fun b=>funext fun e=>funext fun i=>funext fun m=>(Aj ..).trans (RW N F l b d c N e i m)):_)
def ft (a:LA) (h:Am) (k:KF R):O R :=
 match a,h with
 | [(.pagg c d)],[]=>(Xo N c d (Gb k))
 | _,_=>none
theorem lq:Ao N 199 @ft:=by
 intro R Q a h k j;unfold ft;split;exact Ay (lp ..) (lp ..) ⟨fh N,Qe N,trivial⟩;exact A0
def An0:=Az (lq N)
def An1:=Cj (lq N)
def Qo (N:Nat) (r0:Int→O R) (f:Nat) (c:Bool) (b e:LA) (k0:Int→O R) (d:Int):O R :=
 (cond (decide (d<((f:Nat):Int))) (cond (Ac d f) (cond (Nat.ble 2 ((e.drop (0+((d.toNat)*2))).length)) (cond (Nat.ble 2 (b.length)) (cond ((!c)||(Ba (b.take 2))) (cond ((Nat.ble 1 2)&&((Nat.beq (((e.drop (0+((d.toNat)*2))).take 2).length) 2)&&((Nat.beq ((b.take 2).length) 2)&&(true&&(!false))))) (An .i64 ((e.drop (0+((d.toNat)*2))).take 2) fun l=>(An .i64 (b.take 2) fun m=>(An .i64 (((e.drop (0+((d.toNat)*2))).take 2).drop 1) fun o=>(An .i64 ((b.take 2).drop 1) fun p=>(cond ((l==m)&&((o==p)&&true)) (r0 d) (k0 (wrap .i64 (d+1)))))))) none) none) none) none) none) (r0 (-1)))
def G1 (r0:Int→O R) (f:Nat) (c:Bool) (b e:LA):Nat→Int→O R
 | 0,_=>none
 | n+1,d=>(Qo N r0 f c b e (G1 r0 f c b e n) d)
def Yt (r0:Int→O R) (q0:Nat→LA→Int→O R) (g:LA) (i:Bool) (b:LA) (c:Bool):O R :=
 (cond (Nat.ble 22 (g.length)) (Xo N (g.take 22) i (fun f e=>(q0 f e 0))) none)
def Vr:=(Af (fun (N:Nat) (g:LA) (i:Bool) (b:LA) (c:Bool) (r0:Int→O R)=>(Yt N r0 (fun f e d=>(G1 N r0 f c b e N d)) g i b c))).1
theorem RX (g i b c r0):(@Vr R N g i b c r0)=(Yt N r0 (fun f e d=>(G1 N r0 f c b e N d)) g i b c):=by rw[Vr,(Af _).2]
def aU:Hints:={ H:=(hS hL (hS hL (hS (hS hL (hS (hP [3,5,6] hL) hL)) hL))) }
def fu:Ef:=[(199,An0 N)]
def Abd (F:KF R):=Ja Tryz.f193 aU (fu N) [] N F
def Nj (F:KF R):Int→O R:=(fun q=>F (iv q) [])
def Abe (f:Nat) (c:Bool) (b e:LA) (d:Int):St:=⟨[(3,(op 0)),(5,(.own 300001 0 f)),(6,(iv d))],(hq [(bP c 0 b),(bQ 2 e)])⟩
def Abf (F:KF R):=Abd N F [1,1,0,1,0] []
theorem HV (F:KF R) (f:Nat) (c:Bool) (b e:LA):∀ (n:Nat) (d:Int),Ap (Abf N F) n (Abe f c b e d)=(G1 N (Nj F) f c b e n d)
 | 0,_=>by kernel_rfl
 | n+1,d=>Eq.trans (by kernel_rfl) (Bn (Qo N (Nj F) f c b e · d) (funext fun d=>(HV F f c b e n d)):_)
theorem aV (g:LA) (i:Bool) (b:LA) (c:Bool) (F:KF R):Cm (fu N) aU N 193 [(.pagg g i),(.pagg b c)] [] F=(Vr N g i b c (Nj F)):=by
 rw[RX]
 exact Eq.trans (by kernel_rfl) (Bn (Yt N (Nj F) · g i b c) (funext fun f=>funext fun e=>funext fun d=>(Aj ..).trans (HV N F f c b e N d)):_)
def RY (a:LA) (h:Am) (k:KF R):O R :=
 match a,h with
 | [(.pagg g i),(.pagg b c)],[]=>(Vr N g i b c (Nj k))
 | _,_=>none
theorem aW:Ao N 193 @RY:=by
 intro R Q a h k j;unfold RY;split;exact Ay (aV ..) (aV ..) ⟨An1 N,trivial⟩;exact A0
def Abg:=Az (aW N)
def Abh:=Cj (aW N)
def Avl (c:LA) (d:Bool) (b:LA) (e:Bool) (r0:Bool→O R):O R :=
 (cond (Nat.ble 22 (c.length)) (cond (Nat.ble 2 (b.length)) (cond ((!e)||(Ba (b.take 2))) (Vr N (c.take 22) d (b.take 2) false (fun f=>(r0 (decide (f≥0))))) none) none) none)
def Ake:=(Af (@Avl R)).1
theorem Akf:@Ake R=@Avl R:=(Af _).2
def Bbq:Ef:=[(193,Abg N)]
def Aq8 (F:KF R):Bool→O R:=(fun g=>F (.bool g) [])
theorem Aq9 (c:LA) (d:Bool) (b:LA) (e:Bool) (F:KF R):Cm (Bbq N) Dr N 166 [(.pagg c d),(.pagg b e)] [] F=(Ake N c d b e (Aq8 F)):=by
 rw[Akf]
 kernel_rfl
def Akg (a:LA) (h:Am) (k:KF R):O R :=
 match a,h with
 | [(.pagg c d),(.pagg b e)],[]=>(Ake N c d b e (Aq8 k))
 | _,_=>none
theorem Ara:Ao N 166 @Akg:=by
 intro R Q a h k j;unfold Akg;split;exact Ay (Aq9 ..) (Aq9 ..) ⟨Abh N,trivial⟩;exact A0
def A9j:=Az (Ara N)
def A9k:=Cj (Ara N)
def vI (c:LA) (d:Bool) (b:LA) (e:Bool) (r0:Nat→LA→O R):O R :=
 (cond (Nat.ble 22 (c.length)) (cond (Nat.ble 2 (b.length)) (cond ((!e)||(Ba (b.take 2))) (Ake N (c.take 22) d (b.take 2) false (fun n=>(cond (!n) (r0 0 []) (cond (Nat.ble 22 (c.length)) (HU N (c.take 22) d (fun f i=>(An .i64 b fun l=>(cond (l==0) (An .i64 (b.drop 1) fun g=>(An .i64 (b.drop 1) fun o=>(An .i64 (c.drop 11) fun p=>(cond (decide (o<p)) (r0 1 [(.int .i64 0),(.int .i64 (Bv (wrap .i64 (g+1)) f))]) (An .i64 (c.drop 12) fun q=>(cond (decide (q>0)) (r0 2 [(.int .i64 0),(.int .i64 (Bv (wrap .i64 (g+1)) f)),(.int .i64 1),(.int .i64 1)]) (r0 2 [(.int .i64 0),(.int .i64 (Bv (wrap .i64 (g+1)) f)),(.int .i64 2),(.int .i64 1)]))))))) (cond (l==1) (An .i64 (b.drop 1) fun r=>(An .i64 (c.drop 12) fun s=>(cond (decide (r<s)) (An .i64 (b.drop 1) fun t=>(r0 1 [(.int .i64 1),(.int .i64 (wrap .i64 (t+1)))])) (r0 1 [(.int .i64 2),(.int .i64 1)])))) (An .i64 (b.drop 1) fun m=>(An .i64 (b.drop 1) fun u=>(An .i64 (c.drop 10) fun v=>(cond (decide (u≥v)) (r0 2 [(.int .i64 0),(.int .i64 1),(.int .i64 2),(.int .i64 (Bv (wrap .i64 (m+1)) i))]) (r0 1 [(.int .i64 2),(.int .i64 (Bv (wrap .i64 (m+1)) i))])))))))))) none)))) none) none) none)
def RZ:=(Af (@vI R)).1
theorem sH:@RZ R=@vI R:=(Af _).2
def Azm:Hints:={ H:=hL,nils:=[(4,2)],modes:=[(2,2)] }
def A4b:Ef:=[(166,A9j N),(165,fg N)]
def zB (F:KF R):Nat→LA→O R:=(fun w x=>F (.own 300000 0 w) (hq [(bQ 2 x)]))
theorem zC (c:LA) (d:Bool) (b:LA) (e:Bool) (F:KF R):Cm (A4b N) Azm N 114 [(.pagg c d),(.pagg b e)] [] F=(RZ N c d b e (zB F)):=by
 rw[sH]
 kernel_rfl
def sI (a:LA) (h:Am) (k:KF R):O R :=
 match a,h with
 | [(.pagg c d),(.pagg b e)],[]=>(RZ N c d b e (zB k))
 | _,_=>none
theorem zD:Ao N 114 @sI:=by
 intro R Q a h k j;unfold sI;split;exact Ay (zC ..) (zC ..) ⟨A9k N,fh N,trivial⟩;exact A0
def zE:=Az (zD N)
def zF:=Cj (zD N)
def WK (c:LA) (d:Bool) (e b:Int) (r0:Bool→O R):O R :=
 (cond ((b==0)==false) (cond ((b==1)==false) (cond ((cond false true (b==2))==true) (Co 1 (c.drop 18) fun f g=>(mv N f g false d e (fun i=>(r0 (cond false true (cond true (!i) false)))))) (r0 false)) (Co 1 (c.drop 18) fun l m=>(mv N l m false d e (fun n=>(r0 (cond false true (cond true (!n) false))))))) (r0 true))
def T9:=(Af (@WK R)).1
theorem aX:@T9 R=@WK R:=(Af _).2
def An2:Ef:=[(45,A7q N)]
def fv (F:KF R):Bool→O R:=(fun o=>F (.bool o) [])
theorem fw (c:LA) (d:Bool) (e b:Int) (F:KF R):Cm (An2 N) Dr N 115 [(.pagg c d),(iv e),(iv b)] [] F=(T9 N c d e b (fv F)):=by
 rw[aX]
 kernel_rfl
def aY (a:LA) (h:Am) (k:KF R):O R :=
 match a,h with
 | [(.pagg c d),(.int .i64 e),(.int .i64 b)],[]=>(T9 N c d e b (fv k))
 | _,_=>none
theorem fx:Ao N 115 @aY:=by
 intro R Q a h k j;unfold aY;split;exact Ay (fw ..) (fw ..) ⟨A7r N,trivial⟩;exact A0
def fy:=Az (fx N)
def gA:=Cj (fx N)
def DQ (r0:LA→Bool→O R) (f c:Int) (i:Nat) (d:Bool) (b g:LA) (k0:Int→O R) (e:Int):O R :=
 (cond (decide (e<((i:Nat):Int))) (cond (Ac e i) (An .i64 (g.drop (0+((e.toNat)*2))) fun o=>(cond ((o==c)==true) (cond (Nat.ble 22 (b.length)) (T9 N (b.take 22) d f c (fun p=>(cond (cond true p false) (cond (Ac e i) (cond (Nat.ble 2 ((g.drop (0+((e.toNat)*2))).length)) (cond ((Nat.beq (((g.drop (0+((e.toNat)*2))).take 2).length) 2)&&((Nat.ble 2 2)&&(!false))) (cond (Nat.ble 2 ((setCells [(.int .i64 0),(.int .i64 0)] 0 ((g.drop (0+((e.toNat)*2))).take 2)).length)) (r0 ((setCells [(.int .i64 0),(.int .i64 0)] 0 ((g.drop (0+((e.toNat)*2))).take 2)).take 2) true) none) none) none) none) (k0 (wrap .i64 (e+1)))))) none) (k0 (wrap .i64 (e+1))))) none) (r0 [(.int .i64 0),(.int .i64 0)] false))
def Po (r0:LA→Bool→O R) (f c:Int) (i:Nat) (d:Bool) (b g:LA):Nat→Int→O R
 | 0,_=>none
 | n+1,e=>(DQ N r0 f c i d b g (Po r0 f c i d b g n) e)
def iS (r0:LA→Bool→O R) (q0:Nat→LA→Int→O R) (b:LA) (d:Bool) (f:Int) (l:LA) (m:Bool) (c:Int):O R :=
 (cond (Nat.ble 22 (b.length)) (cond (Nat.ble 2 (l.length)) (cond ((!m)||(Ba (l.take 2))) (RZ N (b.take 22) d (l.take 2) false (fun i g=>(q0 i g 0))) none) none) none)
def R_:=(Af (fun (N:Nat) (b:LA) (d:Bool) (f:Int) (l:LA) (m:Bool) (c:Int) (r0:LA→Bool→O R)=>(iS N r0 (fun i g e=>(Po N r0 f c i d b g N e)) b d f l m c))).1
theorem sJ (b d f l m c r0):(@R_ R N b d f l m c r0)=(iS N r0 (fun i g e=>(Po N r0 f c i d b g N e)) b d f l m c):=by rw[R_,(Af _).2]
def zG:Hints:={ H:=(hS hL (hS hL (hS (hS hL (hS (hP [1,3,4,8,10,11] hL) hL)) hL))),modes:=[(3,0),(0,0)] }
def Akh:Ef:=[(114,zE N),(115,fy N)]
def Azn (F:KF R):=Ja Tryz.f121 zG (Akh N) [] N F
def Z0 (F:KF R):LA→Bool→O R:=(fun q r=>F (.tup [(.pagg q false),(.bool r)]) [])
def Azo (f c:Int) (i:Nat) (d:Bool) (b g:LA) (e:Int):St:=⟨[(1,(iv f)),(3,(iv c)),(4,(op 0)),(8,(op 1)),(10,(.own 300002 0 i)),(11,(iv e))],(hq [(bP d 0 b),(bQ 0 [(iv 0),(iv 0)]),(bQ 2 g)])⟩
def Azp (F:KF R):=Azn N F [1,1,0,1,0] []
theorem gB (F:KF R) (f c:Int) (i:Nat) (d:Bool) (b g:LA):∀ (n:Nat) (e:Int),Ap (Azp N F) n (Azo f c i d b g e)=(Po N (Z0 F) f c i d b g n e)
 | 0,_=>by kernel_rfl
 | n+1,e=>Eq.trans (by kernel_rfl) (Bn (DQ N (Z0 F) f c i d b g · e) (funext fun e=>(gB F f c i d b g n e)):_)
theorem zH (b:LA) (d:Bool) (f:Int) (l:LA) (m:Bool) (c:Int) (F:KF R):Cm (Akh N) zG N 121 [(.pagg b d),(iv f),(.pagg l m),(iv c)] [] F=(R_ N b d f l m c (Z0 F)):=by
 rw[sJ]
 exact Eq.trans (by kernel_rfl) (Bn (iS N (Z0 F) · b d f l m c) (funext fun i=>funext fun g=>funext fun e=>(Aj ..).trans (gB N F f c i d b g N e)):_)
def sK (a:LA) (h:Am) (k:KF R):O R :=
 match a,h with
 | [(.pagg b d),(.int .i64 f),(.pagg l m),(.int .i64 c)],[]=>(R_ N b d f l m c (Z0 k))
 | _,_=>none
theorem zI:Ao N 121 @sK:=by
 intro R Q a h k j;unfold sK;split;exact Ay (zH ..) (zH ..) ⟨zF N,gA N,trivial⟩;exact A0
def Azq:=Az (zI N)
def Azr:=Cj (zI N)
end
end Gx

namespace Gx
open Go Go.Proofs
section
variable {R:Type}
structure StD where
 k:Int
 h:Int
def StD.av (s:StD):LA:=[.int .i64 s.k,.int .i64 s.h]
def Kb (u:UnitD):Int:=Iq (Iq u.downTime (u.hotHours+1)) 1
def HW (u:UnitD):Int:=Iq u.upTime 1
def Ii (u:UnitD) (s:StD):List StD :=
 cond (s.k==0) (⟨0,Bv (s.h+1) (Kb u)⟩::cond (decide (s.h<u.downTime)) [] (cond (decide (u.startTime>0)) [⟨1,1⟩] [⟨2,1⟩]))
  (cond (s.k==1) (cond (decide (s.h<u.startTime)) [⟨1,s.h+1⟩] [⟨2,1⟩]) (cond (decide (s.h≥u.upTime)) [⟨0,1⟩,⟨2,Bv (s.h+1) (HW u)⟩] [⟨2,Bv (s.h+1) (HW u)⟩]))
def Vs (u:UnitD) (s:StD):Prop:=1≤s.h∧((s.k=0∧s.h≤Kb u)∨(s.k=1∧s.h≤u.startTime)∨(s.k=2∧s.h≤HW u))
theorem Jq (a b:Int):Bv a b=min a b:=by unfold Bv;by_cases h:b<a<;>simp[h]<;>omega
theorem Sn (a b:Int):Iq a b=max a b:=by unfold Iq;by_cases h:b>a<;>simp[h]<;>omega
theorem Qp {u:UnitD} (h:Cw u=true):(0≤u.upTime∧u.upTime≤24)∧(0≤u.downTime∧u.downTime≤24)∧(0≤u.startTime∧u.startTime≤24)∧(0≤u.hotHours∧u.hotHours≤24)∧(u.state=0∨u.state=1∨u.state=2)∧(1≤u.hours∧u.hours≤48)∧(u.state=1→u.hours≤u.startTime):=by
 simp[Cw,Fq] at h;omega
theorem WL {u:UnitD} (h:Cw u=true):1≤Kb u∧Kb u≤25∧1≤HW u∧HW u≤24:=by
 have:=Qp h
 simp only[Kb,HW,Sn];omega
theorem vJ {u:UnitD} {s:StD} (h:Cw u=true) (hs:Vs u s):1≤s.h∧s.h≤25∧(s.k=0∨s.k=1∨s.k=2):=by
 have:=Qp h;have:=WL h;unfold Vs at hs;omega
theorem sL {u:UnitD} {s:StD} (h:Cw u=true) (hs:Vs u s):∀ t ∈ Ii u s,Vs u t:=by
 intro t k
 have I:=Qp h;have L:=WL h;have F:=vJ h hs
 have G:HW u=max u.upTime 1:=by rw[HW,Sn]
 unfold Vs at hs ⊢
 unfold Ii at k
 rcases F.2.2 with D | D | D<;>simp only[D,Jq] at k hs
 ·by_cases C:s.h<u.downTime<;>by_cases hq:u.startTime>0<;>simp[C,hq] at k<;>first | (subst k;simp;omega) | (rcases k with rfl | rfl<;>simp<;>omega)
 ·by_cases C:s.h<u.startTime<;>simp[C] at k<;>(subst k;simp;omega)
 ·by_cases C:u.upTime≤s.h<;>simp[C] at k<;>first | (subst k;simp;omega) | (rcases k with rfl | rfl<;>simp<;>omega)
theorem iT {u:UnitD} {s:StD}:(Ii u s).length≤2:=by
 unfold Ii
 cases (s.k==0)<;>cases (s.k==1)<;>cases decide (s.h<u.downTime)<;>cases decide (u.startTime>0)<;>cases decide (s.h<u.startTime)<;>cases decide (s.h≥u.upTime)<;>simp
theorem lw {s:StD} {f:Int→O R}:An .i64 s.av f=f s.k:=A4
theorem WM {s:StD} {f:Int→O R}:An .i64 (List.drop 1 s.av) f=f s.h:=A4
theorem oX (s:StD):Nat.ble 2 (List.length s.av)=true:=rfl
theorem Awf (s:StD):List.take 2 s.av=s.av:=rfl
theorem A51 (s t:StD):setCells s.av 0 t.av=t.av:=rfl
theorem Bda (t:StD):setCells [(.int .i64 0),(.int .i64 0)] 0 t.av=t.av:=rfl
theorem WN {N:Nat} {u:UnitD} {o:Bool} {K:Int→Int→O R} (hN:64≤N) (hs:Cw u=true):LD N u.av o K=K (Kb u) (HW u):=by
 rw[eP];unfold qf
 have k:=Qp hs
 rw[Du,ct,B7,Ns hN,hs,show(!true)=false from rfl,cf,Be0,Bgb,Bf0,i64 (by omega)];rfl
theorem NT {N:Nat} {u:UnitD} {o:Bool} {K:Int→Int→O R} (hs:Cw u=true):HU N u.av o K=K (Kb u) (HW u):=by
 rw[sE];unfold vH
 have k:=Qp hs
 rw[Du,ct,B7,K3,hs,show(!true)=false from rfl,cf,Be0,Bgb,Bf0,i64 (by omega)];rfl
def Cz (u:UnitD):StD:=⟨u.state,cond (u.state==0) (Bv u.hours (Kb u)) (cond (u.state==2) (Bv u.hours (HW u)) u.hours)⟩
theorem EO {u:UnitD} (h:Cw u=true):Vs u (Cz u):=by
 have C:=Qp h;have D:=WL h
 unfold Vs Cz
 rcases C.2.2.2.2.1 with k | k | k<;>simp only[k,Jq]<;>simp<;>omega
theorem aZ {N:Nat} {u:UnitD} {o:Bool} {K:LA→O R} (hN:64≤N) (hs:Cw u=true):Te N u.av o K=K (Cz u).av:=by
 rw[GW];unfold LE
 rw[Du,ct,B7,Ns hN,hs,show(!true)=false from rfl,cf,ct,WN hN hs,A93,Bg3]
 unfold Cz
 cases (u.state==0)<;>cases (u.state==2)<;>rfl
theorem SA {N:Nat} {u:UnitD} {o:Bool} {K:LA→O R} (hs:Cw u=true):T8 N u.av o K=K (Cz u).av:=by
 rw[aS];unfold WJ
 rw[Du,ct,B7,K3,hs,show(!true)=false from rfl,cf,ct,NT hs,A93]
 have C:=Qp hs
 simp only[Bg3]
 unfold Cz
 rcases C.2.2.2.2.1 with k | k | k<;>rw[k]<;>rfl
theorem vK {N:Nat} {u:UnitD} {s:StD} {o o':Bool} (hN:64≤N) (hs:Cw u=true) (C:Vs u s):∃ p:Int,0≤p∧∀ K:Int→O R,Ln N u.av o s.av o' K=K p:=by
 have I:=Qp hs;have L:=WL hs;have F:=vJ hs C
 have key:∀ K:Int→O R,Ln N u.av o s.av o' K=K (cond (s.k==0) (s.h - 1) (cond (s.k==1) (Kb u+s.h - 1) (Kb u+u.startTime+s.h - 1))):=by
  intro K
  rw[AL];unfold U5
  rw[Du,ct,B7,Ns hN,hs,show((!true)==false)=true from rfl,ct,WM,show decide (s.h<1)=false by simp;omega,Bga,cf]
  unfold O3 Se
  rw[Du,ct,B7,WN hN hs,lw]
  unfold GY AK GX
  simp only[lw,WM,Bd8]
  unfold Vs at C
  have e1:IntKind.wrap .i64 (s.h - 1)=s.h - 1:=i64 (by omega)
  have G:IntKind.wrap .i64 (IntKind.wrap .i64 (Kb u+s.h) - 1)=Kb u+s.h - 1:=by rw[i64 (a:=Kb u+s.h) (by omega),i64 (by omega)]
  have e3:IntKind.wrap .i64 (IntKind.wrap .i64 (IntKind.wrap .i64 (Kb u+u.startTime)+s.h) - 1)=Kb u+u.startTime+s.h - 1:=by rw[i64 (a:=Kb u+u.startTime) (by omega),i64 (a:=Kb u+u.startTime+s.h) (by omega),i64 (by omega)]
  rw[e1,G,e3]
  rcases F.2.2 with D | D | D<;>rw[D] at C ⊢
  ·rw[show decide (s.h≤Kb u)=true by simp;omega];rfl
  ·rw[show decide (s.h≤u.startTime)=true by simp;omega];rfl
  ·rw[show decide (s.h≤HW u)=true by simp;omega];rfl
 refine⟨_,?_,key⟩
 cases (s.k==0)<;>cases (s.k==1)<;>simp<;>omega
theorem sM {N:Nat} {u:UnitD} {s:StD} {o:Bool} {K:LA→Nat→O R} (hN:64≤N) (hs:Cw u=true) (C:Vs u s):U6 N u.av o s.av false K=K ((Ii u s).flatMap StD.av) (Ii u s).length:=by
 have I:=Qp hs;have L:=WL hs;have G:=vJ hs C
 obtain⟨p,M,e⟩:=vK (R:=R) (o:=o) (o':=false) hN hs C
 rw[eY];unfold eX
 rw[Du,ct,oX,ct,show((!false)||Ba (List.take 2 s.av))=true from rfl,ct,B7,Awf,e,show decide (p<0)=false by simp;omega,cf,ct,WN hN hs]
 simp only[lw,WM,Bf0,Be0,Bd8]
 unfold VA
 simp only[WM,Be0]
 rw[i64 (a:=s.h+1) (by omega)]
 unfold Ii
 rcases G.2.2 with D | D | D<;>rw[D]
 ·by_cases k:s.h<u.downTime
  ·simp[k,show ¬ u.downTime≤s.h by omega,StD.av]
  ·by_cases F:u.startTime>0
   ·simp[k,show u.downTime≤s.h by omega,F,StD.av]
   ·simp[k,show u.downTime≤s.h by omega,F,StD.av]
 ·by_cases k:s.h<u.startTime<;>simp[k,StD.av]
 ·by_cases k:s.h≥u.upTime<;>simp[k,StD.av]
end
end Gx

namespace Gx
open Go Go.Proofs
section
variable {R:Type}
theorem Bdb (s:List StD):(s.flatMap StD.av).length=s.length*2:=by
 induction s with
 | nil=>rfl
 | cons a r k=>rw[List.flatMap_cons,List.length_append,k];simp[StD.av];omega
theorem Bdc (s:List StD):List.take (s.length*2) (s.flatMap StD.av)=s.flatMap StD.av:=by rw[←Bdb,List.take_length]
theorem SB (s:List StD) (t:StD):List.take (s.length*2) (s.flatMap StD.av)++t.av=(s++[t]).flatMap StD.av:=by rw[Bdc];simp
theorem A52 {l:List StD} {j:Nat} (h:j<l.length):List.drop ((Int.toNat (j:Int))*2) (l.flatMap StD.av)=l[j].av++(l.drop (j+1)).flatMap StD.av:=by
 rw[Int.toNat_natCast,Bl (e:=StD.av) (sz:=2) (fun _=>rfl) _ _ h]
theorem vL {l:List StD} {j:Nat} (h:j<l.length):List.drop (0+((Int.toNat (j:Int))*2)) (l.flatMap StD.av)=l[j].av++(l.drop (j+1)).flatMap StD.av:=by rw[Nat.zero_add,A52 h]
theorem WO (s:StD) (r:LA):Nat.ble 2 (List.length (s.av++r))=true:=rfl
theorem WP (s:StD) (r:LA):List.take 2 (s.av++r)=s.av:=rfl
theorem Bbr {s:StD} {r:LA} {f:Int→O R}:An .i64 (s.av++r) f=f s.k:=A4
theorem sN (c:Bool) (s:StD):((!c)||Ba s.av)=true:=by cases c<;>rfl
theorem A4c (s t:StD):((Nat.ble 1 2)&&((Nat.beq (List.length s.av) 2)&&((Nat.beq (List.length t.av) 2)&&(true&&(!false)))))=true:=rfl
theorem A53 (s t:StD):((s.k==t.k)&&((s.h==t.h)&&true))=true↔s=t:=by
 cases s;cases t;simp
def Z1 (k:Int):Int→Nat→List StD
 | _,0=>[]
 | i,m+1=>⟨k,i+1⟩::Z1 k (i+1) m
theorem Acb {k h:Int}:∀ {m:Nat} {i:Int},i+1≤h→h≤i+m→(⟨k,h⟩:StD) ∈ Z1 k i m
 | 0,i,C,D=>by omega
 | m+1,i,C,D=>by
  rw[Z1]
  by_cases e:h=i+1
  ·subst e;exact List.mem_cons_self ..
  ·exact List.mem_cons_of_mem _ (Acb (by omega) (by omega))
theorem A54 {k:Int}:∀ {m:Nat} {i:Int},(Z1 k i m).length=m
 | 0,_=>rfl
 | m+1,_=>by rw[Z1,List.length_cons,A54]
theorem Arb {N:Nat} {K:Nat→LA→O R} {a:Int} (k:a≤1000):∀ (m fuel:Nat) (i:Int) (l:List StD),i+m=a→0≤i→m<fuel→l.length+m≤10000 →
  Nw N K a fuel l.length (i+1) (l.flatMap StD.av)=K (l++Z1 2 i m).length ((l++Z1 2 i m).flatMap StD.av)
 | 0,fuel+1,i,l,hi,C,_,D=>by
  rw[Nw];unfold Vo
  rw[show decide (i+1≤a)=false by simp;omega,cf,Z1,List.append_nil]
 | m+1,fuel+1,i,l,hi,C,F,D=>by
  rw[Nw];unfold Vo
  rw[show decide (i+1≤a)=true by simp;omega,ct,A8x (by omega),ct,i64 (by omega),show [(AV.int .i64 2),(.int .i64 (i+1))]=(StD.mk 2 (i+1)).av from rfl,SB]
  have:=Arb (N:=N) (K:=K) k m fuel (i+1) (l++[⟨2,i+1⟩]) (by omega) (by omega) (by omega) (by simp;omega)
  rw[List.length_append] at this
  simp only[List.length_cons,List.length_nil,Nat.zero_add] at this
  rw[this,Z1,List.append_assoc];rfl
theorem Arc {N:Nat} {K:Nat→LA→O R} {u:UnitD} {c:Bool} {a:Int} {m2:Nat} (C:a=m2) (D:m2≤1000) (hN:1100≤N) (k:u.startTime≤1000):∀ (m fuel:Nat) (i:Int) (l:List StD),i+m=u.startTime→0≤i→m<fuel→l.length+m≤8000 →
  Nx N K a c u.av fuel l.length (i+1) (l.flatMap StD.av)=K (l++Z1 1 i m++Z1 2 0 m2).length ((l++Z1 1 i m++Z1 2 0 m2).flatMap StD.av)
 | 0,fuel+1,i,l,hi,F,_,G=>by
  rw[Nx];unfold Vp
  rw[Bd8,show decide (i+1≤u.startTime)=false by simp;omega,cf,Z1,List.append_nil]
  exact Arb (by omega) m2 N 0 l (by omega) (by omega) (by omega) (by omega)
 | m+1,fuel+1,i,l,hi,F,I,G=>by
  rw[Nx];unfold Vp
  rw[Bd8,show decide (i+1≤u.startTime)=true by simp;omega,ct,A8x (by omega),ct,i64 (by omega),show [(AV.int .i64 1),(.int .i64 (i+1))]=(StD.mk 1 (i+1)).av from rfl,SB]
  have:=Arc (N:=N) (K:=K) (c:=c) C D hN k m fuel (i+1) (l++[⟨1,i+1⟩]) (by omega) (by omega) (by omega) (by simp;omega)
  rw[List.length_append] at this
  simp only[List.length_cons,List.length_nil,Nat.zero_add] at this
  rw[this,Z1];simp only[List.append_assoc,List.cons_append,List.nil_append]
theorem Ard {N:Nat} {K:Nat→LA→O R} {u:UnitD} {c:Bool} {a p:Int} {m1 m2:Nat} (C:a=m2) (D:m2≤1000) (F:u.startTime=m1) (k:m1≤1000) (hN:1100≤N) (G:p≤1000):∀ (m fuel:Nat) (i:Int) (l:List StD),i+m=p→0≤i→m<fuel→l.length+m≤6000 →
  Ka N K p a c u.av fuel l.length (i+1) (l.flatMap StD.av)=K (l++Z1 0 i m++Z1 1 0 m1++Z1 2 0 m2).length ((l++Z1 0 i m++Z1 1 0 m1++Z1 2 0 m2).flatMap StD.av)
 | 0,fuel+1,i,l,hi,I,_,L=>by
  rw[Ka];unfold Vq
  rw[show decide (i+1≤p)=false by simp;omega,cf,Z1,List.append_nil]
  exact Arc C D hN (by omega) m1 N 0 l (by omega) (by omega) (by omega) (by omega)
 | m+1,fuel+1,i,l,hi,I,M,L=>by
  rw[Ka];unfold Vq
  rw[show decide (i+1≤p)=true by simp;omega,ct,A8x (by omega),ct,i64 (by omega),show [(AV.int .i64 0),(.int .i64 (i+1))]=(StD.mk 0 (i+1)).av from rfl,SB]
  have:=Ard (N:=N) (K:=K) (c:=c) C D F k hN G m fuel (i+1) (l++[⟨0,i+1⟩]) (by omega) (by omega) (by omega) (by simp;omega)
  rw[List.length_append] at this
  simp only[List.length_cons,List.length_nil,Nat.zero_add] at this
  rw[this,Z1];simp only[List.append_assoc,List.cons_append,List.nil_append]
def Avm (u:UnitD):List StD:=Z1 0 0 (Kb u).toNat++Z1 1 0 u.startTime.toNat++Z1 2 0 (HW u).toNat
theorem Abi {N:Nat} {u:UnitD} {o:Bool} {K:Nat→LA→O R} (hN:1100≤N) (hs:Cw u=true):Xo N u.av o K=K (Avm u).length ((Avm u).flatMap StD.av):=by
 have k:=Qp hs;have C:=WL hs
 rw[fq];unfold ML
 rw[Du,ct,B7,NT hs,ct,K3,hs,show(!true)=false from rfl,cf]
 have:=Ard (N:=N) (K:=K) (u:=u) (c:=o) (a:=HW u) (p:=Kb u) (m1:=u.startTime.toNat) (m2:=(HW u).toNat) (by omega) (by omega) (by omega) (by omega) hN (by omega) (Kb u).toNat N 0 [] (by omega) (by omega) (by omega) (by simp;omega)
 simpa[Avm] using this
theorem Bbs {u:UnitD} {s:StD} (hs:Cw u=true) (h:Vs u s):s ∈ Avm u:=by
 have D:=Qp hs;have F:=WL hs
 obtain⟨k,h'⟩:=s
 unfold Vs at h;simp only at h
 unfold Avm
 rcases h with⟨G,⟨rfl,C⟩ | ⟨rfl,C⟩ | ⟨rfl,C⟩⟩
 ·exact List.mem_append_left _ (List.mem_append_left _ (Acb (by omega) (by omega)))
 ·exact List.mem_append_left _ (List.mem_append_right _ (Acb (by omega) (by omega)))
 ·exact List.mem_append_right _ (Acb (by omega) (by omega))
theorem Azs {N:Nat} {L:List StD} {s:StD} {c:Bool} (hL:L.length≤10000):∀ (m j fuel:Nat),j+m=L.length→m<fuel→s ∈ L.drop j→∃ p:Int,0≤p∧∀ K:Int→O R,G1 N K L.length c s.av (L.flatMap StD.av) fuel (j:Int)=K p
 | 0,j,fuel+1,F,_,C=>by rw[Es (by omega)] at C;simp at C
 | m+1,j,fuel+1,F,S,C=>by
  have h:j<L.length:=by omega
  by_cases e:L[j]=s
  ·refine⟨j,by omega,fun K=>?_⟩
   rw[G1];unfold Qo
   simp only[Jy h,ct,Aa h,vL h,WO,WP,oX,Awf,sN,A4c,lw,WM]
   rw[(A53 _ _).2 e,ct]
  ·rw[Ci h] at C
   have D:s ∈ L.drop (j+1):=by
    rcases List.mem_cons.1 C with rfl | C
    ·exact absurd rfl e
    ·exact C
   obtain⟨p,G,I⟩:=Azs hL m (j+1) fuel (by omega) (by omega) D
   refine⟨p,G,fun K=>?_⟩
   rw[G1];unfold Qo
   simp only[Jy h,ct,Aa h,vL h,WO,WP,oX,Awf,sN,A4c,lw,WM]
   have:((L[j].k==s.k)&&((L[j].h==s.h)&&true))=false:=by
    cases M:((L[j].k==s.k)&&((L[j].h==s.h)&&true)) with
    | false=>rfl
    | true=>exact absurd ((A53 _ _).1 M) e
   rw[this,cf,wS (by omega),I]
theorem Azt {N:Nat} {u:UnitD} {s:StD} {o d:Bool} {K:Bool→O R} (hN:1100≤N) (hs:Cw u=true) (k:Vs u s):Ake N u.av o s.av d K=K true:=by
 have C:=Qp hs;have D:=WL hs
 rw[Akf];unfold Avl
 rw[Du,ct,oX,ct,Awf,sN,ct,B7,RX];unfold Yt
 rw[Du,ct,B7,Abi hN hs]
 have F:(Avm u).length≤100:=by unfold Avm;simp[A54];omega
 obtain⟨p,G,e⟩:=Azs (R:=R) (N:=N) (L:=Avm u) (s:=s) (c:=false) (by omega) (Avm u).length 0 N (by omega) (by omega) (by rw[List.drop_zero];exact Bbs hs k)
 have e':=e fun f=>K (decide (f≥0))
 rw[show((0:Nat):Int)=0 from rfl] at e'
 dsimp only
 rw[e',show decide (p≥0)=true by simp;omega]
theorem mA {N:Nat} {u:UnitD} {s:StD} {o d:Bool} {K:Nat→LA→O R} (hN:1100≤N) (hs:Cw u=true) (C:Vs u s):RZ N u.av o s.av d K=K (Ii u s).length ((Ii u s).flatMap StD.av):=by
 have I:=Qp hs;have L:=WL hs;have G:=vJ hs C
 rw[sH];unfold vI
 rw[Du,ct,oX,ct,Awf,sN,ct,B7,Azt hN hs C,show(!true)=false from rfl,cf,ct,NT hs]
 simp only[lw,WM,Bf0,Be0,Bd8]
 rw[i64 (a:=s.h+1) (by omega)]
 unfold Ii
 rcases G.2.2 with D | D | D<;>rw[D]
 ·by_cases k:s.h<u.downTime
  ·simp[k,StD.av]
  ·by_cases F:u.startTime>0
   ·simp[k,F,StD.av]
   ·simp[k,F,StD.av]
 ·by_cases k:s.h<u.startTime<;>simp[k,StD.av]
 ·by_cases k:s.h≥u.upTime<;>simp[k,StD.av]
end
end Gx

namespace Gx
open Go Go.Proofs
section
variable {R:Type}
def nk (u:UnitD) (h kind:Int):Bool:=kind==0||!(decide (h ∈ u.away.l))
def a6 (l:List StD) (v:Int):Option StD:=l.find? fun s=>s.k==v
def Wl (u:UnitD) (h:Int) (s:StD) (kind:Int):Option StD:=cond (nk u h kind) (a6 (Ii u s) kind) none
def Dz (u:UnitD):Int→StD→List Int→List StD×Bool
 | _,_,[]=>([],true)
 | h,s,k::r=>match Wl u h s k with
  | none=>([],false)
  | some t=>(t::(Dz u (h+1) t r).1,(Dz u (h+1) t r).2)
theorem A9l {l:List StD} {v:Int} {t:StD} (h:a6 l v=some t):t ∈ l∧t.k=v:=by
 unfold a6 at h
 exact⟨List.mem_of_find?_eq_some h,by simpa using List.find?_some h⟩
theorem Azu {u:UnitD} {h kind:Int} {s t:StD} (k:nk u h kind=true) (C:a6 (Ii u s) kind=some t):Wl u h s kind=some t:=by unfold Wl;rw[k,C];rfl
theorem sO {u:UnitD} {h kind:Int} {s t:StD} (hs:Cw u=true) (C:Vs u s) (e:Wl u h s kind=some t):Vs u t∧t.k=kind∧t ∈ Ii u s∧nk u h kind=true:=by
 unfold Wl at e
 cases D:nk u h kind with
 | false=>rw[D] at e;cases e
 | true =>
  rw[D] at e
  have:=A9l (l:=Ii u s) e
  exact⟨sL hs C t this.1,this.2,this.1,rfl⟩
theorem Bdd {N:Nat} {s:StD} {v:Int} {o:Bool} {K:Bool→O R}:L7 N s.av o v K=K (s.k==v):=by
 rw[G_];rfl
theorem Azv {N:Nat} {X:O R} {K:Int→O R} {L:List StD} {a b:Bool} {v:Int} (hL:L.length≤1000):∀ (m j fuel:Nat),j+m=L.length→m<fuel→(a6 (L.drop j) v=none→K (-1)=X)→(∀ i (h:i<L.length),a6 (L.drop j) v=some L[i]→K (i:Int)=X) →
  Ax N K (L.flatMap StD.av) L.length a b v fuel (L.length:Int) (j:Int)=X
 | 0,j,fuel+1,G,_,C,_=>by
  rw[Ax];unfold Bf
  rw[Lm (by omega),cf]
  exact C (by rw[Es (by omega)];rfl)
 | m+1,j,fuel+1,G,I,C,D=>by
  rw[Ax];unfold Bf
  have h:j<L.length:=by omega
  rw[Jy h,ct,Aa h,ct,A52 h,WO,ct,WP,sN,ct,Bdd]
  rw[Ci h] at C D
  unfold a6 at C D
  simp only[List.find?_cons] at C D
  cases F:(L[j].k==v) with
  | true=>rw[F] at D;rw[ct];exact D j h rfl
  | false =>
   rw[F] at C D
   rw[cf,wS (by omega)]
   exact Azv hL m (j+1) fuel (by omega) (by omega) C D
theorem Bfh {N:Nat} {X:O R} {K:Int→O R} {L:List StD} {a b:Bool} {v:Int} (hL:L.length≤10) (hN:64≤N) (k:a6 L v=none→K (-1)=X) (C:∀ i (h:i<L.length),a6 L v=some L[i]→K (i:Int)=X) :
  Aq N (L.flatMap StD.av) L.length a b v K=X:=by
 rw[Bg];unfold Bk
 exact Azv (by omega) L.length 0 N (by omega) (by omega) k C
theorem vM {N:Nat} {X:O R} {K:LA→O R} {l:List Int} {a:Bool} (D:l.length≤1000000):∀ (m j fuel:Nat) (d:List Int),j+m=l.length→m<fuel→(∀ e:List Int,(∀ x,x ∈ e↔x ∈ d∨x ∈ l.drop j)→K (Av e)=X) →
  Td N K (Av l) l.length a fuel (l.length:Int) (j:Int) (Av d)=X
 | 0,j,fuel+1,d,F,_,k=>by
  rw[Td];unfold LC
  rw[Lm (by omega),cf]
  exact k d (by intro x;rw[Es (by omega)];simp)
 | m+1,j,fuel+1,d,F,L,k=>by
  rw[Td];unfold LC
  have h:j<l.length:=by omega
  rw[Jy h,ct,Aa h,ct,D8 h,wS (by omega)]
  rw[Ci h] at k
  unfold A07
  cases G:oK (Av d) l[j] with
  | true =>
   have I:l[j] ∈ d:=(OI d _).1 G
   refine vM D m (j+1) fuel d (by omega) (by omega) fun e C=>k e fun x=>?_
   rw[C x,List.mem_cons]
   constructor
   ·rintro(h | h)
    ·exact .inl h
    ·exact .inr (.inr h)
   ·rintro(h | h | h)
    ·exact .inl h
    ·exact .inl (h▸I)
    ·exact .inr h
  | false =>
   rw[show cond false (Av d) (Av d++[.int .i64 l[j]])=Av (d++[l[j]]) by simp[Av]]
   refine vM D m (j+1) fuel (d++[l[j]]) (by omega) (by omega) fun e C=>k e fun x=>?_
   rw[C x,List.mem_cons,List.mem_append,List.mem_singleton,or_assoc]
theorem Bde {N:Nat} {X:O R} {K:LA→O R} {u:UnitD} {a:Bool} (C:u.away.l.length≤1000) (hN:1100≤N) (h:∀ e:List Int,(∀ x,x ∈ e↔x ∈ u.away.l)→K (Av e)=X):U_ N u.av a K=X:=by
 rw[eO];unfold qe
 rw[Bd9]
 exact vM (by omega) u.away.l.length 0 N [] (by omega) (by omega) fun e k=>h e fun x=>by rw[k x];simp
theorem Bfi (e:List Int) (n:Int):oK (Av e) n=decide (n ∈ e):=by
 rw[Bool.eq_iff_iff,decide_eq_true_eq];exact OI e n
theorem Bek (s t:StD):((Nat.beq (List.length s.av) 2)&&((Nat.ble 2 (List.length t.av))&&(!false)))=true:=rfl
theorem Bel (s:StD):((Nat.beq (List.length s.av) 2)&&(Nat.ble 2 2))=true:=rfl
theorem Azw (s:StD):((Nat.beq (List.length s.av) 2)&&((Nat.ble 2 2)&&(!false)))=true:=rfl
theorem Avn {N:Nat} {X:O R} {K:Nat→Int→Int→LA→O R} {u:UnitD} {ks:List Int} {i j o:Bool} {e:List Int} (hN:1100≤N) (hs:Cw u=true) (hk:ks.length≤1000) (he:∀ x,x ∈ e↔x ∈ u.away.l):∀ (m h fuel:Nat) (s:StD) (l:List StD),h+m=ks.length→m<fuel→l.length=h→Vs u s →
  ((Dz u h s (ks.drop h)).2=true→K ks.length ks.length 0 ((l++(Dz u h s (ks.drop h)).1).flatMap StD.av)=X)→((Dz u h s (ks.drop h)).2=false→K 0 ((l++(Dz u h s (ks.drop h)).1).length:Nat) 16 []=X) →
  O4 N K (Av ks) ks.length i j o u.av (Av e) fuel l.length (ks.length:Int) (h:Int) (l.flatMap StD.av) s.av=X:=by
 intro m
 induction m with
 | zero =>
  intro h fuel s l hh hf T G M _
  obtain⟨fuel,rfl⟩:∃ k,fuel=k+1:=⟨fuel - 1,by omega⟩
  rw[O4];unfold LF
  rw[Lm (by omega),cf,show l.length=ks.length by omega]
  rw[Es (by omega)] at M
  simpa[Dz] using M rfl
 | succ m ih =>
  intro h fuel s l hh hf T G M I
  obtain⟨fuel,rfl⟩:∃ k,fuel=k+1:=⟨fuel - 1,by omega⟩
  rw[O4];unfold LF
  have F:h<ks.length:=by omega
  rw[Jy F,ct,Aa F,ct,D8 F,Du,ct,oX,ct,B7,Awf,sM (by omega) hs G,Bfi]
  rw[Ci F,Dz] at M I
  have hd:decide ((h:Int) ∈ e)=decide ((h:Int) ∈ u.away.l):=by rw[decide_eq_decide];exact he _
  rw[hd]
  refine Bfh (Nat.le_trans iT (by omega)) (by omega) (fun L=>?_) (fun p V D=>?_)
  ·rw[show(decide ((-1:Int)<0)==false)=false from rfl,cf]
   have C:Wl u h s ks[h]=none:=by unfold Wl;rw[L];cases nk u h ks[h]<;>rfl
   rw[C] at I
   simpa[T] using I rfl
  ·rw[show(decide ((p:Int)<0)==false)=true by simp,ct]
   have go:Wl u h s ks[h]=some (Ii u s)[p]→(cond (Ac (p:Int) (Ii u s).length) (cond (Nat.ble 2 (List.length (List.drop ((Int.toNat (p:Int))*2) ((Ii u s).flatMap StD.av)))) (cond ((Nat.beq (List.length (List.take 2 (List.drop ((Int.toNat (p:Int))*2) ((Ii u s).flatMap StD.av)))) 2)&&((Nat.ble 2 (List.length s.av))&&(!false))) (cond (Nat.ble 2 (List.length (setCells s.av 0 (List.take 2 (List.drop ((Int.toNat (p:Int))*2) ((Ii u s).flatMap StD.av)))))) (cond ((Nat.beq (List.length (List.take 2 (setCells s.av 0 (List.take 2 (List.drop ((Int.toNat (p:Int))*2) ((Ii u s).flatMap StD.av)))))) 2)&&(Nat.ble 2 2)) (cond ((Nat.ble (l.length+1) 140737488355328)&&(Nat.ble ((l.length+1)*16) 140737488355328)) (O4 N K (Av ks) ks.length i j o u.av (Av e) fuel (l.length+1) (ks.length:Int) (IntKind.wrap .i64 ((h:Int)+(1:Int))) ((List.take (l.length*2) (l.flatMap StD.av))++(List.take 2 (setCells [(.int .i64 0),(.int .i64 0)] 0 (List.take 2 (setCells s.av 0 (List.take 2 (List.drop ((Int.toNat (p:Int))*2) ((Ii u s).flatMap StD.av)))))))) (setCells s.av 0 (List.take 2 (List.drop ((Int.toNat (p:Int))*2) ((Ii u s).flatMap StD.av))))) none) none) none) none) none) none)=X:=by
    intro C
    rw[Aa V,ct,A52 V,WO,ct,WP,Bek,ct,A51,oX,ct,Awf,Bel,ct,A8x (by omega),ct,Bda,Awf,SB,wS (by omega)]
    rw[C] at M I
    have:=ih (h+1) fuel (Ii u s)[p] (l++[(Ii u s)[p]]) (by omega) (by omega) (by simp;omega) (sO hs G C).1
     (fun U=>by have:=M U;simpa using this) (fun U=>by have:=I U;simpa using this)
    simpa using this
   by_cases S:ks[h]=0
   ·rw[show((ks[h] != 0)==true)=false by simp[S],cf]
    exact go (Azu (by unfold nk;simp[S]) D)
   ·rw[show((ks[h] != 0)==true)=true by simp[S],ct]
    cases Y:decide ((h:Int) ∈ u.away.l) with
    | true =>
     have C:Wl u h s ks[h]=none:=by unfold Wl nk;rw[Y,show(ks[h]==0)=false by simpa using S];rfl
     rw[C] at I
     simpa[T] using I rfl
    | false =>
     rw[show(cond false true (cond true false false))=false from rfl,cf]
     exact go (Azu (by unfold nk;rw[Y];simp) D)
theorem Aki {N:Nat} {X:O R} {K:Nat→Int→Int→LA→O R} {u:UnitD} {ks:List Int} {n:Nat} {i j o:Bool} (hN:1100≤N) (hs:Cw u=true) (k:u.away.l.length≤1000) (C:ks.length≤1000) (hn:n=ks.length)
  (D:(Dz u 0 (Cz u) ks).2=true→K ks.length ks.length 0 ((Dz u 0 (Cz u) ks).1.flatMap StD.av)=X) (F:(Dz u 0 (Cz u) ks).2=false→K 0 ((Dz u 0 (Cz u) ks).1.length:Nat) 16 []=X) :
  DC N u.av o (Av ks) n i j K=X:=by
 subst hn
 rw[ee];unfold e_
 rw[Du,ct,B7,Ns (by omega),hs,show(!true)=false from rfl,cf,ct]
 refine Bde k hN fun e G=>?_
 rw[show((decide ((0:Int)≤(0:Int)))&&((decide ((0:Int)≤((ks.length:Nat):Int)))&&((decide (((ks.length:Nat):Int)≤(140737488355328:Int)))&&(decide ((((ks.length:Nat):Int)*((16:Nat):Int))≤(140737488355328:Int))))))=true by simp;omega,ct,ct,aZ (by omega) hs,Azw,ct,Bda]
 exact Avn hN hs C G ks.length 0 N (Cz u) [] (by omega) (by omega) rfl (EO hs) (by simpa using D) (by simpa using F)
end
end Gx

namespace Gx
open Go Go.Proofs
section
variable {R:Type}
def Bbt (x:RatD):Bool:=decide (x.ns.l.length≤4)&&decide (x.ds.l.length≤4)
def A9m (l:List RatD):Bool:=decide (l.length≤30)&&l.all Bbt
theorem HX {l:List RatD} {j:Nat} (h:j<l.length):List.drop ((Int.toNat (j:Int))*3) (l.flatMap RatD.av)=l[j].av++(l.drop (j+1)).flatMap RatD.av:=by
 rw[Int.toNat_natCast,Bl (e:=RatD.av) (sz:=3) (fun _=>rfl) _ _ h]
theorem Bgm {x:RatD} {r:LA} {f:LA→Nat→O R}:Co 1 (List.drop 1 (x.av++r)) f=f (Ae x.ns.l) x.ns.l.length:=by
 rw[show List.drop 1 (x.av++r)=x.ns.av::x.ds.av::r from rfl,Aiu]
theorem Bgn {x:RatD} {r:LA} {f:LA→Nat→O R}:Co 1 (List.drop 2 (x.av++r)) f=f (Ae x.ds.l) x.ds.l.length:=by
 rw[show List.drop 2 (x.av++r)=x.ds.av::r from rfl,Aiu]
theorem Azx {N:Nat} {l:List RatD} {d e:Bool} {K:Bool→O R} (D:l.length≤1000):∀ (m j fuel:Nat),j+m=l.length→m<fuel →
  Xf N K (l.flatMap RatD.av) l.length d e fuel (j:Int)=K ((l.drop j).all Bbt)
 | 0,j,fuel+1,F,_=>by
  rw[Xf];unfold VJ
  rw[Lm (by omega),cf,Es (by omega),List.all_nil]
 | m+1,j,fuel+1,F,G=>by
  rw[Xf];unfold VJ
  have h:j<l.length:=by omega
  rw[Jy h,ct,Aa h,ct,HX h,Bgm,ct,Bgn,wS (by omega),Azx D m (j+1) fuel (by omega) (by omega),Ci h,List.all_cons]
  generalize (List.drop (j+1) l).all Bbt=t
  unfold Bbt
  by_cases k:l[j].ns.l.length≤4
  ·rw[show(decide ((l[j].ns.l.length:Int)>4)==false)=true by simp;omega,ct,decide_eq_true k]
   by_cases C:l[j].ds.l.length≤4
   ·rw[show decide ((l[j].ds.l.length:Int)>4)=false by simp;omega,Bga,cf,decide_eq_true C];cases t<;>rfl
   ·rw[show decide ((l[j].ds.l.length:Int)>4)=true by simp;omega,decide_eq_false C];cases t<;>rfl
  ·rw[show(decide ((l[j].ns.l.length:Int)>4)==false)=false by simp;omega,cf,decide_eq_false k];rfl
theorem Azy {N:Nat} {l:List RatD} {n:Nat} {d e:Bool} {K:Bool→O R} (hn:n=l.length) (hN:1000≤N):nY N (l.flatMap RatD.av) n d e K=K (A9m l):=by
 subst hn
 rw[Aij];unfold Ab8 A9m
 by_cases h:l.length≤30
 ·rw[show decide ((l.length:Int)>30)=false by simp;omega,cf,decide_eq_true h,Bool.true_and]
  have:=Azx (N:=N) (l:=l) (d:=d) (e:=e) (K:=K) (by omega) l.length 0 N (by omega) (by omega)
  rw[List.drop_zero] at this;exact this
 ·rw[show decide ((l.length:Int)>30)=true by simp;omega,ct,decide_eq_false h];rfl
end
end Gx
