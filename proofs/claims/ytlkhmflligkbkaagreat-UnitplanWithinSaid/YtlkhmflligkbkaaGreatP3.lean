/- A part of the proof: what it holds is said by each theorem. -/
import Derived.Test.YtlkhmflligkbkaaGreatP2
set_option linter.unusedVariables false
set_option linter.defProp false
set_option linter.unusedSimpArgs false
namespace Gx
open Go Go.Proofs
section
variable {R:Type}
theorem Agf (z:Int) (d:Nat) (D:d≠0):(mkRat z d).num.natAbs=z.natAbs/Nat.gcd z.natAbs d∧((mkRat z d).num<0↔z<0)∧(mkRat z d).den=d/Nat.gcd z.natAbs d:=by
 have G:0<Nat.gcd z.natAbs d:=Nat.gcd_pos_of_pos_right _ (by omega)
 rw[Rat.num_mkRat,Rat.den_mkRat,if_neg D,if_neg D,Nat.gcd_comm d]
 have k:((Nat.gcd z.natAbs d:Nat):Int)∣z:=Int.dvd_natAbs.1 (Int.natCast_dvd_natCast.2 (Nat.gcd_dvd_left _ _))
 obtain⟨c,F⟩:=k
 have I:z.natAbs.gcd d=Nat.gcd z.natAbs d:=rfl
 generalize Nat.gcd z.natAbs d=g at *
 refine⟨?_,?_,rfl⟩
 ·rw[F,Int.mul_ediv_cancel_left _ (by omega),Int.natAbs_mul,Int.natAbs_natCast,Nat.mul_div_cancel_left _ G]
 ·rw[F,Int.mul_ediv_cancel_left _ (by omega)]
  constructor
  ·intro h;exact Int.mul_neg_of_pos_of_neg (by omega) h
  ·intro h;rcases Int.lt_or_le c 0 with C | C
   ·exact C
   ·have:=Int.mul_nonneg (show(0:Int)≤g by omega) C;omega
structure RatD where
 neg:Bool
 ns:LS
 ds:LS
def RatD.av (x:RatD):LA:=[.bool x.neg,x.ns.av,x.ds.av]
def RatD.ok (x:RatD):Prop:=Al x.ns.l∧Al x.ds.l
def RatD.m (x:RatD):Nat:=max x.ns.l.length x.ds.l.length
def RatD.q (x:RatD):Rat:=mkRat (A2 x.neg x.ns) (val x.ds.l)
def RatD.can (x:RatD) (q:Rat):Prop:=x.neg=decide (q.num<0)∧x.ns.l=Ar q.num.natAbs∧x.ds.l=Ar q.den
def qm (q:Rat):Nat:=max (Ar q.num.natAbs).length (Ar q.den).length
theorem RatD.can.ok {x:RatD} {q:Rat} (h:x.can q):x.ok:=⟨by rw[h.2.1];exact Ad _,by rw[h.2.2];exact Ad _⟩
theorem RatD.can.m {x:RatD} {q:Rat} (h:x.can q):x.m=qm q:=by unfold RatD.m qm;rw[h.2.1,h.2.2]
theorem RatD.can.q {x:RatD} {q:Rat} (h:x.can q):x.q=q:=by
 unfold RatD.q A2
 rw[h.1,h.2.1,h.2.2,Ak,Ak]
 have:(if decide (q.num<0)=true then -(q.num.natAbs:Int) else (q.num.natAbs:Int))=q.num:=by
  by_cases k:q.num<0
  ·rw[if_pos (by simpa using k)];omega
  ·rw[if_neg (by simpa using k)];omega
 rw[this,Rat.mkRat_self]
theorem Bcg {x:RatD} {f:Bool→O R}:NC x.av f=f x.neg:=Bbm
theorem A8b {x:RatD} {f:LA→Nat→O R}:Co 1 (List.drop 1 x.av) f=f (Ae x.ns.l) x.ns.l.length:=by rw[RatD.av,List.drop_succ_cons,List.drop_zero,A0n]
theorem Agg {x:RatD} {f:LA→Nat→O R}:Co 1 (List.drop 2 x.av) f=f (Ae x.ds.l) x.ds.l.length:=by rw[RatD.av,List.drop_succ_cons,List.drop_succ_cons,List.drop_zero,A0n]
theorem Kw (x:RatD):Nat.ble 3 (List.length x.av)=true:=rfl
theorem Eh (x:RatD):List.take 3 x.av=x.av:=rfl
theorem Bbn (x:RatD):List.take 2 x.av=Kv x.neg x.ns:=rfl
theorem Bdr (x:RatD):Nat.beq (List.length x.av) 3=true:=rfl
theorem jz (n:Bool) (s:LS):((Nat.beq 0 0)&&((Nat.beq (List.length (Kv n s)) 2)&&(Nat.beq 2 2)))=true:=rfl
theorem mH (n:Bool) (s:LS):Nat.ble 2 (List.length (Kv n s))=true:=rfl
theorem Akl (n:Bool) (s:LS):List.take 2 (Kv n s)=Kv n s:=rfl
theorem A8c:([.int .u32 1]:LA)=Ae [1]:=rfl
theorem A59:Al [1]:=by intro x k;simp at k;omega
theorem CN:Ar 1=[1]:=by rw[SD (by omega)];simp[Eb]
theorem Et {v:Nat} {S:List Nat} (k:Al S) (C:val S=v):List.take ((Ar v).length*1) (Ae S)=Ae (Ar v):=by rw[←C,M9 k]
theorem A6a (neg:Bool) (l:List Nat) (t o:Bool):([.bool neg,.imm (Ae l) l.length 1 t o]:LA)=Kv neg (.of l t o):=rfl
theorem Jz {z:Int} {t o:Bool}:A2 (decide (z<0)) (.of (Ar z.natAbs) t o)=z:=by
 unfold A2 LS.l;rw[Ak]
 by_cases h:z<0
 ·rw[if_pos (by simpa using h)];omega
 ·rw[if_neg (by simpa using h)];omega
theorem Ako {N:Nat} {v:Int} (k:-9223372036854775808≤v∧v≤9223372036854775807) (hN:4≤N):∃ d:RatD,d.can (v:Rat)∧∀ K:LA→O R,Cr N v K=K d.av:=by
 obtain⟨S,s1,s2,C⟩:=Akm (R:=R) (N:=N) k hN
 refine⟨⟨decide (v<0),.of (Ar v.natAbs) false false,.of (Ar 1) false false⟩,⟨rfl,rfl,rfl⟩,fun K=>?_⟩
 rw[bR];unfold bO
 rw[C,Et s1 s2,CN];rfl
theorem Oo {N:Nat} {x:RatD} {o:Bool} (C:x.ok) (G:fit x.m N):∃ (neg:Bool) (s:LS) (l:List Nat) (o1 o2:Bool),Al s.l∧Al l∧val l≠0∧s.l.length≤x.m∧l.length≤max x.m 1∧mkRat (A2 neg s) (val l)=x.q∧∀ K:LA→Bool→LA→Nat→Bool→O R,Mn N x.av o K=K (Kv neg s) o1 (Ae l) l.length o2:=by
 have D:x.ns.l.length≤x.m:=Nat.le_max_left _ _
 have k:x.ds.l.length≤x.m:=Nat.le_max_right _ _
 by_cases F:val x.ds.l=0
 ·refine⟨false,.nil,[1],false,false,Wf,A59,by decide,by simp[LS.l],by simp;omega,?_,fun K=>?_⟩
  ·unfold RatD.q;rw[F];simp[A2,LS.l,val]
  ·rw[SO];unfold fi
   rw[Agg,Af8 rfl C.2 (G.le k),F,DK];rfl
 ·refine⟨x.neg,x.ns,x.ds.l,o,o,C.1,C.2,F,D,by omega,rfl,fun K=>?_⟩
  have:H9 (val x.ds.l) 0=1:=by unfold H9;rw[if_neg (by omega),if_pos (by omega)]
  rw[SO];unfold fi
  rw[Agg,Af8 rfl C.2 (G.le k),this,show((1:Int)==0)=false by rfl,cf,show Nat.ble 2 (List.length x.av)=true by rfl,ct,Agg,Bbn,jz,ct,mH,ct,Akl]
theorem Bds (z:Int) (d:Nat) (C:d≠0):(mkRat z d).num.sign=z.sign:=by
 obtain⟨F,D,_⟩:=Agf z d C
 rcases Int.lt_trichotomy z 0 with h | h | h
 ·rw[Int.sign_eq_neg_one_of_neg h,Int.sign_eq_neg_one_of_neg (D.2 h)]
 ·subst h;simp
 ·have hn:¬ (mkRat z d).num<0:=fun k=>by have:=D.1 k;omega
  have G:(mkRat z d).num≠0:=fun k=>by
   have:mkRat z d=0:=Rat.num_eq_zero.1 k
   rw[Rat.mkRat_eq_zero C] at this;omega
  rw[Int.sign_eq_one_of_pos h,Int.sign_eq_one_of_pos (by omega)]
theorem Lr {N:Nat} {x:RatD} {o:Bool} {K:Int→O R} (C:x.ok) (k:fit x.m N):Rs N x.av o K=K x.q.num.sign:=by
 obtain⟨neg,s,l,o1,o2,p1,p2,D,F,L,G,I⟩:=Oo (R:=R) (o:=o) C k
 rw[ve];unfold Acz
 rw[Kw,ct,Eh,I,jz,ct,mH,ct,Akl,mG p1 (k.le F),←G,Bds _ _ D]
theorem Jn {N:Nat} {x:RatD} {o:Bool} (C:x.ok) (D:fit x.m N):(∃ (n:Int) (d:Nat),-2147483648<n∧n<2147483648∧0<d∧d<2147483648∧mkRat n d=x.q∧∀ K:Int→Int→Bool→O R,G0 N x.av o K=K n (d:Int) true)∨(∀ K:Int→Int→Bool→O R,G0 N x.av o K=K 0 0 false):=by
 have F:x.ns.l.length≤x.m:=Nat.le_max_left _ _
 have k:x.ds.l.length≤x.m:=Nat.le_max_right _ _
 by_cases S:val x.ns.l<2147483648
 ·by_cases M:val x.ds.l<2147483648
  ·left
   have e:∀ K:Int→Int→Bool→O R,G0 N x.av o K=F6 N K (val x.ns.l:Int) (val x.ds.l:Int) o x.av false:=by
    intro K
    rw[CB];unfold DF
    rw[A8b,Om rfl C.1 (D.le F),if_pos (by omega),Agg,Om rfl C.2 (D.le k),if_pos (by omega)]
    rw[show((!true)==false)=true by rfl,ct,show((cond false true (!true))==false)=true by rfl,ct,show decide (((val x.ns.l:Nat):Int)≥2147483648)=false by rw[decide_eq_false_iff_not];omega,show((cond false true false)==false)=true by rfl,ct,show decide (((val x.ds.l:Nat):Int)≥2147483648)=false by rw[decide_eq_false_iff_not];omega]
    rfl
   by_cases I:val x.ds.l=0
   ·refine⟨0,1,by omega,by omega,by omega,by omega,by unfold RatD.q;rw[I];simp,fun K=>?_⟩
    rw[e];unfold F6
    rw[cf,Be3 I,ct];rfl
   ·have hn:=Cz x.neg x.ns
    refine⟨A2 x.neg x.ns,val x.ds.l,by omega,by omega,by omega,M,rfl,fun K=>?_⟩
    rw[e];unfold F6
    rw[cf,Akk I,cf,Bcg,i64 (a:=((val x.ns.l:Nat):Int)) (by omega),i64 (a:=((val x.ds.l:Nat):Int)) (by omega)]
    unfold A2
    cases x.neg
    ·rfl
    ·rw[ct,i64 (by omega),Int.zero_sub];rfl
  ·right
   intro K
   rw[CB];unfold DF
   rw[A8b,Om rfl C.1 (D.le F),if_pos (by omega),Agg,Om rfl C.2 (D.le k),show((!true)==false)=true by rfl]
   by_cases G:val x.ds.l<18446744073709551616
   ·rw[if_pos G,ct,show((cond false true (!true))==false)=true by rfl,ct,show decide (((val x.ns.l:Nat):Int)≥2147483648)=false by rw[decide_eq_false_iff_not];omega,show((cond false true false)==false)=true by rfl,ct,show decide (((val x.ds.l:Nat):Int)≥2147483648)=true by rw[decide_eq_true_eq];omega]
    unfold F6;rfl
   ·rw[if_neg G,ct,show((cond false true (!false))==false)=false by rfl,cf]
    unfold F6;rfl
 ·right
  intro K
  rw[CB];unfold DF
  rw[A8b,Om rfl C.1 (D.le F)]
  by_cases G:val x.ns.l<18446744073709551616
  ·rw[if_pos G,Agg,Om rfl C.2 (D.le k),show((!true)==false)=true by rfl,show decide (((val x.ns.l:Nat):Int)≥2147483648)=true by rw[decide_eq_true_eq];omega]
   by_cases L:val x.ds.l<18446744073709551616
   ·rw[if_pos L,ct,show((cond false true (!true))==false)=true by rfl,ct]
    unfold F6;rfl
   ·rw[if_neg L,ct,show((cond false true (!false))==false)=false by rfl,cf]
    unfold F6;rfl
  ·rw[if_neg G,Agg,Om rfl C.2 (D.le k),show((!false)==false)=false by rfl]
   split<;>(rw[cf];unfold F6;rfl)
theorem An3 {N:Nat} {a b c:Nat} {s:Int} (hN:4≤N) (S:a<18446744073709551616) (hb:b<9223372036854775808) (T:0<c) (U:c∣a):∀ (k fuel x y:Nat),k<fuel→x*y<2 ^ k→y≤x→Nat.gcd x y=c→∃ d:RatD,d.neg=decide (s<0)∧d.ns.l=Ar (a/c)∧d.ds.l=Ar (b/c)∧∀ K:LA→O R,Dc N K s (b:Int) (a:Int) fuel (x:Int) (y:Int)=K d.av:=by
 have base:∀ (fuel:Nat),∃ d:RatD,d.neg=decide (s<0)∧d.ns.l=Ar (a/c)∧d.ds.l=Ar (b/c)∧∀ K:LA→O R,Dc N K s (b:Int) (a:Int) (fuel+1) (c:Int) ((0:Nat):Int)=K d.av:=by
  intro fuel
  have L:a/c<18446744073709551616:=Nat.lt_of_le_of_lt (Nat.div_le_self _ _) S
  have M:b/c<18446744073709551616:=Nat.lt_of_le_of_lt (Nat.div_le_self _ _) (by omega)
  obtain⟨S1,s1,s2,V⟩:=Lq (R:=R) (N:=N) L hN
  obtain⟨S2,t1,t2,t3⟩:=Lq (R:=R) (N:=N) M hN
  refine⟨⟨decide (s<0),.of (Ar (a/c)) false false,.of (Ar (b/c)) false false⟩,rfl,rfl,rfl,fun K=>?_⟩
  rw[Dc];unfold Mq
  rw[show(((0:Nat):Int) != 0)=false by rfl,cf,Akk (by omega),cf,jy,Ja L,V,cf,Ja (show b<18446744073709551616 by omega),jy,Ja M,t3,Et s1 s2,Et t1 t2];rfl
 intro k
 induction k with
 | zero =>
  intro fuel x y Y C G D
  obtain⟨fuel,rfl⟩:∃ F,fuel=F+1:=⟨fuel - 1,by omega⟩
  have hy:y=0:=by
   rcases Nat.eq_zero_or_pos y with h | h
   ·exact h
   ·have h3:=Nat.mul_le_mul_left x (show 1≤y by omega)
    rw[Nat.pow_zero] at C;omega
  subst hy
  rw[Nat.gcd_zero_right] at D;subst D
  exact base fuel
 | succ k ih =>
  intro fuel x y Y C G D
  obtain⟨fuel,rfl⟩:∃ F,fuel=F+1:=⟨fuel - 1,by omega⟩
  rcases Nat.eq_zero_or_pos y with h | h
  ·subst h;rw[Nat.gcd_zero_right] at D;subst D;exact base fuel
  ·have hh:=dq (show 1≤y by omega) G
   have hm:=Nat.mod_lt x h
   have I:Nat.gcd y (x%y)=Nat.gcd x y:=by rw[Nat.gcd_comm,←Nat.gcd_rec,Nat.gcd_comm]
   obtain⟨d,d1,d2,d3,d4⟩:=ih fuel y (x%y) (by omega) (by rw[Nat.pow_succ] at C;omega) (by omega) (by rw[I,D])
   refine⟨d,d1,d2,d3,fun K=>?_⟩
   rw[Dc];unfold Mq
   rw[show((y:Int) != 0)=true by rw[bne_iff_ne];omega,ct,Akk (by omega),cf,d8]
   exact d4 K
theorem MF {N:Nat} {s:Int} {b:Nat} (hs:-9223372036854775808≤s∧s≤9223372036854775807) (G:0<b) (U:b<9223372036854775808) (hN:1000≤N):∃ d:RatD,d.can (mkRat s b)∧∀ K:LA→O R,Iu N s (b:Int) K=K d.av:=by
 obtain⟨m1,m2,m3⟩:=Agf s b (by omega)
 have k:∀ d:RatD,d.neg=decide (s<0)→d.ns.l=Ar (s.natAbs/Nat.gcd s.natAbs b)→d.ds.l=Ar (b/Nat.gcd s.natAbs b)→d.can (mkRat s b):=by
  intro d V Y h3
  exact⟨by rw[V];congr 1;exact propext m2.symm,by rw[Y,m1],by rw[h3,m3]⟩
 have D:s.natAbs<18446744073709551616:=by omega
 have start:∀ K:LA→O R,Iu N s (b:Int) K=Dc N K s (b:Int) (s.natAbs:Int) N (b:Int) (s.natAbs:Int):=by
  intro K
  rw[WB];unfold CC Ug Zs
  dsimp only
  by_cases h:s<0
  ·have e:IntKind.wrap .u64 ((0:Int) - IntKind.wrap .u64 s)=(s.natAbs:Int):=by rw[lE,lE];omega
   rw[decide_eq_true h,ct,e,Ja (by omega)]
  ·have e:IntKind.wrap .u64 s=(s.natAbs:Int):=by rw[lE];omega
   rw[decide_eq_false h,cf,e,Ja (by omega)]
 have C:0<Nat.gcd s.natAbs b:=Nat.gcd_pos_of_pos_right _ G
 by_cases I:s.natAbs≤b
 ·obtain⟨d,L,M,S,T⟩:=An3 (R:=R) (N:=N) (a:=s.natAbs) (b:=b) (c:=Nat.gcd s.natAbs b) (s:=s) (by omega) D U C (Nat.gcd_dvd_left _ _) 128 N b s.natAbs (by omega) (by
   have:=Nat.mul_lt_mul'' (show b<18446744073709551616 by omega) D;exact this) I (Nat.gcd_comm _ _)
  exact⟨d,k d L M S,fun K=>by rw[start,T]⟩
 ·obtain⟨F,hF⟩:∃ F,N=F+1:=⟨N - 1,by omega⟩
  obtain⟨d,L,M,S,T⟩:=An3 (R:=R) (N:=N) (a:=s.natAbs) (b:=b) (c:=Nat.gcd s.natAbs b) (s:=s) (by omega) D U C (Nat.gcd_dvd_left _ _) 128 F s.natAbs (b%s.natAbs) (by omega) (by
   rw[Nat.mod_eq_of_lt (by omega)]
   have:=Nat.mul_lt_mul'' D (show b<18446744073709551616 by omega);exact this) (by rw[Nat.mod_eq_of_lt (by omega)];omega) (by rw[Nat.mod_eq_of_lt (by omega)])
  refine⟨d,k d L M S,fun K=>?_⟩
  rw[start,←T K]
  conv=>lhs;rw[show(Dc N K s (b:Int) (s.natAbs:Int) N)=Dc N K s (b:Int) (s.natAbs:Int) (F+1) by rw[←hF]]
  rw[Dc];unfold Mq
  rw[show(((s.natAbs:Nat):Int) != 0)=true by rw[bne_iff_ne];omega,ct,Akk (by omega),cf,d8]
end
end Gx

namespace Gx
open Go Go.Proofs
section
variable {R:Type}
theorem A98 {S:List Nat} {g:Nat} (D:Al S) (F:val S=g) (C:(Ar g).length=1) {f:Int→O R}:An .u32 (Ae S) f=f (g:Int):=by
 have G:=(Bt D).2
 rw[F,C] at G
 have k:=Au5 D
 rw[F,C] at k
 obtain⟨a,I⟩:∃ a,Ar g=[a]:=by
  match h:Ar g,C with
  | [a],_=>exact⟨a,rfl⟩
 have L:a=g:=by have:=Ak g;rw[I] at this;simpa[val] using this
 rw[I,L] at k
 match S,G,k with
 | x::r,_,k =>
  simp at k;subst k
  rw[DA,Ay]
theorem KC {N:Nat} {neg:Bool} {s:LS} {l:List Nat} {n:Nat} {o t o':Bool} (hn:n=l.length) (hs:Al s.l) (V:Al l) (F:val l≠0) (C:fit (2*(s.l.length+l.length)+8) N) :
  ∃ d:RatD,d.can (mkRat (A2 neg s) (val l))∧∀ K:LA→O R,Pv N (Kv neg s) o (Ae l) n t o' K=K d.av:=by
 obtain⟨m1,m2,m3⟩:=Agf (A2 neg s) (val l) F
 have I:=Cz neg s
 have ls:=(Bt hs).2
 have ll:=(Bt V).2
 generalize hz:A2 neg s=z at *
 have start:∀ K:LA→O R,Pv N (Kv neg s) o (Ae l) n t o' K=cond ((((Ar z.natAbs).length:Nat):Int)==(0:Int)) (K [(.bool false),.nsl,(.imm [(.int .u32 1)] 1 1 false false)]) (cS N (Ae (Ar z.natAbs)) (Ar z.natAbs).length false true (Ae (Ar (val l))) (Ar (val l)).length false true (fun f g=>(cond ((((f:Nat):Int) != (1:Int))==false) (cond (Ac (0:Int) f) (An .u32 g fun y=>(cond (cond false true (y != (1:Int))) (Fj N (Ae (Ar z.natAbs)) (Ar z.natAbs).length false true (List.take (f*1) g) f false true (fun p ae af z2 ag=>(Fj N (Ae (Ar (val l))) (Ar (val l)).length false true (List.take (f*1) g) f false true (fun q ah ai aa aj=>(K [(.bool (decide (z<0))),(.imm (List.take (p*1) z2) p 1 false false),(.imm (List.take (q*1) aa) q 1 false false)]))))) (K [(.bool (decide (z<0))),(.imm (Ae (Ar z.natAbs)) (Ar z.natAbs).length 1 false false),(.imm (Ae (Ar (val l))) (Ar (val l)).length 1 false false)]))) none) (Fj N (Ae (Ar z.natAbs)) (Ar z.natAbs).length false true (List.take (f*1) g) f false true (fun r ak al ab am=>(Fj N (Ae (Ar (val l))) (Ar (val l)).length false true (List.take (f*1) g) f false true (fun s an ao ac ap=>(K [(.bool (decide (z<0))),(.imm (List.take (r*1) ab) r 1 false false),(.imm (List.take (s*1) ac) s 1 false false)])))))))):=by
  intro K
  rw[j3];unfold ln
  have tk:∀ v:Nat,List.take ((Ar v).length*1) (Ae (Ar v))=Ae (Ar v):=fun v=>Et (Ad _) (Ak v)
  rw[Us,Qk,show Nat.beq (List.length (Kv neg s)) 2=true by rfl,ct,A6a,A0o (s1:=.of s.l false o) hs (C.le (by simp[LS.l];omega)),show A2 neg (.of s.l false o)=z by rw[←hz];rfl,gK hn V (C.le (by omega)),tk,tk]
 by_cases Y:z=0
 ·refine⟨⟨false,.nil,.of [1] false false⟩,?_,fun K=>?_⟩
  ·rw[Y];simp only[Rat.zero_mkRat]
   exact⟨rfl,rfl,CN.symm⟩
  ·rw[start,Y];rfl
 ·have L:z.natAbs≠0:=by omega
  have D:(Ar z.natAbs).length≠0:=fun h=>L (Bv.1 h)
  have hg0:0<Nat.gcd z.natAbs (val l):=Nat.gcd_pos_of_pos_right _ (by omega)
  have lz:(Ar z.natAbs).length≤s.l.length:=by rw[I];exact ls
  obtain⟨G,g1,M,g3⟩:=A76 (R:=R) (N:=N) (a:=Ar z.natAbs) (b:=Ar (val l)) (t:=false) (o:=true) (t':=false) (o':=true) rfl rfl (Ad _) (Ad _) (C.le (by omega))
  rw[Ak,Ak] at M g3
  have lg:(Ar (Nat.gcd z.natAbs (val l))).length≤l.length:=Nat.le_trans (B6 (Nat.gcd_le_right _ (by omega))) ll
  obtain⟨Q1,R1,a1,a2,a3,a4,a5⟩:=d_ (R:=R) (N:=N) (a:=Ar z.natAbs) (b:=Ar (Nat.gcd z.natAbs (val l))) (t:=false) (o:=true) (t':=false) (o':=true) rfl rfl (Ad _) (Ad _) (by rw[Ak];omega) (C.le (by omega))
  obtain⟨Q2,R2,b1,S,b3,b4,T⟩:=d_ (R:=R) (N:=N) (a:=Ar (val l)) (b:=Ar (Nat.gcd z.natAbs (val l))) (t:=false) (o:=true) (t':=false) (o':=true) rfl rfl (Ad _) (Ad _) (by rw[Ak];omega) (C.le (by omega))
  rw[Ak,Ak] at a2 a5 S T
  have U:decide (z<0)=decide ((mkRat z (val l)).num<0):=by congr 1;exact propext m2.symm
  refine⟨⟨decide (z<0),.of (Ar (z.natAbs/Nat.gcd z.natAbs (val l))) false false,.of (Ar (val l/Nat.gcd z.natAbs (val l))) false false⟩,⟨U,by rw[m1];rfl,by rw[m3];rfl⟩,fun K=>?_⟩
  rw[start,Akk D,cf,g3,Et g1 M]
  by_cases k:(Ar (Nat.gcd z.natAbs (val l))).length=1
  ·rw[show((((((Ar (Nat.gcd z.natAbs (val l))).length:Nat):Int) != (1:Int))==false))=true by rw[k];rfl,ct,show Ac 0 (Ar (Nat.gcd z.natAbs (val l))).length=true by rw[k];rfl,ct,A98 g1 M k]
   by_cases he:Nat.gcd z.natAbs (val l)=1
   ·rw[he,show(cond false true (((1:Nat):Int) != 1))=false by rfl,cf,Nat.div_one,Nat.div_one];rfl
   ·rw[show(cond false true (((Nat.gcd z.natAbs (val l):Nat):Int) != 1))=true by (show(((Nat.gcd z.natAbs (val l):Nat):Int) != 1)=true;rw[bne_iff_ne];omega),ct,a5,T,Et a1 a2,Et b1 S];rfl
  ·rw[show((((((Ar (Nat.gcd z.natAbs (val l))).length:Nat):Int) != (1:Int))==false))=false by (rw[show((((Ar (Nat.gcd z.natAbs (val l))).length:Nat):Int) != (1:Int))=true by rw[bne_iff_ne];omega];rfl),cf,a5,T,Et a1 a2,Et b1 S];rfl
theorem UA {N:Nat} {x:RatD} {o:Bool} (D:x.ok) (k:fit (4*x.m+10) N):∃ d:RatD,d.can x.q∧∀ K:LA→O R,JF N x.av o K=K d.av:=by
 have M:=k.1
 rcases Jn (R:=R) (N:=N) (o:=o) D (k.le (by omega)) with⟨n,d,n1,n2,F,S,e,hK⟩ | hK
 ·obtain⟨c,c1,C⟩:=MF (R:=R) (N:=N) (s:=n) (b:=d) (by omega) F (by omega) (by omega)
  rw[e] at c1
  refine⟨c,c1,fun K=>?_⟩
  rw[cT];unfold od
  rw[Kw,ct,Eh,hK,ct,C];rfl
 ·obtain⟨neg,s,l,o1,o2,p1,p2,G,T,U,I,L⟩:=Oo (R:=R) (N:=N) (o:=o) D (k.le (by omega))
  obtain⟨c,c1,C⟩:=KC (R:=R) (N:=N) (neg:=neg) (s:=s) (l:=l) (n:=l.length) (o:=o1) (t:=false) (o':=o2) rfl p1 p2 G (k.le (by omega))
  rw[I] at c1
  refine⟨c,c1,fun K=>?_⟩
  rw[cT];unfold od
  rw[Kw,ct,Eh,hK,cf,ct,L,C];rfl
def GE (x y:Rat):Int:=if x<y then -1 else if y<x then 1 else 0
theorem A21 {d:Nat} (h:0<d):(0:Rat)<(d:Rat):=Rat.natCast_pos.2 h
theorem A22 {a c:Int} {b d:Nat} (k:0<b) (C:0<d):mkRat a b<mkRat c d↔a*d<c*b:=by
 rw[Rat.mkRat_eq_div,Rat.mkRat_eq_div,Rat.div_lt_iff (A21 k)]
 have e:(c:Rat)/(d:Rat)*(b:Rat)=(c*b:Rat)/(d:Rat):=by rw[Rat.div_def,Rat.div_def,Rat.mul_assoc,Rat.mul_assoc,Rat.mul_comm (d:Rat)⁻¹]
 rw[e,Rat.lt_div_iff (A21 C)]
 have e1:(a:Rat)*(d:Rat)=((a*d:Int):Rat):=by rw[Rat.intCast_mul];rfl
 have D:(c:Rat)*(b:Rat)=((c*b:Int):Rat):=by rw[Rat.intCast_mul];rfl
 rw[e1,D,Rat.intCast_lt_intCast]
theorem A23 {a c:Int} {b d:Nat} (k:0<b) (C:0<d):GE (mkRat a b) (mkRat c d)=pf (a*d) (c*b):=by
 unfold GE pf
 by_cases h:a*d<c*b
 ·rw[if_pos h,if_pos ((A22 k C).2 h)]
 ·rw[if_neg h,if_neg (fun F=>h ((A22 k C).1 F))]
  by_cases D:c*b<a*d
  ·rw[if_pos D,if_pos ((A22 C k).2 D)]
  ·rw[if_neg D,if_neg (fun F=>D ((A22 C k).1 F))]
theorem Av3 {N:Nat} {a b:Int} {K:Int→O R}:Mo N a b K=K (pf a b):=by
 rw[Z9];unfold Wk
 simp only[IJ];unfold EQ
 rw[show(a != a)=false by simp,show(b != b)=false by simp]
 dsimp only
 rw[cf,cf]
 unfold pf
 by_cases h:a<b
 ·rw[decide_eq_true h,ct,if_pos h]
 ·rw[decide_eq_false h,cf,if_neg h]
  by_cases k:b<a
  ·rw[decide_eq_true (show a>b from k),ct,if_pos k]
  ·rw[decide_eq_false (show ¬ a>b from k),cf,if_neg k]
theorem Akp {N:Nat} {a b:Int} {K:Int→O R}:It N a b K=K (pf a b):=by
 rw[Vp];unfold Sj
 simp only[AB];unfold Wl
 rw[show(a != a)=false by simp,show(b != b)=false by simp]
 dsimp only
 rw[cf,cf]
 unfold pf
 by_cases h:a<b
 ·rw[decide_eq_true h,ct,if_pos h]
 ·rw[decide_eq_false h,cf,if_neg h]
  by_cases k:b<a
  ·rw[decide_eq_true (show a>b from k),ct,if_pos k]
  ·rw[decide_eq_false (show ¬ a>b from k),cf,if_neg k]
theorem A8d {p q:Rat} (h:p.num.sign<q.num.sign):p<q:=by
 rw[Rat.lt_iff]
 have D:=p.den_pos;have hq:=q.den_pos
 rcases Int.lt_trichotomy p.num 0 with k | k | k
 ·rcases Int.lt_or_le q.num 0 with C | C
  ·rw[Int.sign_eq_neg_one_of_neg k,Int.sign_eq_neg_one_of_neg C] at h;omega
  ·have x1:p.num*q.den<0:=Int.mul_neg_of_neg_of_pos k (by omega)
   have x2:0≤q.num*p.den:=Int.mul_nonneg C (by omega)
   omega
 ·rw[k] at h ⊢
  have:0<q.num:=by simpa using h
  have x2:0<q.num*p.den:=Int.mul_pos this (by omega)
  rw[Int.zero_mul];exact x2
 ·rw[Int.sign_eq_one_of_pos k] at h
  have:=Int.sign_trichotomy q.num
  omega
theorem UB {a b:Int} (C:-2147483648<a∧a<2147483648) (D:-2147483648<b∧b<2147483648):-4611686018427387904<a*b∧a*b<4611686018427387904:=by
 have k:a.natAbs*b.natAbs≤2147483647*2147483647:=Nat.mul_le_mul (by omega) (by omega)
 rw[←Int.natAbs_mul] at k
 omega
theorem MG {N:Nat} {x y:RatD} {o o':Bool} {K:Int→O R} (M:x.ok) (G:y.ok) (k:fit (4*(x.m+y.m)+10) N):Fg N x.av o y.av o' K=K (GE x.q y.q):=by
 have h1:=k.1
 rw[b7];unfold IR
 rw[Kw,ct,Eh,Lr M (k.le (by omega)),Kw,ct,Eh,Lr G (k.le (by omega))]
 by_cases hs:x.q.num.sign=y.q.num.sign
 ·rw[show(x.q.num.sign != y.q.num.sign)=false by simp[hs],cf,ct]
  have gen:Qz N K o x.av o' y.av=K (GE x.q y.q):=by
   obtain⟨n1,s1,l1,a1,I,p1,p2,p3,p4,p5,p6,p7⟩:=Oo (R:=R) (N:=N) (o:=o) M (k.le (by omega))
   obtain⟨n2,s2,l2,a2,L,T,U,q3,q4,q5,q6,q7⟩:=Oo (R:=R) (N:=N) (o:=o') G (k.le (by omega))
   obtain⟨S1,t1,t2,t3⟩:=OV (R:=R) (N:=N) (n1:=n1) (n2:=false) (s1:=s1) (s2:=.of l2 false L) (o1:=a1) (o2:=(L||false)) p1 U (k.le (show s1.l.length+l2.length≤_ by omega))
   obtain⟨S2,u1,u2,u3⟩:=OV (R:=R) (N:=N) (n1:=n2) (n2:=false) (s1:=s2) (s2:=.of l1 false I) (o1:=a2) (o2:=(I||false)) T p2 (k.le (show s2.l.length+l1.length≤_ by omega))
   have v1:A2 false (.of l2 false L)=(val l2:Int):=rfl
   have v2:A2 false (.of l1 false I)=(val l1:Int):=rfl
   rw[v1] at t2 t3;rw[v2] at u2 u3
   have l1':(Ar (A2 n1 s1*(val l2:Int)).natAbs).length≤x.m+max y.m 1:=Nat.le_trans (En (by
    rw[Int.natAbs_mul,Cz,Int.natAbs_natCast,Nat.pow_add]
    exact Nat.mul_lt_mul'' (Nat.lt_of_lt_of_le (Bk p1) (Nat.pow_le_pow_right (by omega) p4)) (Nat.lt_of_lt_of_le (Bk U) (Nat.pow_le_pow_right (by omega) q5)))) (Nat.le_refl _)
   have l2':(Ar (A2 n2 s2*(val l1:Int)).natAbs).length≤y.m+max x.m 1:=Nat.le_trans (En (by
    rw[Int.natAbs_mul,Cz,Int.natAbs_natCast,Nat.pow_add]
    exact Nat.mul_lt_mul'' (Nat.lt_of_lt_of_le (Bk T) (Nat.pow_le_pow_right (by omega) q4)) (Nat.lt_of_lt_of_le (Bk p2) (Nat.pow_le_pow_right (by omega) p5)))) (Nat.le_refl _)
   unfold Qz
   rw[Kw,ct,Eh,p7,jz,ct,Kw,ct,Eh,q7,jz,ct,mH,ct,Akl,A6a,t3,mH,ct,Akl,A6a,u3,Et t1 t2,Et u1 u2,A6a,A6a,Akn (s1:=.of (Ar (A2 n1 s1*(val l2:Int)).natAbs) false true) (s2:=.of (Ar (A2 n2 s2*(val l1:Int)).natAbs) false true) (Ad _) (Ad _) (k.le (show(Ar (A2 n1 s1*(val l2:Int)).natAbs).length+(Ar (A2 n2 s2*(val l1:Int)).natAbs).length≤_ by omega)),Jz,Jz,←p6,←q6,A23 (by omega) (by omega)]
  rcases Jn (R:=R) (N:=N) (o:=o) M (k.le (by omega)) with⟨n,d,n1,n2,d1,d2,e,hK⟩ | hK
  ·rcases Jn (R:=R) (N:=N) (o:=o') G (k.le (by omega)) with⟨V,d',C,D,F,S,e',hK'⟩ | hK'
   ·have I:=UB (a:=n) (b:=(d':Int)) ⟨n1,n2⟩ (by omega)
    have L:=UB (a:=V) (b:=(d:Int)) ⟨C,D⟩ (by omega)
    rw[hK,ct,hK',show((true:Bool)==true)=true by rfl,ct,Au4,ct,Akp,i64 (by omega),i64 (by omega),←e,←e',A23 d1 F]
   ·rw[hK,ct,hK',show((true:Bool)==true)=true by rfl,ct,Au4,cf,gen]
  ·rcases Jn (R:=R) (N:=N) (o:=o') G (k.le (by omega)) with⟨V,d',C,D,F,S,e',hK'⟩ | hK'
   ·rw[hK,ct,hK',show((false:Bool)==true)=false by rfl,cf,gen]
   ·rw[hK,ct,hK',show((false:Bool)==true)=false by rfl,cf,gen]
 ·rw[show(x.q.num.sign != y.q.num.sign)=true by simp[hs],ct,Av3]
  congr 1
  unfold pf GE
  by_cases h:x.q.num.sign<y.q.num.sign
  ·rw[if_pos h,if_pos (A8d h)]
  ·have Y:y.q.num.sign<x.q.num.sign:=by omega
   have:=A8d Y
   rw[if_neg h,if_pos Y,if_neg (fun hh=>absurd (Rat.le_of_lt this) (Rat.not_le.2 hh)),if_pos this]
end
end Gx

namespace Gx
open Go Go.Proofs
section
variable {R:Type}
theorem Av4 {q:Rat} (h:q.num.sign=0):q=0:=Rat.num_eq_zero.1 (Int.sign_eq_zero_iff_zero.1 h)
theorem Oq {a b:Int} {k l:Nat} (C:a.natAbs<4294967296 ^ k) (D:b.natAbs<4294967296 ^ l):(a*b).natAbs<4294967296 ^ (k+l):=by
 rw[Int.natAbs_mul,Nat.pow_add];exact Nat.mul_lt_mul'' C D
theorem pg {a b:Int} {k:Nat} (C:a.natAbs<4294967296 ^ k) (D:b.natAbs<4294967296 ^ k):(a+b).natAbs<4294967296 ^ (k+1):=by
 rw[Nat.pow_succ];omega
theorem Hw {k l:Nat} (h:k≤l):4294967296 ^ k≤4294967296 ^ l:=Nat.pow_le_pow_right (by omega) h
theorem A8e {v k:Nat} (h:(Ar v).length≤k):v<4294967296 ^ k:=by
 have:=Bk (Ad v);rw[Ak] at this
 exact Nat.lt_of_lt_of_le this (Hw h)
theorem Av5 (p r:Int) (d:Nat) (k:d≠0):mkRat (p+r) d=mkRat p d+mkRat r d:=by
 rw[Rat.mkRat_add_mkRat _ _ k k,←Int.add_mul]
 exact(Rat.mkRat_mul_right k).symm
theorem A99 {N:Nat} {x y:RatD} {o o':Bool} (hx:x.ok) (hy:y.ok) (C:fit (8*(x.m+y.m)+40) N):∃ d:RatD,d.can (x.q+y.q)∧∀ K:LA→O R,OM N K o x.av o' y.av=K d.av:=by
 obtain⟨n1,s1,l1,a1,D,p1,p2,G,p4,p5,T,U⟩:=Oo (R:=R) (N:=N) (o:=o) hx (C.le (by omega))
 obtain⟨n2,s2,l2,a2,I,L,F,V,q4,q5,Y,q7⟩:=Oo (R:=R) (N:=N) (o:=o') hy (C.le (by omega))
 have zl1:(A2 n1 s1).natAbs<4294967296 ^ x.m:=by rw[Cz];exact Nat.lt_of_lt_of_le (Bk p1) (Hw p4)
 have zl2:(A2 n2 s2).natAbs<4294967296 ^ y.m:=by rw[Cz];exact Nat.lt_of_lt_of_le (Bk L) (Hw q4)
 have dl1:((val l1:Nat):Int).natAbs<4294967296 ^ (x.m+1):=by rw[Int.natAbs_natCast];exact Nat.lt_of_lt_of_le (Bk p2) (Hw (by omega))
 have dl2:((val l2:Nat):Int).natAbs<4294967296 ^ (y.m+1):=by rw[Int.natAbs_natCast];exact Nat.lt_of_lt_of_le (Bk F) (Hw (by omega))
 by_cases he:val l1=val l2
 ·obtain⟨S,t1,t2,t3⟩:=An2 (R:=R) (N:=N) (n1:=n1) (n2:=n2) (s1:=s1) (s2:=s2) (o1:=a1) (o2:=a2) p1 L (C.le (by omega))
  have lz:(Ar (A2 n1 s1+A2 n2 s2).natAbs).length≤x.m+y.m+1:=En (pg (k:=x.m+y.m) (Nat.lt_of_lt_of_le zl1 (Hw (by omega))) (Nat.lt_of_lt_of_le zl2 (Hw (by omega))))
  obtain⟨c,c1,M⟩:=KC (R:=R) (N:=N) (neg:=decide (A2 n1 s1+A2 n2 s2<0)) (s:=.of (Ar (A2 n1 s1+A2 n2 s2).natAbs) false true) (l:=l1) (n:=l1.length) (o:=true) (t:=false) (o':=D) rfl (Ad _) p2 G (C.le (show 2*((Ar (A2 n1 s1+A2 n2 s2).natAbs).length+l1.length)+8≤_ by omega))
  rw[Jz,Av5 _ _ _ G,T] at c1
  rw[show mkRat (A2 n2 s2) (val l1)=y.q by rw[he,Y]] at c1
  refine⟨c,c1,fun K=>?_⟩
  unfold OM
  rw[Kw,ct,Eh,U,jz,ct,Kw,ct,Eh,q7,jz,ct,Tm rfl rfl p2 F (C.le (by omega)),he,DK,show((0:Int)==0)=true by rfl,ct,mH,ct,mH,ct,Akl,Akl,t3,Et t1 t2,A6a,M];rfl
 ·obtain⟨S1,t1,t2,t3⟩:=OV (R:=R) (N:=N) (n1:=n1) (n2:=false) (s1:=s1) (s2:=.of l2 false I) (o1:=a1) (o2:=(I||false)) p1 F (C.le (show s1.l.length+l2.length≤_ by omega))
  obtain⟨S2,u1,u2,u3⟩:=OV (R:=R) (N:=N) (n1:=n2) (n2:=false) (s1:=s2) (s2:=.of l1 false D) (o1:=a2) (o2:=(D||false)) L p2 (C.le (show s2.l.length+l1.length≤_ by omega))
  rw[show A2 false (.of l2 false I)=(val l2:Int) by rfl] at t2 t3
  rw[show A2 false (.of l1 false D)=(val l1:Int) by rfl] at u2 u3
  have z1:=Oq zl1 dl2
  have z2:=Oq zl2 dl1
  have L1:=En z1
  have L2:=En z2
  obtain⟨S3,w1,w2,w3⟩:=An2 (R:=R) (N:=N) (n1:=decide (A2 n1 s1*(val l2:Int)<0)) (n2:=decide (A2 n2 s2*(val l1:Int)<0)) (s1:=.of (Ar (A2 n1 s1*(val l2:Int)).natAbs) false true) (s2:=.of (Ar (A2 n2 s2*(val l1:Int)).natAbs) false true) (o1:=true) (o2:=true) (Ad _) (Ad _) (C.le (show(Ar (A2 n1 s1*(val l2:Int)).natAbs).length+(Ar (A2 n2 s2*(val l1:Int)).natAbs).length+1≤_ by omega))
  rw[Jz,Jz] at w2 w3
  obtain⟨S4,v1,v2,v3⟩:=d7 (R:=R) (N:=N) (a:=l1) (b:=l2) (t:=false) (o:=D) (t':=false) (o':=I) rfl rfl p2 F (C.le (by omega))
  have z3:=pg (k:=x.m+y.m+1) (Nat.lt_of_lt_of_le z1 (Hw (by omega))) (Nat.lt_of_lt_of_le z2 (Hw (by omega)))
  have L3:=En z3
  have z4:val l1*val l2<4294967296 ^ (x.m+1+(y.m+1)):=by
   have:=Oq dl1 dl2;rw[Int.natAbs_mul,Int.natAbs_natCast,Int.natAbs_natCast] at this;exact this
  have L4:=En z4
  obtain⟨c,c1,M⟩:=KC (R:=R) (N:=N) (neg:=decide (A2 n1 s1*(val l2:Int)+A2 n2 s2*(val l1:Int)<0)) (s:=.of (Ar (A2 n1 s1*(val l2:Int)+A2 n2 s2*(val l1:Int)).natAbs) false true) (l:=Ar (val l1*val l2)) (n:=(Ar (val l1*val l2)).length) (o:=true) (t:=false) (o':=true) rfl (Ad _) (Ad _) (by rw[Ak];exact Nat.mul_ne_zero G V) (C.le (show 2*((Ar (A2 n1 s1*(val l2:Int)+A2 n2 s2*(val l1:Int)).natAbs).length+(Ar (val l1*val l2)).length)+8≤_ by omega))
  rw[Jz,Ak,←Rat.mkRat_add_mkRat _ _ G V,T,Y] at c1
  refine⟨c,c1,fun K=>?_⟩
  unfold OM
  have hc:(H9 (val l1) (val l2)==0)=false:=by
   rw[beq_eq_false_iff_ne];unfold H9;split
   ·omega
   ·rw[if_pos (by omega)];omega
  rw[Kw,ct,Eh,U,jz,ct,Kw,ct,Eh,q7,jz,ct,Tm rfl rfl p2 F (C.le (by omega)),hc,cf,mH,ct,Akl,A6a,t3,mH,ct,Akl,A6a,u3,Et t1 t2,Et u1 u2,A6a,A6a,w3,v3,Et w1 w2,Et v1 v2,A6a,M];rfl
theorem tC {N:Nat} {x y:RatD} {o o':Bool} (D:x.ok) (F:y.ok) (k:fit (8*(x.m+y.m)+40) N):∃ d:RatD,d.can (x.q+y.q)∧∀ K:LA→O R,Zu N x.av o y.av o' K=K d.av:=by
 have h1:=k.1
 by_cases T:x.q.num.sign=0
 ·obtain⟨c,c1,C⟩:=UA (R:=R) (N:=N) (o:=o') F (k.le (by omega))
  refine⟨c,by rw[Av4 T,Rat.zero_add];exact c1,fun K=>?_⟩
  rw[TH];unfold fv
  rw[Kw,ct,Eh,Lr D (k.le (by omega)),T,show((0:Int)==0)=true by rfl,ct,Kw,ct,Eh,C];rfl
 ·have G:(x.q.num.sign==0)=false:=by rw[beq_eq_false_iff_ne];exact T
  by_cases U:y.q.num.sign=0
  ·obtain⟨c,c1,C⟩:=UA (R:=R) (N:=N) (o:=o) D (k.le (by omega))
   refine⟨c,by rw[Av4 U,Rat.add_zero];exact c1,fun K=>?_⟩
   rw[TH];unfold fv
   rw[Kw,ct,Eh,Lr D (k.le (by omega)),G,cf,Kw,ct,Eh,Lr F (k.le (by omega)),U,show((0:Int)==0)=true by rfl,ct,ct,C];rfl
  ·have V:(y.q.num.sign==0)=false:=by rw[beq_eq_false_iff_ne];exact U
   have start:∀ K:LA→O R,Zu N x.av o y.av o' K=G0 N x.av o (fun g e aw=>G0 N y.av o' (fun i f ax=>(cond (aw==true) (Tj N K g e i f o x.av o' y.av (cond true ax false)) (Tj N K g e i f o x.av o' y.av false)))):=by
    intro K
    rw[TH];unfold fv
    rw[Kw,ct,Eh,Lr D (k.le (by omega)),G,cf,Kw,ct,Eh,Lr F (k.le (by omega)),V,cf,ct];rfl
   have gen:∃ d:RatD,d.can (x.q+y.q)∧∀ (K:LA→O R) (g e i f:Int),Tj N K g e i f o x.av o' y.av false=K d.av:=by
    obtain⟨c,c1,C⟩:=A99 (R:=R) (N:=N) (o:=o) (o':=o') D F k
    exact⟨c,c1,fun K g e i f=>by unfold Tj TG;rw[cf,C]⟩
   rcases Jn (R:=R) (N:=N) (o:=o) D (k.le (by omega)) with⟨n,d,n1,n2,d1,d2,e,hK⟩ | hK
   ·rcases Jn (R:=R) (N:=N) (o:=o') F (k.le (by omega)) with⟨S,d',I,L,M,Y,e',hK'⟩ | hK'
    ·have b1:=UB (a:=n) (b:=(d':Int)) ⟨n1,n2⟩ (by omega)
     have b2:=UB (a:=S) (b:=(d:Int)) ⟨I,L⟩ (by omega)
     have b3:=UB (a:=(d:Int)) (b:=(d':Int)) (by omega) (by omega)
     have b4:((d*d':Nat):Int)=(d:Int)*(d':Int):=by simp
     obtain⟨c,c1,C⟩:=MF (R:=R) (N:=N) (s:=n*d'+S*d) (b:=d*d') (by omega) (Nat.mul_pos d1 M) (by omega) (by omega)
     rw[←Rat.mkRat_add_mkRat _ _ (by omega) (by omega),e,e'] at c1
     refine⟨c,c1,fun K=>?_⟩
     rw[start,hK,hK',show((true:Bool)==true)=true by rfl,ct,Au4]
     unfold Tj TG
     rw[ct,i64 (a:=n*(d':Int)) (by omega),i64 (a:=S*(d:Int)) (by omega),i64 (by omega),i64 (by omega),←b4,C];rfl
    ·obtain⟨c,c1,C⟩:=gen
     refine⟨c,c1,fun K=>?_⟩
     rw[start,hK,hK',show((true:Bool)==true)=true by rfl,ct,Au4,C]
   ·obtain⟨c,c1,C⟩:=gen
    refine⟨c,c1,fun K=>?_⟩
    rw[start,hK]
    rcases Jn (R:=R) (N:=N) (o:=o') F (k.le (by omega)) with⟨S,d',I,L,M,Y,e',hK'⟩ | hK'
    ·rw[hK',show((false:Bool)==true)=false by rfl,cf,C]
    ·rw[hK',show((false:Bool)==true)=false by rfl,cf,C]
theorem Av6 (n:Bool) (s:LS):A2 (!n) s=-A2 n s:=by unfold A2;cases n<;>simp
theorem An4 {N:Nat} {x y:RatD} {o o':Bool} (k:x.ok) (C:y.ok) (D:fit (8*(x.m+y.m)+40) N):∃ d:RatD,d.can (x.q - y.q)∧∀ K:LA→O R,MB N x.av o y.av o' K=K d.av:=by
 obtain⟨c,c1,F⟩:=tC (R:=R) (N:=N) (x:=⟨x.neg,.of x.ns.l false o,.of x.ds.l false o⟩) (y:=⟨!y.neg,.of y.ns.l false o',.of y.ds.l false o'⟩) (o:=(o||(o||false))) (o':=(o'||(o'||false))) k C D
 have e1:RatD.q ⟨x.neg,.of x.ns.l false o,.of x.ds.l false o⟩=x.q:=rfl
 have G:RatD.q ⟨!y.neg,.of y.ns.l false o',.of y.ds.l false o'⟩=-y.q:=by
  show mkRat (A2 (!y.neg) (.of y.ns.l false o')) (val y.ds.l)=_
  rw[Av6,←Rat.neg_mkRat];rfl
 rw[e1,G,←Rat.sub_eq_add_neg] at c1
 refine⟨c,c1,fun K=>?_⟩
 rw[Ad5];unfold Aqr
 rw[Bcg,A8b,Agg,Bdr,ct,Bcg,A8b,Agg,Bdr,ct]
 exact(F _).trans rfl
theorem Baa {N:Nat} {x y:RatD} {o o':Bool} (F:x.ok) (G:y.ok) (k:fit (8*(x.m+y.m)+40) N):∃ d:RatD,d.can (x.q*y.q)∧∀ K:LA→O R,ON N K o x.av o' y.av=K d.av:=by
 obtain⟨n1,s1,l1,a1,I,p1,p2,L,M,p5,S,T⟩:=Oo (R:=R) (N:=N) (o:=o) F (k.le (by omega))
 obtain⟨n2,s2,l2,a2,U,C,D,V,Y,q5,q6,q7⟩:=Oo (R:=R) (N:=N) (o:=o') G (k.le (by omega))
 have zl1:(A2 n1 s1).natAbs<4294967296 ^ x.m:=by rw[Cz];exact Nat.lt_of_lt_of_le (Bk p1) (Hw M)
 have zl2:(A2 n2 s2).natAbs<4294967296 ^ y.m:=by rw[Cz];exact Nat.lt_of_lt_of_le (Bk C) (Hw Y)
 have dl1:((val l1:Nat):Int).natAbs<4294967296 ^ (x.m+1):=by rw[Int.natAbs_natCast];exact Nat.lt_of_lt_of_le (Bk p2) (Hw (by omega))
 have dl2:((val l2:Nat):Int).natAbs<4294967296 ^ (y.m+1):=by rw[Int.natAbs_natCast];exact Nat.lt_of_lt_of_le (Bk D) (Hw (by omega))
 obtain⟨S1,t1,t2,t3⟩:=OV (R:=R) (N:=N) (n1:=n1) (n2:=n2) (s1:=s1) (s2:=s2) (o1:=a1) (o2:=a2) p1 C (k.le (by omega))
 have L1:=En (Oq zl1 zl2)
 obtain⟨S4,v1,v2,v3⟩:=d7 (R:=R) (N:=N) (a:=l1) (b:=l2) (t:=false) (o:=I) (t':=false) (o':=U) rfl rfl p2 D (k.le (by omega))
 have z4:val l1*val l2<4294967296 ^ (x.m+1+(y.m+1)):=by
  have:=Oq dl1 dl2;rw[Int.natAbs_mul,Int.natAbs_natCast,Int.natAbs_natCast] at this;exact this
 have L4:=En z4
 obtain⟨c,c1,c2⟩:=KC (R:=R) (N:=N) (neg:=decide (A2 n1 s1*A2 n2 s2<0)) (s:=.of (Ar (A2 n1 s1*A2 n2 s2).natAbs) false true) (l:=Ar (val l1*val l2)) (n:=(Ar (val l1*val l2)).length) (o:=true) (t:=false) (o':=true) rfl (Ad _) (Ad _) (by rw[Ak];exact Nat.mul_ne_zero L V) (k.le (show 2*((Ar (A2 n1 s1*A2 n2 s2).natAbs).length+(Ar (val l1*val l2)).length)+8≤_ by omega))
 rw[Jz,Ak,←Rat.mkRat_mul_mkRat,S,q6] at c1
 refine⟨c,c1,fun K=>?_⟩
 unfold ON
 rw[Kw,ct,Eh,T,jz,ct,Kw,ct,Eh,q7,jz,ct,mH,ct,mH,ct,Akl,Akl,t3,v3,Et t1 t2,Et v1 v2,A6a,c2];rfl
theorem A6b {N:Nat} {x y:RatD} {o o':Bool} (S:x.ok) (G:y.ok) (k:fit (8*(x.m+y.m)+40) N):∃ d:RatD,d.can (x.q*y.q)∧∀ K:LA→O R,mA N x.av o y.av o' K=K d.av:=by
 have h1:=k.1
 obtain⟨g,T,I⟩:=Baa (R:=R) (N:=N) (o:=o) (o':=o') S G k
 rcases Jn (R:=R) (N:=N) (o:=o) S (k.le (by omega)) with⟨n,d,n1,n2,U,d2,e,hK⟩ | hK
 ·rcases Jn (R:=R) (N:=N) (o:=o') G (k.le (by omega)) with⟨L,d',C,D,F,M,e',hK'⟩ | hK'
  ·have b1:=UB (a:=n) (b:=L) ⟨n1,n2⟩ ⟨C,D⟩
   have b3:=UB (a:=(d:Int)) (b:=(d':Int)) (by omega) (by omega)
   have V:((d*d':Nat):Int)=(d:Int)*(d':Int):=by simp
   obtain⟨c,c1,Y⟩:=MF (R:=R) (N:=N) (s:=n*L) (b:=d*d') (by omega) (Nat.mul_pos U F) (by omega) (by omega)
   rw[←Rat.mkRat_mul_mkRat,e,e'] at c1
   refine⟨c,c1,fun K=>?_⟩
   rw[TI];unfold fy
   rw[Kw,ct,Eh,hK,Kw,ct,Eh,hK',show((true:Bool)==true)=true by rfl,ct,Au4,ct,i64 (by omega),i64 (by omega),←V,Y];rfl
  ·refine⟨g,T,fun K=>?_⟩
   rw[TI];unfold fy
   rw[Kw,ct,Eh,hK,Kw,ct,Eh,hK',show((true:Bool)==true)=true by rfl,ct,Au4,cf,I]
 ·refine⟨g,T,fun K=>?_⟩
  rw[TI];unfold fy
  rcases Jn (R:=R) (N:=N) (o:=o') G (k.le (by omega)) with⟨L,d',C,D,F,M,e',hK'⟩ | hK'
  ·rw[Kw,ct,Eh,hK,Kw,ct,Eh,hK',show((false:Bool)==true)=false by rfl,cf,I]
  ·rw[Kw,ct,Eh,hK,Kw,ct,Eh,hK',show((false:Bool)==true)=false by rfl,cf,I]
theorem Arc {a b:Rat}:GE a b≤0↔a≤b:=by
 unfold GE
 by_cases h:a<b
 ·rw[if_pos h];exact⟨fun _=>Rat.le_of_lt h,fun _=>by omega⟩
 ·rw[if_neg h]
  by_cases k:b<a
  ·rw[if_pos k];exact⟨fun C=>by omega,fun C=>absurd C (Rat.not_le.2 k)⟩
  ·rw[if_neg k];exact⟨fun _=>Rat.not_lt.1 k,fun _=>by omega⟩
theorem A6c {N:Nat} {x y:RatD} {o o':Bool} (C:x.ok) (D:y.ok) (k:fit (8*(x.m+y.m)+40) N):∃ d:RatD,d.can (if x.q≤y.q then x.q else y.q)∧∀ K:LA→O R,si N x.av o y.av o' K=K d.av:=by
 by_cases h:x.q≤y.q
 ·obtain⟨c,c1,F⟩:=UA (R:=R) (N:=N) (o:=o) C (k.le (by omega))
  refine⟨c,by rw[if_pos h];exact c1,fun K=>?_⟩
  rw[lw];unfold zo
  rw[Kw,ct,Kw,ct,Eh,Eh,MG C D (k.le (by omega)),decide_eq_true (Arc.2 h),ct,ct,F];rfl
 ·obtain⟨c,c1,F⟩:=UA (R:=R) (N:=N) (o:=o') D (k.le (by omega))
  refine⟨c,by rw[if_neg h];exact c1,fun K=>?_⟩
  rw[lw];unfold zo
  rw[Kw,ct,Kw,ct,Eh,Eh,MG C D (k.le (by omega)),decide_eq_false (fun G=>h (Arc.1 G)),cf,ct,F];rfl
end
end Gx

namespace Gx
open Go Go.Proofs
section
variable {R:Type}
def G3 (z:Int):LA:=Kv (decide (z<0)) (.of (Ar z.natAbs) false false)
theorem ph (z:Int) (K:LA→O R):(cond ((Nat.beq 0 0)&&((Nat.beq (List.length (G3 z)) 2)&&(Nat.beq 2 2))) (cond (Nat.ble 2 (List.length (G3 z))) (K (List.take 2 (G3 z))) none) none)=K (G3 z):=rfl
theorem Bfd (z:Int):List.take 2 (G3 z)=G3 z:=rfl
theorem Bel (z:Int):Nat.beq (List.length (G3 z)) 2=true:=rfl
theorem A9r (v:Nat):List.take ((Ar v).length*1) (Ae (Ar v))=Ae (Ar v):=Et (Ad _) (Ak v)
theorem Hx {N:Nat} {neg:Bool} {l:List Nat} {n:Nat} {t o:Bool} {K:LA→O R} (hn:n=l.length) (k:Al l) (C:fit l.length N):Gz N neg (Ae l) n t o K=K (G3 (if neg then -(val l:Int) else (val l:Int))):=by
 obtain⟨c1,D⟩:=DM (z:=if neg then -(val l:Int) else (val l:Int)) (c:=neg) (m:=val l) rfl
 rw[nN];unfold sC
 rw[Du hn k C,A9r]
 unfold G3
 rw[←c1,D]
 cases neg
 ·rfl
 ·rw[show((true:Bool)==true)=true by rfl,ct,Au4];simp[Kv,LS.av]
theorem kA {N:Nat} {v:Int} {K:LA→O R} (C:-9223372036854775808≤v∧v≤9223372036854775807) (hN:2000≤N):Kz N v K=K (G3 v):=by
 have k:v.natAbs<18446744073709551616:=by omega
 have D:=TX k
 rw[VT];unfold SG
 by_cases h:v<0
 ·have e:IntKind.wrap .u64 (IntKind.wrap .u64 (IntKind.wrap .i64 ((0:Int) - IntKind.wrap .i64 (v+1)))+1)=(v.natAbs:Int):=by
   rw[i64 (a:=v+1) (by omega),i64 (by omega),lE,lE];omega
  rw[decide_eq_true h,ct,e,KB k (by omega),A9r,Hx rfl (Ad _) ⟨by omega,by omega⟩,Ak]
  have:(if true=true then -(v.natAbs:Int) else (v.natAbs:Int))=v:=by rw[if_pos rfl];omega
  rw[this];exact ph _ _
 ·have e:IntKind.wrap .u64 v=(v.natAbs:Int):=by rw[lE];omega
  rw[decide_eq_false h,cf,e,KB k (by omega),A9r,Hx rfl (Ad _) ⟨by omega,by omega⟩,Ak]
  have:(if false=true then -(v.natAbs:Int) else (v.natAbs:Int))=v:=by rw[if_neg (by decide)];omega
  rw[this];exact ph _ _
theorem mI {N:Nat} {n:Bool} {s:LS} {o:Bool} {K:LA→O R} (hs:Al s.l) (k:fit s.l.length N):EE N (Kv n s) o K=K (G3 (A2 n s)):=by
 rw[nP];unfold sD
 rw[Us,Qk,Hx rfl hs k];exact ph _ _
theorem Agh {N:Nat} {n:Bool} {s:LS} {o:Bool} {K:Int→O R} (hs:Al s.l) (k:fit s.l.length N):EF N (Kv n s) o K=K (A2 n s).sign:=by
 rw[nR];unfold sE
 rw[mH,ct,Akl,mI hs k,Bel,show((true&&(true&&(!false))))=true by rfl,ct]
 have e:setCells (Kv n s) 0 (G3 (A2 n s))=G3 (A2 n s):=rfl
 rw[e]
 generalize A2 n s=z
 unfold G3
 rw[Us]
 rcases Int.lt_trichotomy z 0 with h | h | h
 ·rw[decide_eq_true h,ct,Int.sign_eq_neg_one_of_neg h]
 ·subst h;rfl
 ·rw[decide_eq_false (by omega),cf,Qk]
  have:(Ar z.natAbs).length≠0:=fun C=>by have:=Bv.1 C;omega
  simp only[LS.l]
  rw[Akk this,cf,Int.sign_eq_one_of_pos h]
theorem A6d {N:Nat} {n:Bool} {s:LS} {o:Bool} {K:LA→O R} (hs:Al s.l) (k:fit s.l.length N):B_ N (Kv n s) o K=K (G3 (-A2 n s)):=by
 rw[vX];unfold Aci
 rw[Us,Qk,Hx rfl hs k,←Av6];exact ph _ _
theorem A0p {N:Nat} {n1 n2:Bool} {s1 s2:LS} {o1 o2:Bool} {K:LA→O R} (k:Al s1.l) (C:Al s2.l) (D:fit (s1.l.length+s2.l.length) N):JK N (Kv n1 s1) o1 (Kv n2 s2) o2 K=K (G3 (A2 n1 s1*A2 n2 s2)):=by
 have F:(Ar (val s1.l*val s2.l)).length≤s1.l.length+s2.l.length:=En (by rw[Nat.pow_add];exact Nat.mul_lt_mul'' (Bk k) (Bk C))
 rw[wX];unfold Aeo
 rw[Us,Us,Qk,Qk,A55 rfl rfl k C D,A9r,Hx rfl (Ad _) (D.le F),Ak]
 have G:A2 n1 s1*A2 n2 s2=if (!(n1==n2)) then -((val s1.l*val s2.l:Nat):Int) else ((val s1.l*val s2.l:Nat):Int):=by
  unfold A2;cases n1<;>cases n2<;>simp[Int.mul_neg,Int.neg_mul]
 rw[←G];exact ph _ _
theorem A0q {N:Nat} {n1 n2:Bool} {s1 s2:LS} {o1 o2:Bool} {K:LA→O R} (G:Al s1.l) (I:Al s2.l) (k:fit (s1.l.length+s2.l.length+1) N):BZ N (Kv n1 s1) o1 (Kv n2 s2) o2 K=K (G3 (A2 n1 s1+A2 n2 s2)):=by
 have v1:=Bk G
 have v2:=Bk I
 have L:=Hw (show s1.l.length≤s1.l.length+s2.l.length by omega)
 have M:=Hw (show s2.l.length≤s1.l.length+s2.l.length by omega)
 rw[vV];unfold Ace
 rw[Us,Us]
 by_cases hn:n1=n2
 ·subst hn
  have C:(Ar (val s1.l+val s2.l)).length≤s1.l.length+s2.l.length+1:=En (by rw[Nat.pow_succ];omega)
  have D:A2 n1 s1+A2 n1 s2=if n1 then -((val s1.l+val s2.l:Nat):Int) else ((val s1.l+val s2.l:Nat):Int):=by
   unfold A2;cases n1<;>simp;omega
  rw[show(n1==n1)=true by simp,ct,Us,Qk,Qk,sx rfl rfl G I k,A9r,Hx rfl (Ad _) (k.le C),Ak,←D];exact ph _ _
 ·rw[show(n1==n2)=false by simp[hn],cf,Qk,Qk,sy rfl rfl G I (k.le (by omega))]
  by_cases F:val s2.l≤val s1.l
  ·have C:(Ar (val s1.l - val s2.l)).length≤s1.l.length+s2.l.length+1:=En (by rw[Nat.pow_succ];omega)
   have D:A2 n1 s1+A2 n2 s2=if n1 then -((val s1.l - val s2.l:Nat):Int) else ((val s1.l - val s2.l:Nat):Int):=by
    unfold A2;cases n1<;>cases n2<;>simp at hn ⊢<;>omega
   rw[if_pos F,ct,Us,A9r,Hx rfl (Ad _) (k.le C),Ak,←D];exact ph _ _
  ·have C:(Ar (val s2.l - val s1.l)).length≤s1.l.length+s2.l.length+1:=En (by rw[Nat.pow_succ];omega)
   have D:A2 n1 s1+A2 n2 s2=if n2 then -((val s2.l - val s1.l:Nat):Int) else ((val s2.l - val s1.l:Nat):Int):=by
    unfold A2;cases n1<;>cases n2<;>simp at hn ⊢<;>omega
   rw[if_neg F,cf,Qk,Qk,sy rfl rfl I G (k.le (by omega)),if_pos (by omega),Us,A9r,Hx rfl (Ad _) (k.le C),Ak,←D];exact ph _ _
theorem A6e {N:Nat} {n1 n2:Bool} {s1 s2:LS} {o1 o2:Bool} {K:LA→O R} (k:Al s1.l) (C:Al s2.l) (D:fit (3*(s1.l.length+s2.l.length)+4) N):n_ N (Kv n1 s1) o1 (Kv n2 s2) o2 K=K (G3 ((Nat.gcd (A2 n1 s1).natAbs (A2 n2 s2).natAbs:Nat):Int)):=by
 have F:(Ar (Nat.gcd (val s1.l) (val s2.l))).length≤s1.l.length+s2.l.length:=by
  rcases Nat.eq_zero_or_pos (val s1.l) with h | h
  ·rw[h,Nat.gcd_zero_left];have:=(Bt C).2;omega
  ·have:=B6 (Nat.gcd_le_left (val s2.l) h);have:=(Bt k).2;omega
 rw[vS];unfold Ab7
 rw[Qk,Qk,A58 rfl rfl k C D,A9r,Hx rfl (Ad _) (D.le (by omega)),Ak,Cz,Cz];exact ph _ _
theorem dt {N:Nat} {n1:Bool} {s1:LS} {g:Nat} {o1 o2:Bool} {K:LA→LA→Bool→O R} (D:Al s1.l) (G:0<g) (F:g∣val s1.l) (C:fit (s1.l.length+2*(Ar g).length+4) N):Wh N (Kv n1 s1) o1 (G3 (g:Int)) o2 K=K (G3 (A2 n1 s1/(g:Int))) (G3 0) true:=by
 have k:G3 (g:Int)=Kv false (.of (Ar g) false false):=by
  unfold G3;rw[decide_eq_false (by omega),Int.natAbs_natCast]
 have hq:(Ar (val s1.l/g)).length≤s1.l.length:=Nat.le_trans (B6 (Nat.div_le_self _ _)) (Bt D).2
 rw[k,bG];unfold bF
 rw[Qk,Qk,show(LS.of (Ar g) false false).l=Ar g by rfl]
 rw[T' rfl rfl D (Ad _) (by rw[Ak];omega) C,Ak,Nat.mod_eq_zero_of_dvd F,show(!true)=false by rfl,cf,Us,Us,A9r,Hx rfl (Ad _) (C.le (by omega)),Us,A9r,Hx rfl (Ad _) (C.le (by simp[Eb])),Ak,Ak]
 have I:(if n1=true then -((0:Nat):Int) else ((0:Nat):Int))=0:=by cases n1<;>rfl
 have e1:(if (!(n1==false))=true then -((val s1.l/g:Nat):Int) else ((val s1.l/g:Nat):Int))=A2 n1 s1/(g:Int):=by
  obtain⟨c,k⟩:=F
  have L:val s1.l/g=c:=by rw[k,Nat.mul_div_cancel_left _ G]
  rw[L];unfold A2;rw[k]
  cases n1
  ·simp;rw[Int.mul_ediv_cancel_left _ (by omega)]
  ·simp only[Bool.true_beq,Bool.not_false,if_true]
   rw[show -((g*c:Nat):Int)=(g:Int)*(-(c:Int)) by rw[Int.mul_neg];simp,Int.mul_ediv_cancel_left _ (by omega)]
 rw[I,e1]
 generalize A2 n1 s1/(g:Int)=q
 have r0:∀ (f:Bool→O R),NC (G3 0) f=f false:=fun f=>Us
 rw[show((Nat.beq 0 0)&&((Nat.beq (List.length (G3 q)) 2)&&(Nat.beq 2 2)))=true by rfl,ct,show((Nat.beq 0 0)&&((Nat.beq (List.length (G3 0)) 2)&&(Nat.beq 2 2)))=true by rfl,ct,r0,cf]
 rfl
end
end Gx

namespace Gx
open Go Go.Proofs
section
variable {R:Type}
def As9 (q:Rat):RatD:=⟨decide (q.num<0),.of (Ar q.num.natAbs) false false,.of (Ar q.den) false false⟩
def cq (q:Rat):LA:=(As9 q).av
theorem pi (q:Rat):(As9 q).can q:=⟨rfl,rfl,rfl⟩
theorem A8f (q:Rat):(As9 q).q=q:=(pi q).q
theorem A8g (q:Rat):(As9 q).ok:=(pi q).ok
theorem Bbo (q:Rat):(As9 q).m=qm q:=(pi q).m
theorem An5 (q:Rat) (K:LA→O R):(cond ((Nat.beq 0 0)&&((Nat.beq (List.length (cq q)) 3)&&(Nat.beq 3 3))) (cond (Nat.ble 3 (List.length (cq q))) (K (List.take 3 (cq q))) none) none)=K (cq q):=rfl
theorem A24 (q:Rat):Nat.ble 2 (List.length (cq q))=true:=rfl
theorem Ard (q:Rat):List.take 2 (cq q)=G3 q.num:=rfl
theorem Bab:cq 0=[(.bool false),(.imm [] 0 1 false false),(.imm [(.int .u32 1)] 1 1 false false)]:=by
 have e:cq 0=[.bool false,.imm (Ae (Ar 0)) (Ar 0).length 1 false false,.imm (Ae (Ar 1)) (Ar 1).length 1 false false]:=rfl
 rw[e,CN];rfl
theorem A0r {N:Nat} {K:LA→O R}:a8 N K=K (cq 0):=by
 rw[nT];unfold sF
 rw[Bab]
theorem Bem {N:Nat} {z:Int} {o:Bool} {K:LA→O R} (k:fit (Ar z.natAbs).length N):B_ N (G3 z) o K=K (G3 (-z)):=by
 have:=A6d (R:=R) (N:=N) (n:=decide (z<0)) (s:=.of (Ar z.natAbs) false false) (o:=o) (K:=K) (Ad _) k
 rw[Jz] at this;exact this
theorem Bdt {N:Nat} {z:Int} {o:Bool} {K:Int→O R} (k:fit (Ar z.natAbs).length N):EF N (G3 z) o K=K z.sign:=by
 have:=Agh (R:=R) (N:=N) (n:=decide (z<0)) (s:=.of (Ar z.natAbs) false false) (o:=o) (K:=K) (Ad _) k
 rw[Jz] at this;exact this
theorem Bch {N:Nat} {z w:Int} {o o':Bool} {K:LA→O R} (k:fit ((Ar z.natAbs).length+(Ar w.natAbs).length) N):JK N (G3 z) o (G3 w) o' K=K (G3 (z*w)):=by
 have:=A0p (R:=R) (N:=N) (n1:=decide (z<0)) (s1:=.of (Ar z.natAbs) false false) (n2:=decide (w<0)) (s2:=.of (Ar w.natAbs) false false) (o1:=o) (o2:=o') (K:=K) (Ad _) (Ad _) k
 rw[Jz,Jz] at this;exact this
theorem Ben {N:Nat} {z w:Int} {o o':Bool} {K:LA→O R} (k:fit ((Ar z.natAbs).length+(Ar w.natAbs).length+1) N):BZ N (G3 z) o (G3 w) o' K=K (G3 (z+w)):=by
 have:=A0q (R:=R) (N:=N) (n1:=decide (z<0)) (s1:=.of (Ar z.natAbs) false false) (n2:=decide (w<0)) (s2:=.of (Ar w.natAbs) false false) (o1:=o) (o2:=o') (K:=K) (Ad _) (Ad _) k
 rw[Jz,Jz] at this;exact this
theorem A8h (z:Int):mkRat z 1=(z:Rat):=by
 apply Rat.ext
 ·rw[Rat.num_mkRat,if_neg (by decide),Nat.gcd_one_left];simp
 ·rw[Rat.den_mkRat,if_neg (by decide),Nat.gcd_one_left];simp
theorem Bac (z:Int) (w:Nat) (k:w≠0):(mkRat z w).num=z/((Nat.gcd z.natAbs w:Nat):Int)∧(mkRat z w).den=w/Nat.gcd z.natAbs w:=by
 refine⟨?_,?_⟩
 ·rw[Rat.num_mkRat,if_neg k,Nat.gcd_comm w]
 ·rw[Rat.den_mkRat,if_neg k,Nat.gcd_comm w]
theorem xA {N:Nat} {n1 n2:Bool} {s1 s2:LS} {o1 o2:Bool} {K:LA→O R} (L:Al s1.l) (F:Al s2.l) (Y:0≤A2 n2 s2) (C:fit (4*(s1.l.length+s2.l.length)+10) N):Qu N (Kv n1 s1) o1 (Kv n2 s2) o2 K=K (cq (mkRat (A2 n1 s1) (A2 n2 s2).natAbs)):=by
 have D:=Cz n2 s2
 have G:=Cz n1 s1
 rw[na];unfold fg
 rw[mH,ct,Akl,Agh F (C.le (by omega))]
 by_cases h0:A2 n2 s2=0
 ·rw[h0,show((0:Int).sign==0)=true by rfl,ct,A0r]
  rw[show(0:Int).natAbs=0 by rfl,Rat.mkRat_zero];exact An5 _ _
 ·have hw:(A2 n2 s2).natAbs≠0:=by omega
  have M:((A2 n2 s2).sign==0)=false:=by rw[Int.sign_eq_one_of_pos (by omega)];rfl
  rw[M,cf,ct,mI F (C.le (by omega)),show((Nat.beq 0 0)&&((Nat.beq (List.length (G3 (A2 n2 s2))) 2)&&(Nat.beq 2 2)))=true by rfl,ct]
  have rb:∀ (z:Int) (f:Bool→O R),NC (G3 z) f=f (decide (z<0)):=fun z f=>Us
  have rl:∀ (z:Int) (f:LA→Nat→O R),Co 1 (List.drop 1 (G3 z)) f=f (Ae (Ar z.natAbs)) (Ar z.natAbs).length:=fun z f=>Qk
  have l2:=(Bt F).2
  have l1:=(Bt L).2
  rw[rb,decide_eq_false (by omega),show((!false)==true)=true by rfl,ct,rl,A8c,A77 (a:=Ar (A2 n2 s2).natAbs) (b:=[1]) (m:=1) rfl rfl (C.le (by rw[D];omega)),Au4]
  by_cases k:(A2 n2 s2).natAbs=1
  ·rw[k,CN,show decide (([1]:List Nat)=[1])=true by decide,ct,mH,ct,Akl,mI L (C.le (by omega)),rl,k,CN]
   rw[A8h]
   have e2:cq ((A2 n1 s1:Int):Rat)=[.bool (decide (A2 n1 s1<0)),.imm (Ae (Ar (A2 n1 s1).natAbs)) (Ar (A2 n1 s1).natAbs).length 1 false false,.imm (Ae [1]) 1 1 false false]:=by
    unfold cq As9 RatD.av LS.av
    rw[Rat.num_intCast,Rat.den_intCast,CN];rfl
   rw[e2];rfl
  ·have S:decide (Ar (A2 n2 s2).natAbs=[1])=false:=by
    rw[decide_eq_false_iff_not];intro hh
    have:=congrArg val hh
    rw[Ak] at this;simp[val] at this;omega
   rw[S,cf]
   unfold IC
   have I:0<Nat.gcd (A2 n1 s1).natAbs (A2 n2 s2).natAbs:=Nat.gcd_pos_of_pos_right _ (by omega)
   have hgl:(Ar (Nat.gcd (A2 n1 s1).natAbs (A2 n2 s2).natAbs)).length≤s2.l.length:=Nat.le_trans (B6 (Nat.gcd_le_right _ (by omega))) (by rw[D];exact l2)
   have T:Nat.gcd (A2 n1 s1).natAbs (A2 n2 s2).natAbs∣val s1.l:=by rw[←G];exact Nat.gcd_dvd_left _ _
   have U:Nat.gcd (A2 n1 s1).natAbs (A2 n2 s2).natAbs∣val s2.l:=by rw[←D];exact Nat.gcd_dvd_right _ _
   obtain⟨q1,q2⟩:=Bac (A2 n1 s1) (A2 n2 s2).natAbs hw
   rw[mH,ct,mH,ct,Akl,Akl,A6e L F (C.le (by omega))]
   generalize hgd:Nat.gcd (A2 n1 s1).natAbs (A2 n2 s2).natAbs=g at *
   rw[show((Nat.beq 0 0)&&((Nat.beq (List.length (G3 (g:Int))) 2)&&(Nat.beq 2 2)))=true by rfl,ct,ct,show Nat.ble 2 (List.length (G3 (g:Int)))=true by rfl,ct,Bfd,dt L I T (C.le (by omega))]
   rw[show ∀ z:Int,((Nat.beq 0 0)&&((Nat.beq (List.length (G3 z)) 2)&&(Nat.beq 2 2)))=true from fun z=>rfl,ct,show((Nat.beq 0 0)&&((Nat.beq (List.length (G3 0)) 2)&&(Nat.beq 2 2)))=true by rfl,ct,ct,dt F I U (C.le (by omega))]
   have V:A2 n2 s2/(g:Int)=(((A2 n2 s2).natAbs/g:Nat):Int):=by
    rw[show A2 n2 s2=(((A2 n2 s2).natAbs:Nat):Int) by omega];rfl
   rw[show ∀ z:Int,((Nat.beq 0 0)&&((Nat.beq (List.length (G3 z)) 2)&&(Nat.beq 2 2)))=true from fun z=>rfl,ct,ct,rb,V,decide_eq_false (by omega),cf,show ∀ z:Int,Nat.ble 2 (List.length (G3 z))=true from fun z=>rfl,ct,rl,Int.natAbs_natCast,←q2]
   rw[←q1];rfl
theorem A8i {N:Nat} {z w:Int} {o o':Bool} {K:LA→O R} (k:0≤w) (C:fit (4*((Ar z.natAbs).length+(Ar w.natAbs).length)+10) N):Qu N (G3 z) o (G3 w) o' K=K (cq (mkRat z w.natAbs)):=by
 have:=xA (R:=R) (N:=N) (n1:=decide (z<0)) (s1:=.of (Ar z.natAbs) false false) (n2:=decide (w<0)) (s2:=.of (Ar w.natAbs) false false) (o1:=o) (o2:=o') (K:=K) (Ad _) (Ad _) (by rw[Jz];exact k) C
 rw[Jz,Jz] at this;exact this
theorem Yo {N:Nat} {x:RatD} {o:Bool} {K:LA→O R} (k:x.ok) (C:fit (8*x.m+10) N):Un N x.av o K=K (cq x.q):=by
 have m1:x.ns.l.length≤x.m:=Nat.le_max_left _ _
 have m2:x.ds.l.length≤x.m:=Nat.le_max_right _ _
 rw[om];unfold sj
 rw[show Nat.ble 2 (List.length x.av)=true by rfl,ct,Agg,Bbn,A6a,xA (s2:=.of x.ds.l false o) k.1 k.2 (by unfold A2;simp) (C.le (show 4*(x.ns.l.length+x.ds.l.length)+10≤_ by omega))]
 have:mkRat (A2 x.neg x.ns) (A2 false (.of x.ds.l false o)).natAbs=x.q:=by rw[Cz];rfl
 rw[this];exact An5 _ _
theorem OW {N:Nat} {x:RatD} {o:Bool} {K:LA→O R} (k:x.ok) (C:fit (8*x.m+10) N):CE N x.av o K=K (G3 (x.q.den:Int)):=by
 rw[wQ];unfold Ad9
 rw[Kw,ct,Eh,Yo k C]
 have:=Agg (R:=R) (x:=As9 x.q) (f:=fun e f=>K [(.bool false),(.imm e f 1 false false)])
 refine this.trans ?_
 unfold G3;rw[decide_eq_false (by omega),Int.natAbs_natCast];rfl
theorem xB (x:RatD) (k:x.ok):qm x.q≤x.m+1:=by
 have m1:x.ns.l.length≤x.m:=Nat.le_max_left _ _
 have m2:x.ds.l.length≤x.m:=Nat.le_max_right _ _
 unfold qm
 by_cases h:val x.ds.l=0
 ·have:x.q=0:=by unfold RatD.q;rw[h,Rat.mkRat_zero]
  rw[this,Rat.zero_num,Rat.zero_den,CN];simp[Eb]
 ·obtain⟨a1,_,a3⟩:=Agf (A2 x.neg x.ns) (val x.ds.l) h
  have C:x.q.num.natAbs≤val x.ns.l:=by show(mkRat _ _).num.natAbs≤_;rw[a1,Cz];exact Nat.div_le_self _ _
  have D:x.q.den≤val x.ds.l:=by show(mkRat _ _).den≤_;rw[a3];exact Nat.div_le_self _ _
  have c1:=Nat.le_trans (B6 C) (Bt k.1).2
  have F:=Nat.le_trans (B6 D) (Bt k.2).2
  omega
theorem Bbp (z:Int) (d:Nat) (k:Nat) (C:z.natAbs<4294967296 ^ k) (D:d<4294967296 ^ k) (F:d≠0):qm (mkRat z d)≤k:=by
 obtain⟨a1,_,a3⟩:=Agf z d F
 unfold qm
 have G:(mkRat z d).num.natAbs≤z.natAbs:=by rw[a1];exact Nat.div_le_self _ _
 have I:(mkRat z d).den≤d:=by rw[a3];exact Nat.div_le_self _ _
 have c1:=En (Nat.lt_of_le_of_lt G C)
 have L:=En (Nat.lt_of_le_of_lt I D)
 omega
theorem tD (q:Rat):q.num.natAbs<4294967296 ^ qm q:=A8e (Nat.le_max_left _ _)
theorem du (q:Rat):q.den<4294967296 ^ qm q:=A8e (Nat.le_max_right _ _)
theorem Agi (a b:Rat):qm (a+b)≤qm a+qm b+1:=by
 rw[Rat.add_def']
 have da:((a.den:Nat):Int).natAbs<4294967296 ^ qm a:=by rw[Int.natAbs_natCast];exact du a
 have db:((b.den:Nat):Int).natAbs<4294967296 ^ qm b:=by rw[Int.natAbs_natCast];exact du b
 refine Bbp _ _ _ ?_ ?_ (Nat.mul_ne_zero a.den_nz b.den_nz)
 ·refine pg (Oq (tD a) db) ?_
  have:=Oq (tD b) da
  rwa [Nat.add_comm (qm b)] at this
 ·rw[Nat.pow_succ,Nat.pow_add]
  have:=Nat.mul_lt_mul'' (du a) (du b)
  omega
theorem A8j (a b:Rat):qm (a*b)≤qm a+qm b:=by
 rw[Rat.mul_def']
 refine Bbp _ _ _ (Oq (tD a) (tD b)) ?_ (Nat.mul_ne_zero a.den_nz b.den_nz)
 rw[Nat.pow_add];exact Nat.mul_lt_mul'' (du a) (du b)
theorem A8k (a:Rat):qm (-a)=qm a:=by unfold qm;rw[Rat.neg_num,Rat.neg_den,Int.natAbs_neg]
theorem mJ (a b:Rat):qm (a - b)≤qm a+qm b+1:=by rw[Rat.sub_eq_add_neg,←A8k b];exact Agi _ _
theorem Bci {v:Int} (h:v.natAbs<18446744073709551616):qm (v:Rat)≤2:=by
 unfold qm;rw[Rat.num_intCast,Rat.den_intCast,CN]
 have:=TX h
 simp;omega
theorem Bfe {a:Int} {b:Nat}:mkRat a ((b:Int)).natAbs=mkRat a b:=by rw[Int.natAbs_natCast]
theorem A0s {N:Nat} {x:RatD} {o:Bool} {K:LA→O R} (C:x.ok) (k:fit (16*x.m+40) N):ot N x.av o K=K (cq (-x.q)):=by
 have hq:=xB x C
 have D:(Ar x.q.num.natAbs).length≤qm x.q:=Nat.le_max_left _ _
 have F:(Ar x.q.den).length≤qm x.q:=Nat.le_max_right _ _
 rw[wT];unfold Aef
 rw[Kw,ct,Eh,Yo C (k.le (by omega)),A24,ct,Ard,Bem (k.le (show(Ar x.q.num.natAbs).length≤_ by omega)),ct,OW C (k.le (by omega)),A8i (by omega) (k.le (show 4*((Ar (-x.q.num).natAbs).length+(Ar ((x.q.den:Nat):Int).natAbs).length)+10≤_ by rw[Int.natAbs_neg,Int.natAbs_natCast];omega)),Bfe]
 have:mkRat (-x.q.num) x.q.den=-x.q:=by rw[←Rat.neg_mkRat,Rat.mkRat_self]
 rw[this];exact An5 _ _
theorem A0t {N:Nat} {x y:RatD} {o o':Bool} {K:LA→O R} (D:x.ok) (F:y.ok) (C:fit (16*(x.m+y.m)+80) N):ov N x.av o y.av o' K=K (cq (x.q+y.q)):=by
 have G:=xB x D
 have I:=xB y F
 have x1:=tD x.q
 have x2:((x.q.den:Nat):Int).natAbs<4294967296 ^ qm x.q:=by rw[Int.natAbs_natCast];exact du _
 have y1:=tD y.q
 have y2:((y.q.den:Nat):Int).natAbs<4294967296 ^ qm y.q:=by rw[Int.natAbs_natCast];exact du _
 have L1:=En x1
 have L2:=En x2
 have L3:=En y1
 have L4:=En y2
 have z1:=Oq x1 y2
 have z2:=Oq y1 x2
 have z3:=pg (k:=qm x.q+qm y.q) z1 (by rwa [Nat.add_comm])
 have z4:=Oq x2 y2
 have M1:=En z1
 have M2:=En z2
 have M3:=En z3
 have M4:=En z4
 rw[wZ];unfold Aes
 rw[Kw,ct,Eh,Yo D (C.le (by omega)),Kw,ct,Eh,Yo F (C.le (by omega)),show ∀ q,((Nat.beq 0 0)&&((Nat.beq (List.length (cq q)) 3)&&(Nat.beq 3 3)))=true from fun q=>rfl,ct,show ∀ q,((Nat.beq 0 0)&&((Nat.beq (List.length (cq q)) 3)&&(Nat.beq 3 3)))=true from fun q=>rfl,ct,A24,ct,ct,OW F (C.le (by omega)),Ard,Bch (C.le (show(Ar x.q.num.natAbs).length+(Ar ((y.q.den:Nat):Int).natAbs).length≤_ by omega)),A24,ct,ct,OW D (C.le (by omega)),Ard,Bch (C.le (show(Ar y.q.num.natAbs).length+(Ar ((x.q.den:Nat):Int).natAbs).length≤_ by omega)),Ben (C.le (show(Ar (x.q.num*((y.q.den:Nat):Int)).natAbs).length+(Ar (y.q.num*((x.q.den:Nat):Int)).natAbs).length+1≤_ by omega)),ct,OW D (C.le (by omega)),ct,OW F (C.le (by omega)),Bch (C.le (show(Ar ((x.q.den:Nat):Int).natAbs).length+(Ar ((y.q.den:Nat):Int).natAbs).length≤_ by omega)),A8i (Int.mul_nonneg (by omega) (by omega)) (C.le (show 4*((Ar (x.q.num*((y.q.den:Nat):Int)+y.q.num*((x.q.den:Nat):Int)).natAbs).length+(Ar (((x.q.den:Nat):Int)*((y.q.den:Nat):Int)).natAbs).length)+10≤_ by omega))]
 have:mkRat (x.q.num*((y.q.den:Nat):Int)+y.q.num*((x.q.den:Nat):Int)) (((x.q.den:Nat):Int)*((y.q.den:Nat):Int)).natAbs=x.q+y.q:=by
  rw[Rat.add_def',Int.natAbs_mul,Int.natAbs_natCast,Int.natAbs_natCast]
 rw[this];exact An5 _ _
theorem A0u {N:Nat} {x y:RatD} {o o':Bool} {K:LA→O R} (D:x.ok) (k:y.ok) (C:fit (16*(x.m+y.m)+100) N):ow N x.av o y.av o' K=K (cq (x.q - y.q)):=by
 have F:=xB y k
 rw[w9];unfold Aew
 rw[Kw,ct,Kw,ct,Eh,Eh,A0s k (C.le (by omega))]
 have:=A0t (R:=R) (N:=N) (x:=x) (y:=As9 (-y.q)) (o:=o) (o':=false) (K:=fun e=>(cond ((Nat.beq 0 0)&&((Nat.beq (List.length e) 3)&&(Nat.beq 3 3))) (cond (Nat.ble 3 (List.length e)) (K (List.take 3 e)) none) none)) D (A8g _) (C.le (by rw[Bbo,A8k];omega))
 rw[A8f,←Rat.sub_eq_add_neg] at this
 exact this.trans (An5 _ _)
theorem Av7 {N:Nat} {x:RatD} {o:Bool} {K:Int→O R} (k:x.ok) (C:fit (8*x.m+10) N):cU N x.av o K=K x.q.num.sign:=by
 have hq:=xB x k
 have D:(Ar x.q.num.natAbs).length≤qm x.q:=Nat.le_max_left _ _
 rw[oz];unfold sk
 rw[Kw,ct,Eh,Yo k C,A24,ct,Ard,Bdt (C.le (show(Ar x.q.num.natAbs).length≤_ by omega))]
theorem A8l (a b:Rat):(a - b).num.sign=GE a b:=by
 unfold GE
 by_cases h:a<b
 ·rw[if_pos h]
  have k:a - b<0:=by grind
  have:(a - b).num<0:=by
   apply Int.not_le.1;intro C
   exact absurd (Rat.num_nonneg.1 C) (Rat.not_le.2 k)
  exact Int.sign_eq_neg_one_of_neg this
 ·rw[if_neg h]
  by_cases C:b<a
  ·rw[if_pos C]
   have k:0<a - b:=by grind
   have F:0≤(a - b).num:=Rat.num_nonneg.2 (Rat.le_of_lt k)
   have G:(a - b).num≠0:=fun D=>by
    have:=Rat.num_eq_zero.1 D
    rw[this] at k;exact absurd k Rat.lt_irrefl
   exact Int.sign_eq_one_of_pos (by omega)
  ·rw[if_neg C]
   have:a=b:=Rat.le_antisymm (Rat.not_lt.1 C) (Rat.not_lt.1 h)
   rw[this,Rat.sub_self];rfl
theorem Agj {N:Nat} {x y:RatD} {o o':Bool} {K:Int→O R} (k:x.ok) (C:y.ok) (D:fit (16*(x.m+y.m)+100) N):G8 N x.av o y.av o' K=K (GE x.q y.q):=by
 have F:=xB x k
 have G:=xB y C
 have hs:=mJ x.q y.q
 rw[WP];unfold TJ
 rw[Kw,ct,Kw,ct,Eh,Eh,A0u k C D]
 have:=Av7 (R:=R) (N:=N) (x:=As9 (x.q - y.q)) (o:=false) (K:=fun g=>K g) (A8g _) (D.le (by rw[Bbo];omega))
 rw[A8f,A8l] at this
 exact this
theorem Agk {N:Nat} {v:Int} {K:LA→O R} (k:-9223372036854775808≤v∧v≤9223372036854775807) (hN:4000≤N):Cp N v K=K (cq (v:Rat)):=by
 have C:=TX (show v.natAbs<18446744073709551616 by omega)
 rw[VY];unfold SK
 rw[kA k (by omega),kA (by omega) (by omega),A8i (by omega) ⟨show 100*(4*((Ar v.natAbs).length+(Ar (1:Int).natAbs).length)+10)+1000≤N by (rw[show(1:Int).natAbs=1 by rfl,CN];simp;omega),show 4*((Ar v.natAbs).length+(Ar (1:Int).natAbs).length)+10≤1000000000 by (rw[show(1:Int).natAbs=1 by rfl,CN];simp;omega)⟩]
 have:mkRat v (1:Int).natAbs=(v:Rat):=A8h v
 rw[this];exact An5 _ _
end
end Gx

namespace Gx
open Go Go.Proofs
section
variable {R:Type}
theorem Akq (x:RatD):List.take 3 x.av=x.av:=rfl
theorem b3 (x:RatD):Nat.ble 3 (List.length x.av)=true:=rfl
theorem c3 (x:RatD):((Nat.beq 0 0)&&((Nat.beq (List.length x.av) 3)&&(Nat.beq 3 3)))=true:=rfl
theorem c4 (x y:RatD):((Nat.beq (List.length x.av) 3)&&((Nat.ble 3 (List.length y.av))&&(!false)))=true:=rfl
theorem Beo (x:RatD):((Nat.beq (List.length x.av) 3)&&(true&&(!false)))=true:=rfl
theorem A8m (x y:RatD):setCells x.av 0 y.av=y.av:=rfl
section
variable {N:Nat} {X:O R} {K:LA→O R} {x y:RatD} {o o':Bool} {p q:Rat}
theorem Bcj (k:x.can p) (C:y.can q) (F:fit (8*(qm p+qm q)+40) N) (h:∀ d:RatD,d.can (p+q)→K d.av=X):Zu N x.av o y.av o' K=X:=by
 obtain⟨d,D,e⟩:=tC (R:=R) (N:=N) (o:=o) (o':=o') k.ok C.ok (by rw[k.m,C.m];exact F)
 rw[e];exact h d (by rw[k.q,C.q] at D;exact D)
theorem Bck (k:x.can p) (C:y.can q) (F:fit (8*(qm p+qm q)+40) N) (h:∀ d:RatD,d.can (p - q)→K d.av=X):MB N x.av o y.av o' K=X:=by
 obtain⟨d,D,e⟩:=An4 (R:=R) (N:=N) (o:=o) (o':=o') k.ok C.ok (by rw[k.m,C.m];exact F)
 rw[e];exact h d (by rw[k.q,C.q] at D;exact D)
theorem Bcl (k:x.can p) (C:y.can q) (F:fit (8*(qm p+qm q)+40) N) (h:∀ d:RatD,d.can (p*q)→K d.av=X):mA N x.av o y.av o' K=X:=by
 obtain⟨d,D,e⟩:=A6b (R:=R) (N:=N) (o:=o) (o':=o') k.ok C.ok (by rw[k.m,C.m];exact F)
 rw[e];exact h d (by rw[k.q,C.q] at D;exact D)
theorem Bcm (k:x.can p) (C:y.can q) (F:fit (8*(qm p+qm q)+40) N) (h:∀ d:RatD,d.can (if p≤q then p else q)→K d.av=X):si N x.av o y.av o' K=X:=by
 obtain⟨d,D,e⟩:=A6c (R:=R) (N:=N) (o:=o) (o':=o') k.ok C.ok (by rw[k.m,C.m];exact F)
 rw[e];exact h d (by rw[k.q,C.q] at D;exact D)
theorem P3 {v:Int} (k:-9223372036854775808≤v∧v≤9223372036854775807) (hN:4≤N) (h:∀ d:RatD,d.can (v:Rat)→K d.av=X):Cr N v K=X:=by
 obtain⟨d,C,e⟩:=Ako (R:=R) (N:=N) k hN
 rw[e];exact h d C
end
theorem Bad {q:Rat}:decide (q.num.sign≤0)=decide (q≤0):=by
 have e:q≤0↔q.num≤0:=by
  rw[Rat.le_iff_sub_nonneg,←Rat.num_nonneg,Rat.sub_eq_add_neg,Rat.zero_add,Rat.neg_num];omega
 rw[decide_eq_decide,e]
 rcases Int.lt_trichotomy q.num 0 with h | h | h
 ·rw[Int.sign_eq_neg_one_of_neg h];omega
 ·rw[h];simp
 ·rw[Int.sign_eq_one_of_pos h];omega
theorem qi {v:Int} (h:-9223372036854775808≤v∧v≤9223372036854775807):qm (v:Rat)≤2:=Bci (by omega)
def dv:Rat→List SegD→Rat
 | _,[]=>0
 | Vl,s::r=>if Vl≤0 then 0 else (s.price:Rat)*(if Vl≤(s.width:Rat) then Vl else (s.width:Rat))+dv (Vl - (if Vl≤(s.width:Rat) then Vl else (s.width:Rat))) r
def Bdu (l:List SegD):Prop:=∀ s ∈ l,-1048576≤s.width∧s.width≤1048576∧-1048576≤s.price∧s.price≤1048576
theorem A8n {N:Nat} {X:O R} {K:LA→O R} {v:Int} {x:RatD} {q:Rat} {o:Bool} (C:-9223372036854775808≤v∧v≤9223372036854775807) (F:x.can q) (D:fit (8*(2+qm q)+40) N) (h:∀ d:RatD,d.can ((v:Rat)*q)→K d.av=X):c0 N v x.av o K=X:=by
 rw[pE];unfold sn
 refine P3 C (by have:=D.1;omega) fun d G=>?_
 simp only[Akq,b3,ct]
 refine Bcl G F (D.le (by have:=qi C;omega)) fun d' k=>?_
 simp only[Akq,b3,c3,ct]
 exact h d' k
theorem Bae {N:Nat} {X:O R} {K:LA→O R} {l:List SegD} {d:Bool} {A:Nat} (hl:Bdu l) (h8:l.length≤8) (hA:2≤A) (G:fit (100*A+6000) N):∀ (m j fuel:Nat) (x y:RatD) (p q:Rat),j+m=l.length→m<fuel→x.can p→y.can q→qm p≤A+3*j→qm q≤2+j*(A+31) →
  (∀ d:RatD,d.can (q+dv p (l.drop j))→K d.av=X)→Ep N K (l.flatMap SegD.av) l.length d fuel (l.length:Int) (j:Int) x.av y.av=X:=by
 intro m
 induction m with
 | zero =>
  intro j fuel x y p q hj S I L _ _ hX
  obtain⟨fuel,rfl⟩:∃ k,fuel=k+1:=⟨fuel - 1,by omega⟩
  rw[Ep];unfold Lo
  rw[Ku (by omega),cf]
  simp only[Akq,b3,c3,ct]
  rw[E9 (l:=l) (by omega)] at hX
  exact hX y (by rw[dv,Rat.add_zero];exact L)
 | succ m ih =>
  intro j fuel x y p q hj S I L hp hq hX
  obtain⟨fuel,rfl⟩:∃ k,fuel=k+1:=⟨fuel - 1,by omega⟩
  rw[Ep];unfold Lo
  have h:j<l.length:=by omega
  have T:j≤8:=by omega
  have hr:=hl l[j] (List.getElem_mem h)
  have hjA:j*(A+31)≤8*(A+31):=Nat.mul_le_mul_right _ T
  rw[Jh h,ct,Aa h,ct,sv h]
  have p0:List.take 2 ((AV.int .i64 l[j].width)::(AV.int .i64 l[j].price)::(l.drop (j+1)).flatMap SegD.av)=[(.int .i64 l[j].width),(.int .i64 l[j].price)]:=rfl
  rw[p0,show Nat.ble 2 (List.length ((AV.int .i64 l[j].width)::(AV.int .i64 l[j].price)::(l.drop (j+1)).flatMap SegD.av))=true by simp,ct]
  rw[show((!d)||Bb [(AV.int .i64 l[j].width),(.int .i64 l[j].price)])=true by cases d<;>rfl,ct]
  rw[show((Nat.beq (List.length [(AV.int .i64 l[j].width),(.int .i64 l[j].price)]) 2)&&((Nat.ble 2 2)&&(!false)))=true from rfl,ct]
  simp only[Akq,b3,c3,ct,Af5,gI]
  rw[Lr I.ok (G.le (by rw[I.m];omega)),I.q,Bad]
  rw[C5 h,dv] at hX
  by_cases D:p≤0
  ·rw[decide_eq_true D,ct]
   rw[if_pos D,Rat.add_zero] at hX
   exact hX y L
  ·rw[decide_eq_false D,cf]
   rw[if_neg D] at hX
   refine P3 (by omega) (by have:=G.1;omega) fun wd U=>?_
   have hqw:=qi (v:=l[j].width) (by omega)
   have hqp:=qi (v:=l[j].price) (by omega)
   refine Bcm I U (G.le (by omega)) fun pd F=>?_
   simp only[Akq,b3,c3,ct]
   generalize C:(if p≤(l[j].width:Rat) then p else (l[j].width:Rat))=part at F hX
   have M:qm part≤A+3*j:=by rw[←C];split<;>omega
   refine A8n (by omega) F (G.le (by omega)) fun td V=>?_
   have hqt:qm ((l[j].price:Rat)*part)≤2+(A+3*j):=by have:=A8j (l[j].price:Rat) part;omega
   refine Bcj L V (G.le (by omega)) fun ad Y=>?_
   rw[Beo,ct]
   refine Bck I F (G.le (by omega)) fun sd hsd=>?_
   rw[Beo,ct,A8m,A8m]
   rw[wS (by omega)]
   have hqa:qm (q+(l[j].price:Rat)*part)≤2+(j+1)*(A+31):=by
    have:=Agi q ((l[j].price:Rat)*part)
    rw[Nat.add_mul];omega
   have hqs:qm (p - part)≤A+3*(j+1):=by
    rw[←C]
    split
    ·rw[Rat.sub_self]
     have:qm ((0:Int):Rat)≤2:=qi (by omega)
     have e:((0:Int):Rat)=0:=rfl
     rw[e] at this;omega
    ·have:=mJ p (l[j].width:Rat);omega
   refine ih (j+1) fuel sd ad _ _ (by omega) (by omega) hsd Y hqs hqa fun d hd=>hX d ?_
   rw[←Rat.add_assoc];exact hd
def RatD.is (x:RatD) (q:Rat) (m:Nat):Prop:=x.ok∧x.q=q∧x.m≤m
theorem RatD.can.is {x:RatD} {q:Rat} {m:Nat} (h:x.can q) (k:qm q≤m):x.is q m:=⟨h.ok,h.q,by rw[h.m];exact k⟩
def Z2:RatD:=⟨false,.nil,.nil⟩
theorem Ut {m:Nat}:Z2.is 0 m:=by
 refine⟨⟨?_,?_⟩,?_,?_⟩
 ·intro x k;simp[Z2,LS.l] at k
 ·intro x k;simp[Z2,LS.l] at k
 ·simp[Z2,RatD.q,LS.l,A2,val]
 ·simp[Z2,RatD.m,LS.l]
theorem RatD.is.qm {x:RatD} {q:Rat} {m:Nat} (h:x.is q m):qm q≤m+1:=by
 have:=xB x h.1
 rw[h.2.1] at this;have:=h.2.2;omega
section
variable {N:Nat} {X:O R} {K:LA→O R} {K':Int→O R} {x y:RatD} {o o':Bool} {p q:Rat} {m n:Nat}
theorem Are (k:x.is p m) (C:y.is q n) (F:fit (8*(m+n)+40) N) (h:∀ d:RatD,d.can (p - q)→K d.av=X):MB N x.av o y.av o' K=X:=by
 obtain⟨d,D,e⟩:=An4 (R:=R) (N:=N) (o:=o) (o':=o') k.1 C.1 (F.le (by have:=k.2.2;have:=C.2.2;omega))
 rw[e];exact h d (by rw[k.2.1,C.2.1] at D;exact D)
theorem A6f (k:x.is p m) (C:y.is q n) (D:fit (4*(m+n)+10) N):Fg N x.av o y.av o' K'=K' (GE p q):=by
 rw[MG k.1 C.1 (D.le (by have:=k.2.2;have:=C.2.2;omega)),k.2.1,C.2.1]
theorem A8o (k:x.is p m) (C:y.is q n) (D:fit (16*(m+n)+100) N):G8 N x.av o y.av o' K'=K' (GE p q):=by
 rw[Agj k.1 C.1 (D.le (by have:=k.2.2;have:=C.2.2;omega)),k.2.1,C.2.1]
theorem XB {v:Int} (k:-9223372036854775808≤v∧v≤9223372036854775807) (hN:4000≤N):Cp N v K=K (As9 (v:Rat)).av:=Agk k hN
end
theorem Bdv {q:Rat} {m:Nat} (h:qm q≤m):(As9 q).is q m:=(pi q).is h
theorem Bcn {v:Int} (h:-9223372036854775808≤v∧v≤9223372036854775807):(As9 (v:Rat)).is v 2:=Bdv (qi h)
theorem A0v {p q:Rat}:decide (GE p q≥0)=decide (q≤p):=by
 rw[decide_eq_decide];unfold GE
 by_cases h:p<q
 ·rw[if_pos h];simp[Rat.not_le.2 h]
 ·rw[if_neg h];have:=Rat.not_lt.1 h;simp only[this,iff_true];split<;>omega
theorem A0w {p q:Rat}:decide (GE p q≤0)=decide (p≤q):=by rw[decide_eq_decide];exact Arc
def A0x (p:Rat) (lo hi:Int):Bool:=decide ((lo:Rat)≤p)&&decide (p≤(hi:Rat))
theorem dw {N:Nat} {K:Bool→O R} {x:RatD} {p:Rat} {m:Nat} {o:Bool} {lo hi:Int} (k:x.is p m) (C:-9223372036854775808≤lo∧lo≤9223372036854775807) (D:-9223372036854775808≤hi∧hi≤9223372036854775807) (F:fit (4*(m+2)+10) N) (hN:4≤N):Wu N x.av o lo hi K=K (A0x p lo hi):=by
 rw[j7];unfold mC
 rw[b3,ct,Akq]
 refine P3 C hN fun a G=>?_
 rw[A6f k (G.is (qi C)) F,A0v]
 refine(congrArg (cond _ · _) (P3 (X:=K (decide (p≤(hi:Rat)))) D hN fun b I=>?_)).trans ?_
 ·rw[A6f k (I.is (qi D)) F,A0w];rfl
 ·unfold A0x;cases decide ((lo:Rat)≤p)<;>rfl
theorem Av8 {N:Nat} {K:Bool→O R} {x:RatD} {p:Rat} {m:Nat} {o:Bool} {lo hi:Int} (k:x.is p m) (C:-9223372036854775808≤lo∧lo≤9223372036854775807) (D:-9223372036854775808≤hi∧hi≤9223372036854775807) (F:fit (16*(m+2)+100) N) (hN:4000≤N):GD N x.av o lo hi K=K (A0x p lo hi):=by
 rw[d5];unfold dZ
 rw[b3,ct,Akq,XB C hN,A8o k (Bcn C) F,A0v,XB D hN,A8o k (Bcn D) F,A0w]
 unfold A0x;cases decide ((lo:Rat)≤p)<;>rfl
theorem A0y {N:Nat} {X:O R} {K:LA→O R} {u:UnitD} {x:RatD} {o o':Bool} {p:Rat} {m:Nat} (C:x.is p m) (F:Bdu u.segs.l) (G:u.segs.l.length≤8) (M:-1048576≤u.min∧u.min≤1048576) (k:fit (100*(m+8)+6000) N)
  (h:∀ d:RatD,d.can (dv (p - (u.min:Rat)) u.segs.l)→K d.av=X):Kh N u.av o x.av o' K=X:=by
 rw[FQ];unfold Ru
 rw[b3,ct,Akq,u2]
 refine P3 (by omega) (by have:=k.1;omega) fun a I=>?_
 refine Are C (I.is (qi (by omega))) (k.le (by omega)) fun r hr=>?_
 rw[c3,ct]
 refine P3 (by omega) (by have:=k.1;omega) fun z L=>?_
 rw[c3,ct,u4]
 have hq:qm (p - (u.min:Rat))≤m+4:=by have:=mJ p (u.min:Rat);have:=C.qm;have:=qi (v:=u.min) (by omega);omega
 refine Bae (A:=m+4) F G (by omega) (k.le (by omega)) u.segs.l.length 0 N r z (p - (u.min:Rat)) ((0:Int):Rat) (by omega) (by have:=k.1;omega) hr L (by omega) (by have:=qi (v:=0) (by omega);omega) fun d D=>?_
 exact h d (by rw[List.drop_zero,show(((0:Int):Rat))=0 from rfl,Rat.zero_add] at D;exact D)
end
end Gx

namespace Gx
open Go Go.Proofs
section
variable {R:Type}
theorem tE {u:UnitD} {h:Int} (k:D3 u h=true):(0≤u.min∧u.min≤1048576)∧(0≤u.max∧u.max≤1048576)∧u.min≤u.max:=by
 simp only[D3,Bool.and_eq_true,Fc,decide_eq_true_eq] at k
 exact⟨k.2.2.1,k.2.2.2.1,k.2.2.2.2.2.2.2.1⟩
theorem UC {u:UnitD} {h:Int} (k:D3 u h=true):u.segs.l.length≤8∧Gi (-1048576) u.segs.l=true∧ZQ u.segs.l=u.max - u.min:=by
 simp only[D3,Bool.and_eq_true] at k
 have:=k.2.2.2.2.2.2.2.2.2.2.2.2.2.2.2.1
 simpa[js] using this
theorem A25:∀ {l:List SegD} {p:Int},Gi p l=true→(∀ s ∈ l,1≤s.width∧s.width≤1048576∧-1048576≤s.price∧s.price≤1048576)
 | [],_,_,_,hs=>by simp at hs
 | a::r,p,h,s,hs=>by
  simp only[Gi,Bool.and_eq_true,Fc,decide_eq_true_eq] at h
  rcases List.mem_cons.1 hs with rfl | hs
  ·omega
  ·exact A25 h.2.2.2 s hs
theorem tF {u:UnitD} {h:Int} (k:D3 u h=true):Bdu u.segs.l:=fun s hs=>by
 have:=A25 (UC k).2.1 s hs;omega
def Bep (u:UnitD) (p:Rat):Int:=cond (D3 u 24) (cond (A0x p u.min u.max) 0 3) 1
def Baf (u:UnitD) (p:Rat):Rat:=cond (D3 u 24&&A0x p u.min u.max) (dv (p - (u.min:Rat)) u.segs.l) 0
theorem Av9 {A:Nat}:∀ (l:List SegD) (p:Rat),Bdu l→2≤A→qm p≤A→qm (dv p l)≤2+l.length*(A+3*l.length+31)
 | [],p,_,_,_=>by
  have:qm (0:Rat)≤2:=qi (v:=0) (by omega)
  rw[dv];simpa using this
 | s::r,p,hs,hA,M=>by
  have hr:=hs s (by simp)
  have G:=qi (v:=s.width) (by omega)
  have I:=qi (v:=s.price) (by omega)
  have S:qm (0:Rat)≤2:=qi (v:=0) (by omega)
  rw[dv]
  split
  ·omega
  ·generalize k:(if p≤(s.width:Rat) then p else (s.width:Rat))=part
   have D:qm part≤A:=by rw[←k];split<;>omega
   have C:qm (p - part)≤A+3:=by
    rw[←k];split
    ·rw[Rat.sub_self];omega
    ·have:=mJ p (s.width:Rat);omega
   have L:=Av9 (A:=A+3) r (p - part) (fun s F=>hs s (by simp[F])) (by omega) C
   have T:=A8j (s.price:Rat) part
   have U:=Agi ((s.price:Rat)*part) (dv (p - part) r)
   rw[List.length_cons]
   have:A+3+3*r.length+31=A+3*(r.length+1)+31:=by omega
   rw[this] at L
   rw[Nat.add_mul];omega
theorem Bco {u:UnitD} {p:Rat} {m:Nat} (D:qm p≤m+1):qm (Baf u p)≤8*m+800:=by
 have F:qm (0:Rat)≤2:=qi (v:=0) (by omega)
 unfold Baf
 cases k:D3 u 24 with
 | false=>simp only[Bool.false_and,cond_false];omega
 | true =>
  cases A0x p u.min u.max with
  | false=>simp only[Bool.and_false,cond_false];omega
  | true =>
   simp only[Bool.and_self,cond_true]
   have G:=tE k
   have C:=UC k
   have hq:qm (p - (u.min:Rat))≤m+4:=by have:=mJ p (u.min:Rat);have:=qi (v:=u.min) (by omega);omega
   have:=Av9 (A:=m+4) u.segs.l _ (tF k) (by omega) hq
   have I:u.segs.l.length*(m+4+3*u.segs.l.length+31)≤8*(m+4+24+31):=Nat.mul_le_mul C.1 (by omega)
   omega
theorem Agl {N:Nat} {X:O R} {K:LA→Int→O R} {u:UnitD} {x:RatD} {o o':Bool} {p:Rat} {m:Nat} (C:x.is p m) (I:u.away.l.length≤1000) (D:fit (200*(m+8)+12000) N) (hN:4000≤N)
  (h:∀ d:RatD,d.is (Baf u p) (8*m+800)→K d.av (Bep u p)=X):Of N u.av o x.av o' K=X:=by
 rw[FS];unfold Zv
 simp only[Dr,B8,ct,b3,Akq,u2,u3]
 rw[Rc (by omega) (by omega) (by omega)]
 unfold Bep at h
 cases k:D3 u 24 with
 | false =>
  rw[k] at h
  exact h Z2 (by unfold Baf;rw[k];exact Ut)
 | true =>
  have L:=tE k
  have F:=UC k
  rw[k] at h
  rw[show(!true)=false from rfl,cf,dw C (by omega) (by omega) (D.le (by omega)) (by omega)]
  cases hi:A0x p u.min u.max with
  | false =>
   rw[hi] at h
   exact h Z2 (by unfold Baf;rw[k,hi];exact Ut)
  | true =>
   rw[hi] at h
   rw[show(!true)=false from rfl,cf]
   refine A0y C (tF k) F.1 (by omega) (D.le (by omega)) fun d G=>?_
   rw[c3,ct,Akq,b3,ct]
   have e:Baf u p=dv (p - (u.min:Rat)) u.segs.l:=by unfold Baf;rw[k,hi];rfl
   exact h d ((e▸G:d.can (Baf u p)).is (Bco C.qm))
end
end Gx

namespace Gx
open Go Go.Proofs
section
variable {R:Type}
def Awa (p:Rat):Int→Bool→Rat→List SegD→Bool×Rat
 | _,b,q,[]=>(b,q)
 | a,b,q,s::r=>cond (decide (GE p (a:Rat)>0)&&decide (GE p ((a+s.width:Int):Rat)≤0)) (Awa p (a+s.width) true (s.price:Rat) r) (Awa p (a+s.width) b q r)
def Akr (p:Rat):Int→Bool→Rat→List SegD→Bool×Rat
 | _,b,q,[]=>(b,q)
 | a,b,q,s::r=>cond (decide (GE p (a:Rat)≥0)&&decide (GE p ((a+s.width:Int):Rat)<0)) (Akr p (a+s.width) true (s.price:Rat) r) (Akr p (a+s.width) b q r)
theorem Bag {N:Nat} {X:O R} {K:LA→LA→Bool→Bool→O R} {l:List SegD} {d:Bool} {x:RatD} {o:Bool} {p:Rat} {m:Nat} (hx:x.is p m) (hl:Bdu l) (h8:l.length≤8) (hf:fit (4*(m+2)+10) N) (hN:4000≤N):∀ (k j fuel:Nat) (a:Int) (bl bh:Bool) (ql qh:Rat) (xl xh:RatD),j+k=l.length→k<fuel→(-1048576*((j:Int)+1)≤a∧a≤1048576*((j:Int)+1))→xl.is ql 2→xh.is qh 2 →
  (∀ (y z:RatD),y.is (Awa p a bl ql (l.drop j)).2 2→z.is (Akr p a bh qh (l.drop j)).2 2→K y.av z.av (Awa p a bl ql (l.drop j)).1 (Akr p a bh qh (l.drop j)).1=X) →
  F7 N K (l.flatMap SegD.av) l.length d o x.av fuel bl bh a (l.length:Int) (j:Int) xl.av xh.av=X:=by
 intro k
 induction k with
 | zero =>
  intro j fuel a bl bh ql qh xl xh hj T ha L M hX
  obtain⟨fuel,rfl⟩:∃ k,fuel=k+1:=⟨fuel - 1,by omega⟩
  rw[F7];unfold Rv
  rw[Ku (by omega),cf]
  rw[E9 (l:=l) (by omega)] at hX
  exact hX xl xh L M
 | succ k ih =>
  intro j fuel a bl bh ql qh xl xh hj T ha L M hX
  obtain⟨fuel,rfl⟩:∃ k,fuel=k+1:=⟨fuel - 1,by omega⟩
  rw[F7];unfold Rv
  have h:j<l.length:=by omega
  have hr:=hl l[j] (List.getElem_mem h)
  rw[Jh h,ct,Aa h,ct,sv h]
  have p0:List.take 2 ((AV.int .i64 l[j].width)::(AV.int .i64 l[j].price)::(l.drop (j+1)).flatMap SegD.av)=[(.int .i64 l[j].width),(.int .i64 l[j].price)]:=rfl
  rw[p0,show Nat.ble 2 (List.length ((AV.int .i64 l[j].width)::(AV.int .i64 l[j].price)::(l.drop (j+1)).flatMap SegD.av))=true by simp,ct]
  rw[show((!d)||Bb [(AV.int .i64 l[j].width),(.int .i64 l[j].price)])=true by cases d<;>rfl,ct]
  rw[show((Nat.beq (List.length [(AV.int .i64 l[j].width),(.int .i64 l[j].price)]) 2)&&((Nat.ble 2 2)&&(!false)))=true from rfl,ct]
  simp only[Akq,b3,ct,Af5,gI]
  have e1:IntKind.wrap .i64 (a+l[j].width)=a+l[j].width:=i64 (by omega)
  rw[e1]
  refine P3 (by omega) (by omega) fun f1 U=>?_
  rw[A6f hx (U.is (qi (by omega))) hf]
  refine P3 (by omega) (by omega) fun f2 V=>?_
  rw[A6f hx (V.is (qi (by omega))) hf]
  rw[C5 h] at hX
  simp only[Awa,Akr] at hX
  generalize hA:GE p (a:Rat)=A at hX ⊢
  generalize hB:GE p ((a+l[j].width:Int):Rat)=B at hX ⊢
  have second:∀ (D:Bool) (F:Rat) (G:RatD),G.is F 2 →
    (∀ (y z:RatD),y.is (Awa p (a+l[j].width) D F (l.drop (j+1))).2 2→z.is (cond (decide (A≥0)&&decide (B<0)) (Akr p (a+l[j].width) true (l[j].price:Rat) (l.drop (j+1))) (Akr p (a+l[j].width) bh qh (l.drop (j+1)))).2 2→K y.av z.av (Awa p (a+l[j].width) D F (l.drop (j+1))).1 (cond (decide (A≥0)&&decide (B<0)) (Akr p (a+l[j].width) true (l[j].price:Rat) (l.drop (j+1))) (Akr p (a+l[j].width) bh qh (l.drop (j+1)))).1=X) →
    Og N (F7 N K (l.flatMap SegD.av) l.length d o x.av fuel) K bh A B (l.flatMap SegD.av) l.length d (l.length:Int) (j:Int) o x.av xh.av D (a+l[j].width) G.av (setCells [(.int .i64 0),(.int .i64 0)] 0 [(.int .i64 l[j].width),(.int .i64 l[j].price)])=X:=by
   intro D F G I hX'
   unfold Og
   rw[gI,wS (by omega)]
   cases C:(decide (A≥0)&&decide (B<0)) with
   | true =>
    rw[C] at hX'
    simp only[Bool.and_eq_true] at C
    rw[C.1,C.2]
    refine P3 (by omega) (by omega) fun f3 S=>?_
    rw[c4,ct,A8m]
    exact ih (j+1) fuel _ _ _ _ _ _ _ (by omega) (by omega) (by omega) I (S.is (qi (by omega))) hX'
   | false =>
    rw[C] at hX'
    have go:=ih (j+1) fuel (a+l[j].width) D bh F qh G xh (by omega) (by omega) (by omega) I M hX'
    rw[go]
    cases Y:decide (A≥0) with
    | false=>rfl
    | true =>
     rw[Y,Bool.true_and] at C
     rw[C];rfl
  cases C:(decide (A>0)&&decide (B≤0)) with
  | true =>
   rw[C] at hX
   simp only[Bool.and_eq_true] at C
   rw[C.1,C.2]
   refine P3 (by omega) (by omega) fun f3 S=>?_
   rw[Beo,ct,A8m]
   exact second true _ f3 (S.is (qi (by omega))) hX
  | false =>
   rw[C] at hX
   rw[second bl ql xl L hX]
   cases Y:decide (A>0) with
   | false=>rfl
   | true =>
    rw[Y,Bool.true_and] at C
    rw[C];rfl
def Beq (u:UnitD) (p:Rat):Bool:=D3 u 24&&A0x p u.min u.max
def Bec (u:UnitD) (p:Rat):Bool×Rat:=cond (Beq u p) (Awa p u.min false 0 u.segs.l) (false,0)
def Bed (u:UnitD) (p:Rat):Bool×Rat:=cond (Beq u p) (Akr p u.min false 0 u.segs.l) (false,0)
theorem Awb {N:Nat} {X:O R} {K:LA→LA→Bool→Bool→O R} {u:UnitD} {x:RatD} {o o':Bool} {p:Rat} {m:Nat} (C:x.is p m) (G:u.away.l.length≤1000) (D:fit (200*(m+8)+12000) N) (hN:4000≤N)
  (h:∀ y z:RatD,y.is (Bec u p).2 2→z.is (Bed u p).2 2→K y.av z.av (Bec u p).1 (Bed u p).1=X):Tk N u.av o x.av o' K=X:=by
 rw[WR];unfold CF
 simp only[Dr,B8,ct,b3,Akq,u2,u3]
 rw[Rc (by omega) (by omega) (by omega)]
 unfold Bec Bed Beq at h
 cases k:D3 u 24 with
 | false =>
  rw[k] at h
  exact h Z2 Z2 Ut Ut
 | true =>
  have I:=tE k
  have F:=UC k
  rw[k,Bool.true_and] at h
  rw[show((!true)==false)=true from rfl,ct,dw C (by omega) (by omega) (D.le (by omega)) (by omega)]
  cases hi:A0x p u.min u.max with
  | false =>
   rw[hi] at h
   exact h Z2 Z2 Ut Ut
  | true =>
   rw[hi] at h
   rw[show(cond false true (!true))=false from rfl,cf]
   unfold Uo Zw
   rw[u2,u4]
   exact Bag C (tF k) F.1 (D.le (by omega)) hN u.segs.l.length 0 N u.min false false 0 0 Z2 Z2 (by omega) (by omega) (by omega) Ut Ut h
end
end Gx

namespace Gx
open Go Go.Proofs
set_option maxRecDepth 100000
section
variable {R:Type}
def Bdf:UnitD:={ name:=[],bus:=0,min:=10,max:=40,segs:=.of [⟨20,3⟩,⟨10,5⟩] false false,noLoad:=0,rampUp:=5,rampDown:=10,startRamp:=15,stopRamp:=15,upTime:=0,downTime:=0,startTime:=0,hotCost:=0,coldCost:=0,hotHours:=0,reserve:=0,reservePrice:=0,away:=.nil,state:=2,hours:=1,output:=12 }
theorem Bah {N:Nat} {K:LA→O R}:Q6 N K=K Bdf.av:=by rw[IT];rfl
def Ata:LA:=[.int .i64 2,.int .i64 1]
def A8p:LA:=[.int .i64 0,.int .i64 1]
def A8q:LA:=[.int .i64 2,.int .i64 2,.int .i64 0]
theorem Bai {n:Nat} {o:Bool} {K:LA→O R}:TM (n+64) Bdf.av o K=K []:=by rw[dA];kernel_rfl
theorem pj {n:Nat} {o:Bool} {K:Bool→O R}:Oc (n+64) Bdf.av o K=K true:=by
 rw[Nc (by omega)];rfl
theorem Arf {n:Nat} {o:Bool} {K:Int→Int→O R}:JU (n+64) Bdf.av o K=K 1 1:=by
 rw[dB];unfold pQ
 rw[Dr,ct,B8,pj];kernel_rfl
theorem Baj {n:Nat} {o:Bool} {K:LA→O R}:Wv (n+64) Bdf.av o K=K Ata:=by
 rw[FW];unfold JV
 simp only[Dr,ct,B8,pj,Arf];kernel_rfl
theorem Bcp {n:Nat} {o o':Bool} {K:Int→O R}:K5 (n+64) Bdf.av o Ata o' K=K 1:=by
 rw[Zy];unfold Up Oh Rw
 simp only[Dr,ct,B8,pj,Arf];kernel_rfl
theorem Arg {n:Nat} {o:Bool} {K:LA→Nat→O R}:Xi (n+64) Bdf.av o Ata false K=K (A8p++Ata) 2:=by
 rw[dH];unfold dG
 rw[show List.take 2 Ata=Ata from rfl]
 simp only[Dr,ct,B8,Bcp,Arf];kernel_rfl
theorem A8r {N:Nat} {k h v:Int} {o:Bool} {K:Bool→O R}:Lp N [.int .i64 k,.int .i64 h] o v K=K (k==v):=by
 rw[F_];rfl
theorem A26 {n:Nat} {a:Bool} {K:Int→O R}:Aq (n+64) (A8p++Ata) 2 a false 2 K=K 1:=by
 rw[Be]
 change Lp _ A8p _ _ _=_
 rw[A8p,A8r]
 change Lp _ Ata _ _ _=_
 rw[Ata,A8r];rfl
theorem Bak {n:Nat} {a:Bool} {K:Int→O R}:Aq (n+64) (A8p++Ata) 2 a false 0 K=K 0:=by
 rw[Be]
 change Lp _ A8p _ _ _=_
 rw[A8p,A8r];rfl
theorem Bal {n:Nat} {o a b:Bool} {K:Nat→Int→Int→LA→O R}:JX (n+64) Bdf.av o A8q 3 a b K=K 3 3 0 (Ata++Ata++A8p):=by
 rw[dK];unfold dJ
 simp only[Dr,ct,B8,pj,Bai,Baj]
 change Xi _ Bdf.av _ Ata _ _=_
 rw[Arg]
 change Aq _ (A8p++Ata) 2 _ _ _ _=_
 rw[A26]
 change Xi _ Bdf.av _ Ata _ _=_
 rw[Arg]
 change Aq _ (A8p++Ata) 2 _ _ _ _=_
 rw[A26]
 change Xi _ Bdf.av _ Ata _ _=_
 rw[Arg]
 change Aq _ (A8p++Ata) 2 _ _ _ _=_
 rw[Bak]
 kernel_rfl
theorem Bcq {n:Nat} {o a b:Bool} {K:Nat→LA→O R}:So (n+64) Bdf.av o 3 A8q 3 a b K=K 3 [.int .i64 10,.int .i64 17,.int .i64 10,.int .i64 22,.int .i64 0,.int .i64 0]:=by
 rw[GA];kernel_rfl
theorem Bcr {n:Nat} {o a b:Bool} {K:LA→O R}:Oj (n+64) Bdf.av o 3 A8q 3 a b [.int .i64 10,.int .i64 17,.int .i64 10,.int .i64 22,.int .i64 0,.int .i64 0] K=K [.int .i64 10,.int .i64 17,.int .i64 10,.int .i64 15,.int .i64 0,.int .i64 0]:=by
 rw[Zz];kernel_rfl
theorem Bcs {n:Nat} {o a b:Bool} {K:Nat→Int→LA→O R}:K6 (n+64) Bdf.av o 3 A8q 3 a b K=K 3 0 [.int .i64 10,.int .i64 17,.int .i64 10,.int .i64 15,.int .i64 0,.int .i64 0]:=by
 rw[Z0];unfold Ur
 rw[Dr,ct,B8,Rc (by omega) (by decide) (by simp[Bdf,Sl.l]),show D3 Bdf 3=true from rfl]
 rw[Bal]
 unfold Kj Rz
 rw[Dr,ct,B8,Bcq,Bcr]
 kernel_rfl
theorem Agm (q:Rat):GE q q=0:=by
 unfold GE
 rw[if_neg (Rat.lt_irrefl),if_neg (Rat.lt_irrefl)]
theorem Agn {N:Nat} {K:Bool→O R} (k:fit 100000 N):Tl N K=K true:=by
 have hN:4000≤N:=by have:=k.1;omega
 obtain⟨n,rfl⟩:∃ n,N=n+64:=⟨N - 64,by omega⟩
 rw[WW];unfold TP
 rw[Bah,show((Nat.beq 0 0)&&((Nat.beq (List.length Bdf.av) 22)&&(Nat.beq 22 22)))=true from rfl,ct,Dr,ct,B8,XB (by omega) hN]
 refine Agl (m:=2) (Bcn (by omega)) (by decide) (k.le (by omega)) hN fun d C=>?_
 rw[show Bep Bdf ((35:Int):Rat)=0 by kernel_rfl]
 rw[show Baf Bdf ((35:Int):Rat)=((85:Int):Rat) by kernel_rfl] at C
 rw[c3,ct,ct,XB (by omega) hN]
 refine Awb (m:=2) (Bcn (by omega)) (by decide) (k.le (by omega)) hN fun y z D F=>?_
 rw[show Bec Bdf ((30:Int):Rat)=(true,((3:Int):Rat)) by kernel_rfl] at D ⊢
 rw[show Bed Bdf ((30:Int):Rat)=(true,((5:Int):Rat)) by kernel_rfl] at F ⊢
 rw[c3,ct,c3,ct,ct]
 rw[show [(AV.int .i64 2),(.int .i64 2),(.int .i64 0)]=A8q from rfl,Bcs,b3,ct,Akq,XB (by omega) hN,A8o C (Bcn (by omega)) (k.le (by omega)),Agm]
 rw[b3,Akq,XB (by omega) hN,A8o D (Bcn (by omega)) (k.le (by omega)),Agm]
 rw[b3,Akq,XB (by omega) hN,A8o F (Bcn (by omega)) (k.le (by omega)),Agm]
 rfl
end
end Gx

namespace Gx
open Go Go.Proofs
open IntKind (wrap)
set_option maxRecDepth 100000
noncomputable section
variable {R:Type} (N:Nat)
def Arh (N:Nat) (b:LA) (c:Nat) (d e:Bool) (r0:O R):O R :=
 r0
def Ari:=(Ah (@Arh R)).1
theorem Ago:@Ari R=@Arh R:=(Ah _).2
def An6 (b:LA) (c:Nat) (d e:Bool) (F:KF R):O R:=F (op 0) (hq [⟨false,false,false,false,0,[(.imm b c 1 d e),(iv 0)],false⟩])
theorem An7 (b:LA) (c:Nat) (d e:Bool) (F:KF R):Ch [] Dj N 105 [(.imm b c 1 d e)] [] F=(Ari N b c d e (An6 b c d e F)):=by
 rw[Ago]
 kernel_rfl
def Agp (a:LA) (h:Am) (k:KF R):O R :=
 match a,h with
 | [(.imm b c 1 d e)],[]=>(Ari N b c d e (An6 b c d e k))
 | _,_=>none
theorem An8:Ap N 105 @Agp:=by
 intro R Q a h k j;unfold Agp;split;exact A0 (An7 ..) (An7 ..) trivial;exact A3
def A6g:=A1 (An8 N)
def A6h:=Ce (An8 N)
def Arj (N:Nat) (c b:Int) (r0:Int→O R):O R :=
 (cond ((wrap .u64 b)==0) none (r0 (wrap .i64 (Int.tmod (wrap .u64 c) (wrap .u64 b)))))
def Ark:=(Ah (@Arj R)).1
theorem Agq:@Ark R=@Arj R:=(Ah _).2
def An9 (F:KF R):Int→O R:=(fun d=>F (iv d) [])
theorem Aoa (c b:Int) (F:KF R):Ch [] Dj N 150 [(iv c),(iv b)] [] F=(Ark N c b (An9 F)):=by
 rw[Agq]
 kernel_rfl
def Agr (a:LA) (h:Am) (k:KF R):O R :=
 match a,h with
 | [(.int .i64 c),(.int .i64 b)],[]=>(Ark N c b (An9 k))
 | _,_=>none
theorem Aob:Ap N 150 @Agr:=by
 intro R Q a h k j;unfold Agr;split;exact A0 (Aoa ..) (Aoa ..) trivial;exact A3
def A6i:=A1 (Aob N)
def A6j:=Ce (Aob N)
def Xm (g:Int) (c:LA) (b:Nat) (e f:Bool) (d:Int) (r0:Int→Int→O R):O R :=
 (cond (decide (d≥((b:Nat):Int))) (r0 0 d) (cond (Ac (wrap .i64 ((wrap .i64 (d+1)) - 1)) b) (An .i64 (c.drop (((wrap .i64 ((wrap .i64 (d+1)) - 1)).toNat)*1)) fun i=>(Ark N i g (fun l=>(r0 l (wrap .i64 (d+1)))))) none))
def Af:=(Ah (@Xm R)).1
theorem Ww:@Af R=@Xm R:=(Ah _).2
def Ags:D9:=[(150,A6i N)]
def XC (c:LA) (b:Nat) (e f:Bool) (F:KF R):Int→Int→O R:=(fun m n=>F (iv m) [(100000,⟨false,false,false,false,0,[(.imm c b 1 e f),(iv n)],false⟩)])
theorem XD (g:Int) (c:LA) (b:Nat) (e f:Bool) (d:Int) (F:KF R):Ch (Ags N) Dj N 106 [(.optr 100000 0),(iv g)] [(100000,⟨false,false,false,false,0,[(.imm c b 1 e f),(iv d)],false⟩)] F=(Af N g c b e f d (XC c b e f F)):=by
 rw[Ww]
 kernel_rfl
def OX (a:LA) (h:Am) (k:KF R):O R :=
 match a,h with
 | [(.optr 100000 0),(.int .i64 g)],[(100000,⟨false,false,false,false,0,[(.imm c b 1 e f),(.int .i64 d)],false⟩)]=>(Af N g c b e f d (XC c b e f k))
 | _,_=>none
theorem XE:Ap N 106 @OX:=by
 intro R Q a h k j;unfold OX;split;exact A0 (XD ..) (XD ..) ⟨A6j N,trivial⟩;exact A3
def Io:=A1 (XE N)
def Ip:=Ce (XE N)
def Nw (r0:Nat→Int→LA→O R) (f g:Int) (b:LA) (c:Nat) (d e:Bool) (k0:Nat→Int→Int→LA→O R) (i:Nat) (l m:Int) (o:LA):O R :=
 (cond (decide (l<f)) (Af N g b c d e m (fun q r=>(cond ((Nat.ble (i+1) 140737488355328)&&(Nat.ble ((i+1)*8) 140737488355328)) (k0 (i+1) (wrap .i64 (l+1)) r ((o.take (i*1))++[(.int .i64 q)])) none))) (r0 i m o))
def Fm (r0:Nat→Int→LA→O R) (f g:Int) (b:LA) (c:Nat) (d e:Bool):Nat→Nat→Int→Int→LA→O R
 | 0,_,_,_,_=>none
 | n+1,i,l,m,o=>(Nw N r0 f g b c d e (Fm r0 f g b c d e n) i l m o)
def Uu (N:Nat) (r0:Nat→Int→LA→O R) (q0:Nat→Int→Int→LA→O R) (f g:Int) (b:LA) (c:Nat) (d e:Bool) (p:Int):O R :=
 (q0 0 0 p [])
def El:=(Ah (fun (N:Nat) (f g:Int) (b:LA) (c:Nat) (d e:Bool) (p:Int) (r0:Nat→Int→LA→O R)=>(Uu N r0 (fun i l m o=>(Fm N r0 f g b c d e N i l m o)) f g b c d e p))).1
theorem KD (f g b c d e p r0):(@El R N f g b c d e p r0)=(Uu N r0 (fun i l m o=>(Fm N r0 f g b c d e N i l m o)) f g b c d e p):=by rw[El,(Ah _).2]
def OY:Hints:={ H:=(hS hL (hS hL (hS (hS hL (hS (hP [0,1,2,7,8] hL) hL)) hL))),nils:=[(6,1),(7,1)],modes:=[(2,1)] }
def XF:D9:=[(106,Io N)]
def tG (F:KF R):=Jw Tryz.f107 OY (XF N) [100000] N F
def Kn (b:LA) (c:Nat) (d e:Bool) (F:KF R):Nat→Int→LA→O R:=(fun s t u=>F (.own 300000 0 s) [(100000,⟨false,false,false,false,0,[(.imm b c 1 d e),(iv t)],false⟩),(300000,(bQ 1 u))])
def tH (f g:Int) (b:LA) (c:Nat) (d e:Bool) (i:Nat) (l m:Int) (o:LA):St:=⟨[(0,(.optr 100000 0)),(1,(iv f)),(2,(iv g)),(7,(.own 300000 0 i)),(8,(iv l))],[(100000,⟨false,false,false,false,0,[(.imm b c 1 d e),(iv m)],false⟩),(300000,(bQ 1 o))]⟩
def tI (F:KF R):=tG N F [1,1,0,1,0] []
theorem AQ (F:KF R) (f g:Int) (b:LA) (c:Nat) (d e:Bool):∀ (n i:Nat) (l m:Int) (o:LA),Ao (tI N F) n (tH f g b c d e i l m o)=(Fm N (Kn b c d e F) f g b c d e n i l m o)
 | 0,_,_,_,_=>by kernel_rfl
 | n+1,i,l,m,o=>Eq.trans (by kernel_rfl) (Bp (Nw N (Kn b c d e F) f g b c d e · i l m o) (funext fun i=>funext fun l=>funext fun m=>funext fun o=>(AQ F f g b c d e n i l m o)):_)
theorem OZ (f g:Int) (b:LA) (c:Nat) (d e:Bool) (p:Int) (F:KF R):Ch (XF N) OY N 107 [(.optr 100000 0),(iv f),(iv g)] [(100000,⟨false,false,false,false,0,[(.imm b c 1 d e),(iv p)],false⟩)] F=(El N f g b c d e p (Kn b c d e F)):=by
 rw[KD]
 exact Eq.trans (by kernel_rfl) (Bp (Uu N (Kn b c d e F) · f g b c d e p) (funext fun i=>funext fun l=>funext fun m=>funext fun o=>(Aj ..).trans (AQ N F f g b c d e N i l m o)):_)
def KE (a:LA) (h:Am) (k:KF R):O R :=
 match a,h with
 | [(.optr 100000 0),(.int .i64 f),(.int .i64 g)],[(100000,⟨false,false,false,false,0,[(.imm b c 1 d e),(.int .i64 p)],false⟩)]=>(El N f g b c d e p (Kn b c d e k))
 | _,_=>none
theorem O_:Ap N 107 @KE:=by
 intro R Q a h k j;unfold KE;split;exact A0 (OZ ..) (OZ ..) ⟨Ip N,trivial⟩;exact A3
def tJ:=A1 (O_ N)
def tK:=Ce (O_ N)
def Agt (N:Nat) (c:List UInt8) (b:Int) (r0:List UInt8→O R):O R :=
 (cond ((decide (0≤(Int.tmod b 16)))&&((decide ((Int.tmod b 16)≤(wrap .i64 ((Int.tmod b 16)+1))))&&((decide ((wrap .i64 ((Int.tmod b 16)+1))≤16))&&(decide ((16:Int)≤(16:Int)))))) (cond (Nat.ble ((c.length)+(List.length (List.take (((wrap .i64 ((Int.tmod b 16)+1)).toNat) - ((Int.tmod b 16).toNat)) (List.drop ((Int.tmod b 16).toNat) ([48,49,50,51,52,53,54,55,56,57,97,98,99,100,101,102]:List UInt8))))) 140737488355328) (r0 (c++(List.take (((wrap .i64 ((Int.tmod b 16)+1)).toNat) - ((Int.tmod b 16).toNat)) (List.drop ((Int.tmod b 16).toNat) ([48,49,50,51,52,53,54,55,56,57,97,98,99,100,101,102]:List UInt8))))) none) none)
def KG:=(Ah (@Agt R)).1
theorem xC:@KG R=@Agt R:=(Ah _).2
def Agu (F:KF R):List UInt8→O R:=(fun d=>F (.str d) [])
theorem Agv (c:List UInt8) (b:Int) (F:KF R):Ch [] Dj N 108 [(.str c),(iv b)] [] F=(KG N c b (Agu F)):=by
 rw[xC]
 kernel_rfl
def xD (a:LA) (h:Am) (k:KF R):O R :=
 match a,h with
 | [(.str c),(.int .i64 b)],[]=>(KG N c b (Agu k))
 | _,_=>none
theorem Agw:Ap N 108 @xD:=by
 intro R Q a h k j;unfold xD;split;exact A0 (Agv ..) (Agv ..) trivial;exact A3
def UD:=A1 (Agw N)
def UE:=Ce (Agw N)
def Xn (f:Int) (b:LA) (c:Nat) (d e:Bool) (g:Int) (r0:Nat→Int→LA→O R):O R :=
 (Af N 6 b c d e g (fun l i=>(cond (l==5) (Af N f b c d e i (fun m n=>(r0 1 n [(.int .i64 m)]))) (r0 0 i []))))
def Ls:=(Ah (@Xn R)).1
theorem Wx:@Ls R=@Xn R:=(Ah _).2
def yy:Hints:={ H:=hL,nils:=[(4,1)],modes:=[(2,1)] }
def Agx:D9:=[(106,Io N)]
def XG (b:LA) (c:Nat) (d e:Bool) (F:KF R):Nat→Int→LA→O R:=(fun o p q=>F (.own 300000 0 o) [(100000,⟨false,false,false,false,0,[(.imm b c 1 d e),(iv p)],false⟩),(300000,(bQ 1 q))])
theorem XH (f:Int) (b:LA) (c:Nat) (d e:Bool) (g:Int) (F:KF R):Ch (Agx N) yy N 151 [(.optr 100000 0),(iv f)] [(100000,⟨false,false,false,false,0,[(.imm b c 1 d e),(iv g)],false⟩)] F=(Ls N f b c d e g (XG b c d e F)):=by
 rw[Wx]
 kernel_rfl
def O' (a:LA) (h:Am) (k:KF R):O R :=
 match a,h with
 | [(.optr 100000 0),(.int .i64 f)],[(100000,⟨false,false,false,false,0,[(.imm b c 1 d e),(.int .i64 g)],false⟩)]=>(Ls N f b c d e g (XG b c d e k))
 | _,_=>none
theorem XI:Ap N 151 @O':=by
 intro R Q a h k j;unfold O';split;exact A0 (XH ..) (XH ..) ⟨Ip N,trivial⟩;exact A3
def XJ:=A1 (XI N)
def XK:=Ce (XI N)
def Xo (l f g i:Int) (b:LA) (c:Nat) (d e:Bool) (m:Int) (r0:LA→Int→O R):O R :=
 (KG N ([108]:List UInt8) l (fun o=>(Af N 4 b c d e m (fun p v=>(Af N 2 b c d e v (fun q w=>(Af N 40 b c d e w (fun n x=>(Af N 20 b c d e x (fun r y=>(Af N 5 b c d e y (fun z s=>(cond (z==4) (Af N 4 b c d e s (fun aa ab=>(Af N 2 b c d e ab (fun ac ad=>(Af N 4 b c d e ad (fun ae af=>(Ls N i b c d e af (fun t ag ah=>(r0 [(.str o),(.int .i64 f),(.int .i64 g),(.int .i64 (wrap .i64 (1+p))),(.int .i64 (wrap .i64 (1+q))),(.int .i64 (wrap .i64 ((0:Int) - aa))),(.int .i64 (wrap .i64 (1+ac))),(.int .i64 ae),(.int .i64 1),(.int .i64 (wrap .i64 (4+n))),(.int .i64 (wrap .i64 ((wrap .i64 (4+n))+r))),(.imm (ah.take (t*1)) t 1 false false)] ag))))))))) (Ls N i b c d e s (fun u ai aj=>(r0 [(.str o),(.int .i64 f),(.int .i64 g),(.int .i64 (wrap .i64 (1+p))),(.int .i64 (wrap .i64 (1+q))),(.int .i64 0),(.int .i64 1),(.int .i64 0),(.int .i64 1),(.int .i64 (wrap .i64 (4+n))),(.int .i64 (wrap .i64 ((wrap .i64 (4+n))+r))),(.imm (aj.take (u*1)) u 1 false false)] ai))))))))))))))))
def P4:=(Ah (@Xo R)).1
theorem Wy:@P4 R=@Xo R:=(Ah _).2
def yz:Hints:={ H:=hL,modes:=[(3,0)],cob:=[28] }
def Agy:D9:=[(108,UD N),(106,Io N),(151,XJ N)]
def XL (b:LA) (c:Nat) (d e:Bool) (F:KF R):LA→Int→O R:=(fun ak al=>F (.pagg ak false) [(100000,⟨false,false,false,false,0,[(.imm b c 1 d e),(iv al)],false⟩)])
theorem XM (l f g i:Int) (b:LA) (c:Nat) (d e:Bool) (m:Int) (F:KF R):Ch (Agy N) yz N 109 [(.optr 100000 0),(iv l),(iv f),(iv g),(iv i)] [(100000,⟨false,false,false,false,0,[(.imm b c 1 d e),(iv m)],false⟩)] F=(P4 N l f g i b c d e m (XL b c d e F)):=by
 rw[Wy]
 kernel_rfl
def PA (a:LA) (h:Am) (k:KF R):O R :=
 match a,h with
 | [(.optr 100000 0),(.int .i64 l),(.int .i64 f),(.int .i64 g),(.int .i64 i)],[(100000,⟨false,false,false,false,0,[(.imm b c 1 d e),(.int .i64 m)],false⟩)]=>(P4 N l f g i b c d e m (XL b c d e k))
 | _,_=>none
theorem XN:Ap N 109 @PA:=by
 intro R Q a h k j;unfold PA;split;exact A0 (XM ..) (XM ..) ⟨UE N,Ip N,XK N,trivial⟩;exact A3
def zA:=A1 (XN N)
def zB:=Ce (XN N)
def Mx (r0:LA→Int→O R) (b:LA) (c:Nat) (d e:Bool) (y:Int) (l:List UInt8) (m f i:Int) (g:Nat) (o z aa ab ac x u ad ae af:Int) (v:Nat) (w:Int) (p ag:LA) (ah ai aj ak:Int):O R :=
 (cond (w==2) (Af N (wrap .i64 ((wrap .i64 (i - f))+1)) b c d e y (fun av aw=>(r0 [(.str l),(.int .i64 m),(.int .i64 f),(.int .i64 i),(.imm (p.take (g*2)) g 2 false false),(.int .i64 o),(.int .i64 z),(.int .i64 aa),(.int .i64 ah),(.int .i64 ai),(.int .i64 ab),(.int .i64 ac),(.int .i64 x),(.int .i64 u),(.int .i64 aj),(.int .i64 ad),(.int .i64 ae),(.int .i64 af),(.imm (ag.take (v*1)) v 1 false false),(.int .i64 w),(.int .i64 ak),(.int .i64 (wrap .i64 (f+av)))] aw))) (r0 [(.str l),(.int .i64 m),(.int .i64 f),(.int .i64 i),(.imm (p.take (g*2)) g 2 false false),(.int .i64 o),(.int .i64 z),(.int .i64 aa),(.int .i64 ah),(.int .i64 ai),(.int .i64 ab),(.int .i64 ac),(.int .i64 x),(.int .i64 u),(.int .i64 aj),(.int .i64 ad),(.int .i64 ae),(.int .i64 af),(.imm (ag.take (v*1)) v 1 false false),(.int .i64 w),(.int .i64 ak),(.int .i64 0)] y))
def P5 (r0:LA→Int→O R) (q:Int) (b:LA) (c:Nat) (d e:Bool) (l:List UInt8) (m f o:Int) (k0:Int→Int→Int→Int→Nat→LA→O R) (q1:Int→Int→Int→Int→Int→Int→Int→Int→Int→Int→Nat→Int→LA→Int→Int→Int→Int→O R) (r s t i:Int) (g:Nat) (p:LA):O R :=
 (cond (decide (s>0)) (Af N 15 b c d e t (fun ao ax=>(cond ((Nat.ble (g+1) 140737488355328)&&(Nat.ble ((g+1)*16) 140737488355328)) (Af N 10 b c d e ax (fun ay az=>(k0 (wrap .i64 (r+ay)) (wrap .i64 (s - 1)) az (wrap .i64 (i+(wrap .i64 (1+ao)))) (g+1) ((p.take (g*2))++[(.int .i64 (wrap .i64 (1+ao))),(.int .i64 r)])))) none))) (Af N 20 b c d e t (fun z ba=>(Af N 20 b c d e ba (fun aa bb=>(Af N (wrap .i64 ((wrap .i64 (i - f))+1)) b c d e bb (fun ap bc=>(Af N (wrap .i64 ((wrap .i64 (i - f))+1)) b c d e bc (fun aq bd=>(Af N 3 b c d e bd (fun ab be=>(Af N 3 b c d e be (fun ac bf=>(Af N 2 b c d e bf (fun x bg=>(Af N 30 b c d e bg (fun u bh=>(Af N 30 b c d e bh (fun ar bi=>(Af N 4 b c d e bi (fun ad bj=>(Af N 8 b c d e bj (fun ae bk=>(Af N 4 b c d e bk (fun af bl=>(Ls N q b c d e bl (fun v bm ag=>(Af N (wrap .i64 (2+x)) b c d e bm (fun au bn=>(cond (Ac au 3) (An .i64 (List.drop (0+((au.toNat)*1)) [(.int .i64 0),(.int .i64 2),(.int .i64 1)]) fun w=>(Af N 4 b c d e bn (fun bo y=>(cond (w==1) (q1 y z aa ab ac x u ad ae af v w ag (wrap .i64 (f+ap)) (wrap .i64 (f+aq)) (wrap .i64 (u+ar)) 1) (q1 y z aa ab ac x u ad ae af v w ag (wrap .i64 (f+ap)) (wrap .i64 (f+aq)) (wrap .i64 (u+ar)) (wrap .i64 (1+bo))))))) none))))))))))))))))))))))))))))))
def Fa (r0:LA→Int→O R) (q:Int) (b:LA) (c:Nat) (d e:Bool) (l:List UInt8) (m f o:Int):Nat→Int→Int→Int→Int→Nat→LA→O R
 | 0,_,_,_,_,_,_=>none
 | n+1,r,s,t,i,g,p=>(P5 N r0 q b c d e l m f o (Fa r0 q b c d e l m f o n) (fun y z aa ab ac x u ad ae af v w ag ah ai aj ak=>(Mx N r0 b c d e y l m f i g o z aa ab ac x u ad ae af v w p ag ah ai aj ak)) r s t i g p)
def Xp (r0:LA→Int→O R) (q0:List UInt8→Int→Int→Int→Int→Int→Int→Int→Nat→LA→O R) (al am q:Int) (b:LA) (c:Nat) (d e:Bool) (an:Int):O R :=
 (KG N ([117]:List UInt8) al (fun l=>(Af N am b c d e an (fun m bp=>(Af N 8 b c d e bp (fun f bq=>(Af N 20 b c d e bq (fun o br=>(Af N 20 b c d e br (fun bs bt=>(Af N 2 b c d e bt (fun bu bv=>(q0 l m f o (wrap .i64 (bs - 2)) (wrap .i64 (1+bu)) bv f 0 [])))))))))))))
def P6:=(Ah (fun (N:Nat) (al am q:Int) (b:LA) (c:Nat) (d e:Bool) (an:Int) (r0:LA→Int→O R)=>(Xp N r0 (fun l m f o r s t i g p=>(Fa N r0 q b c d e l m f o N r s t i g p)) al am q b c d e an))).1
theorem PB (al am q b c d e an r0):(@P6 R N al am q b c d e an r0)=(Xp N r0 (fun l m f o r s t i g p=>(Fa N r0 q b c d e l m f o N r s t i g p)) al am q b c d e an):=by rw[P6,(Ah _).2]
def XO:Hints:={ H:=(hS hL (hS hL (hS hL (hS hL (hS (hS hL (hS (hP [0,3,8,9,10,11] hL) hL)) (hS hL (hS hL (hS hL (hS hL (hS hL (hS hL (hS hL (hS hL (hJ [0,8,9] hL hL)))))))))))))),modes:=[(3,0)],cob:=[22] }
def dx:D9:=[(108,UD N),(106,Io N),(151,XJ N)]
def XP (F:KF R):=Jw Tryz.f110 XO (dx N) [100000] N F
def Iq (b:LA) (c:Nat) (d e:Bool) (F:KF R):LA→Int→O R:=(fun bw bx=>F (.pagg bw false) [(100000,⟨false,false,false,false,0,[(.imm b c 1 d e),(iv bx)],false⟩)])
def zC (b:LA) (c:Nat) (d e:Bool) (y:Int) (l:List UInt8) (m f i:Int) (g:Nat) (o z aa ab ac x u ad ae af:Int) (v:Nat) (w:Int) (p ag:LA) (ah ai aj ak:Int):St:=⟨[(0,(.optr 100000 0)),(8,(op 0)),(9,(op 1))],[(100000,⟨false,false,false,false,0,[(.imm b c 1 d e),(iv y)],false⟩),(300000,⟨false,false,false,false,0,[(.str ([]:List UInt8)),(iv 0),(iv 0),(iv 0),.nsl,(iv 0),(iv 0),(iv 0),(iv 0),(iv 0),(iv 0),(iv 0),(iv 0),(iv 0),(iv 0),(iv 0),(iv 0),(iv 0),.nsl,(iv 0),(iv 0),(iv 0)],false⟩),(300001,⟨false,false,false,false,0,[(.str l),(iv m),(iv f),(iv i),(.own 300002 0 g),(iv o),(iv z),(iv aa),(iv ah),(iv ai),(iv ab),(iv ac),(iv x),(iv u),(iv aj),(iv ad),(iv ae),(iv af),(.own 300003 0 v),(iv w),(iv ak),(iv 0)],false⟩),(300002,(bQ 2 p)),(300003,(bQ 1 ag))]⟩
def zD (F:KF R):=XP N F [1,1,1,1,1,1,1,1,1,1,1,1,1,1] []
def zE (q:Int) (b:LA) (c:Nat) (d e:Bool) (l:List UInt8) (m f o r s t i:Int) (g:Nat) (p:LA):St:=⟨[(0,(.optr 100000 0)),(3,(iv q)),(8,(op 0)),(9,(op 1)),(10,(iv r)),(11,(iv s))],[(100000,⟨false,false,false,false,0,[(.imm b c 1 d e),(iv t)],false⟩),(300000,⟨false,false,false,false,0,[(.str ([]:List UInt8)),(iv 0),(iv 0),(iv 0),.nsl,(iv 0),(iv 0),(iv 0),(iv 0),(iv 0),(iv 0),(iv 0),(iv 0),(iv 0),(iv 0),(iv 0),(iv 0),(iv 0),.nsl,(iv 0),(iv 0),(iv 0)],false⟩),(300001,⟨false,false,false,false,0,[(.str l),(iv m),(iv f),(iv i),(.own 300002 0 g),(iv o),(iv 0),(iv 0),(iv 0),(iv 0),(iv 0),(iv 0),(iv 0),(iv 0),(iv 0),(iv 0),(iv 0),(iv 0),(.own 300003 0 0),(iv 0),(iv 0),(iv 0)],false⟩),(300002,(bQ 2 p)),(300003,(bQ 1 []))]⟩
def zF (F:KF R):=XP N F [1,1,1,1,0,1,0] []
theorem mK (F:KF R) (b:LA) (c:Nat) (d e:Bool) (y:Int) (l:List UInt8) (m f i:Int) (g:Nat) (o z aa ab ac x u ad ae af:Int) (v:Nat) (w:Int) (p ag:LA):∀ (ah ai aj ak:Int),A9 (zD N F) (zC b c d e y l m f i g o z aa ab ac x u ad ae af v w p ag ah ai aj ak)=(Mx N (Iq b c d e F) b c d e y l m f i g o z aa ab ac x u ad ae af v w p ag ah ai aj ak):=by
 intro ah ai aj ak
 kernel_rfl
theorem GF (F:KF R) (q:Int) (b:LA) (c:Nat) (d e:Bool) (l:List UInt8) (m f o:Int):∀ (n:Nat) (r s t i:Int) (g:Nat) (p:LA),Ao (zF N F) n (zE q b c d e l m f o r s t i g p)=(Fa N (Iq b c d e F) q b c d e l m f o n r s t i g p)
 | 0,_,_,_,_,_,_=>by kernel_rfl
 | n+1,r,s,t,i,g,p=>Eq.trans (by kernel_rfl) (VS (P5 N (Iq b c d e F) q b c d e l m f o · · r s t i g p) (funext fun r=>funext fun s=>funext fun t=>funext fun i=>funext fun g=>funext fun p=>(GF F q b c d e l m f o n r s t i g p)) (funext fun y=>funext fun z=>funext fun aa=>funext fun ab=>funext fun ac=>funext fun x=>funext fun u=>funext fun ad=>funext fun ae=>funext fun af=>funext fun v=>funext fun w=>funext fun ag=>funext fun ah=>funext fun ai=>funext fun aj=>funext fun ak=>(At ..).trans (mK N F b c d e y l m f i g o z aa ab ac x u ad ae af v w p ag ah ai aj ak)):_)
theorem XQ (al am q:Int) (b:LA) (c:Nat) (d e:Bool) (an:Int) (F:KF R):Ch (dx N) XO N 110 [(.optr 100000 0),(iv al),(iv am),(iv q)] [(100000,⟨false,false,false,false,0,[(.imm b c 1 d e),(iv an)],false⟩)] F=(P6 N al am q b c d e an (Iq b c d e F)):=by
 rw[PB]
 exact Eq.trans (by kernel_rfl) (Bp (Xp N (Iq b c d e F) · al am q b c d e an) (funext fun l=>funext fun m=>funext fun f=>funext fun o=>funext fun r=>funext fun s=>funext fun t=>funext fun i=>funext fun g=>funext fun p=>(Aj ..).trans (GF N F q b c d e l m f o N r s t i g p)):_)
def PC (a:LA) (h:Am) (k:KF R):O R :=
 match a,h with
 | [(.optr 100000 0),(.int .i64 al),(.int .i64 am),(.int .i64 q)],[(100000,⟨false,false,false,false,0,[(.imm b c 1 d e),(.int .i64 an)],false⟩)]=>(P6 N al am q b c d e an (Iq b c d e k))
 | _,_=>none
theorem XR:Ap N 110 @PC:=by
 intro R Q a h k j;unfold PC;split;exact A0 (XQ ..) (XQ ..) ⟨UE N,Ip N,XK N,trivial⟩;exact A3
def zG:=A1 (XR N)
def zH:=Ce (XR N)
def Hy (r0:LA→Int→O R) (f:Int) (b:LA) (c:Nat) (d e:Bool) (g:List UInt8) (i:Nat) (l:LA) (k1:Int→Int→Nat→LA→O R) (o q:Int) (m:Nat) (p:LA):O R :=
 (cond (decide (o<f)) (Af N 2 b c d e q (fun ab w=>(cond (ab==1) (Af N 8 b c d e w (fun ac ad=>(Af N 8 b c d e ad (fun ae af=>(cond ((Nat.ble (m+1) 140737488355328)&&(Nat.ble ((m+1)*24) 140737488355328)) (k1 (wrap .i64 (o+1)) af (m+1) ((p.take (m*3))++[(.int .i64 o),(.int .i64 ac),(.int .i64 ae)])) none))))) (k1 (wrap .i64 (o+1)) w m p)))) (r0 [(.str g),(.imm (l.take (i*1)) i 1 false false),(.bool true),(.imm (p.take (m*3)) m 3 false false)] q))
def Eu (r0:LA→Int→O R) (f:Int) (b:LA) (c:Nat) (d e:Bool) (g:List UInt8) (i:Nat) (l:LA):Nat→Int→Int→Nat→LA→O R
 | 0,_,_,_,_=>none
 | n+1,o,q,m,p=>(Hy N r0 f b c d e g i l (Eu r0 f b c d e g i l n) o q m p)
def Lt (r0:LA→Int→O R) (f:Int) (b:LA) (c:Nat) (d e:Bool) (g:List UInt8) (q1:Int→Int→Nat→LA→O R) (r:Int) (i:Nat) (l:LA):O R :=
 (Af N 2 b c d e r (fun ag x=>(cond (ag==1) (q1 0 x 0 []) (r0 [(.str g),(.imm (l.take (i*1)) i 1 false false),(.bool false),(.imm [] 0 3 false false)] x))))
def Ev (r0:LA→Int→O R) (f:Int) (b:LA) (c:Nat) (d e:Bool) (g:List UInt8) (r:Int) (i:Nat) (l:LA):O R:=(Lt N r0 f b c d e g (fun o q m p=>(Eu N r0 f b c d e g i l N o q m p)) r i l)
def Ir (r0:LA→Int→O R) (q0:List UInt8→Int→Nat→LA→O R) (t s f:Int) (b:LA) (c:Nat) (d e:Bool) (u:Int):O R :=
 (KG N ([111]:List UInt8) t (fun g=>(Af N s b c d e u (fun v ah=>(Af N s b c d e ah (fun y z=>(cond ((decide (y>v))==true) (Af N 3 b c d e z (fun ai aa=>(cond (cond true (ai==2) false) (q0 g aa 2 [(.int .i64 v),(.int .i64 y)]) (q0 g aa 1 [(.int .i64 v)])))) (q0 g z 1 [(.int .i64 v)]))))))))
def Ko:=(Ah (fun (N:Nat) (t s f:Int) (b:LA) (c:Nat) (d e:Bool) (u:Int) (r0:LA→Int→O R)=>(Ir N r0 (fun g r i l=>(Ev N r0 f b c d e g r i l)) t s f b c d e u))).1
theorem Lu (t s f b c d e u r0):(@Ko R N t s f b c d e u r0)=(Ir N r0 (fun g r i l=>(Ev N r0 f b c d e g r i l)) t s f b c d e u):=by rw[Ko,(Ah _).2]
def KH:Hints:={ H:=(hS hL (hS hL (hJ [0,3,8,9] hL (hS (hS hL (hS (hS hL (hS hL (hS (hP [0,3,8,9,11] hL) hL))) hL)) hL)))),modes:=[(3,0)],cob:=[18] }
def PE:D9:=[(108,UD N),(106,Io N)]
def KI (F:KF R):=Jw Tryz.f111 KH (PE N) [100000] N F
def Ew (b:LA) (c:Nat) (d e:Bool) (F:KF R):LA→Int→O R:=(fun aj ak=>F (.pagg aj false) [(100000,⟨false,false,false,false,0,[(.imm b c 1 d e),(iv ak)],false⟩)])
def pk (f:Int) (b:LA) (c:Nat) (d e:Bool) (g:List UInt8) (i:Nat) (l:LA) (o q:Int) (m:Nat) (p:LA):St:=⟨[(0,(.optr 100000 0)),(3,(iv f)),(8,(op 0)),(9,(op 1)),(11,(iv o))],[(100000,⟨false,false,false,false,0,[(.imm b c 1 d e),(iv q)],false⟩),(300000,⟨false,false,false,false,0,[(.str ([]:List UInt8)),.nsl,(.bool false),.nsl],false⟩),(300001,⟨false,false,false,false,0,[(.str g),(.own 300002 0 i),(.bool true),(.own 300003 0 m)],false⟩),(300002,(bQ 1 l)),(300003,(bQ 3 p))]⟩
def pm (F:KF R):=KI N F [1,1,1,0,1,0,1,1,0] []
def pn (f:Int) (b:LA) (c:Nat) (d e:Bool) (g:List UInt8) (r:Int) (i:Nat) (l:LA):St:=⟨[(0,(.optr 100000 0)),(3,(iv f)),(8,(op 0)),(9,(op 1))],[(100000,⟨false,false,false,false,0,[(.imm b c 1 d e),(iv r)],false⟩),(300000,⟨false,false,false,false,0,[(.str ([]:List UInt8)),.nsl,(.bool false),.nsl],false⟩),(300001,⟨false,false,false,false,0,[(.str g),(.own 300002 0 i),(.bool false),(.own 300003 0 0)],false⟩),(300002,(bQ 1 l)),(300003,(bQ 3 []))]⟩
def po (F:KF R):=KI N F [1,1,1] []
theorem Yp (F:KF R) (f:Int) (b:LA) (c:Nat) (d e:Bool) (g:List UInt8) (i:Nat) (l:LA):∀ (n:Nat) (o q:Int) (m:Nat) (p:LA),Ao (pm N F) n (pk f b c d e g i l o q m p)=(Eu N (Ew b c d e F) f b c d e g i l n o q m p)
 | 0,_,_,_,_=>by kernel_rfl
 | n+1,o,q,m,p=>Eq.trans (by kernel_rfl) (Bp (Hy N (Ew b c d e F) f b c d e g i l · o q m p) (funext fun o=>funext fun q=>funext fun m=>funext fun p=>(Yp F f b c d e g i l n o q m p)):_)
theorem dy (F:KF R) (f:Int) (b:LA) (c:Nat) (d e:Bool) (g:List UInt8):∀ (r:Int) (i:Nat) (l:LA),A9 (po N F) (pn f b c d e g r i l)=(Ev N (Ew b c d e F) f b c d e g r i l):=by
 intro r i l
 exact Eq.trans (by kernel_rfl) (Bp (Lt N (Ew b c d e F) f b c d e g · r i l) (funext fun o=>funext fun q=>funext fun m=>funext fun p=>(Aj ..).trans (Yp N F f b c d e g i l N o q m p)):_)
theorem KJ (t s f:Int) (b:LA) (c:Nat) (d e:Bool) (u:Int) (F:KF R):Ch (PE N) KH N 111 [(.optr 100000 0),(iv t),(iv s),(iv f)] [(100000,⟨false,false,false,false,0,[(.imm b c 1 d e),(iv u)],false⟩)] F=(Ko N t s f b c d e u (Ew b c d e F)):=by
 rw[Lu]
 exact Eq.trans (by kernel_rfl) (Bp (Ir N (Ew b c d e F) · t s f b c d e u) (funext fun g=>funext fun r=>funext fun i=>funext fun l=>(At ..).trans (dy N F f b c d e g r i l)):_)
def GG (a:LA) (h:Am) (k:KF R):O R :=
 match a,h with
 | [(.optr 100000 0),(.int .i64 t),(.int .i64 s),(.int .i64 f)],[(100000,⟨false,false,false,false,0,[(.imm b c 1 d e),(.int .i64 u)],false⟩)]=>(Ko N t s f b c d e u (Ew b c d e k))
 | _,_=>none
theorem KK:Ap N 111 @GG:=by
 intro R Q a h k j;unfold GG;split;exact A0 (KJ ..) (KJ ..) ⟨UE N,Ip N,trivial⟩;exact A3
def pp:=A1 (KK N)
def pq:=Ce (KK N)
def R3 (N:Nat) (r0:Bool→O R) (d e:Int) (c:LA) (b:Nat) (f g:Bool) (k0:Int→O R) (i:Int):O R :=
 (cond (decide (i<((b:Nat):Int))) (cond (Ac i b) (An .i64 (c.drop ((i.toNat)*1)) fun l=>(cond ((decide (l<d))==false) (cond (Ac i b) (An .i64 (c.drop ((i.toNat)*1)) fun m=>(cond (cond false true (decide (m>e))) (r0 false) (k0 (wrap .i64 (i+1))))) none) (r0 false))) none) (r0 true))
def Hz (r0:Bool→O R) (d e:Int) (c:LA) (b:Nat) (f g:Bool):Nat→Int→O R
 | 0,_=>none
 | n+1,i=>(R3 N r0 d e c b f g (Hz r0 d e c b f g n) i)
def CO (N:Nat) (r0:Bool→O R) (q0:Int→O R) (d e:Int) (c:LA) (b:Nat) (f g:Bool):O R :=
 (q0 0)
def Aw:=(Ah (fun (N:Nat) (d e:Int) (c:LA) (b:Nat) (f g:Bool) (r0:Bool→O R)=>(CO N r0 (fun i=>(Hz N r0 d e c b f g N i)) d e c b f g))).1
theorem XS (d e c b f g r0):(@Aw R N d e c b f g r0)=(CO N r0 (fun i=>(Hz N r0 d e c b f g N i)) d e c b f g):=by rw[Aw,(Ah _).2]
def dz:Hints:={ H:=(hS hL (hS (hS hL (hS (hP [0,1,2,7] hL) hL)) hL)) }
def Agz (F:KF R):=Jw Tryz.f156 dz [] [] N F
def Ot (F:KF R):Bool→O R:=(fun o=>F (.bool o) [])
def Ag0 (d e:Int) (c:LA) (b:Nat) (f g:Bool) (i:Int):St:=⟨[(0,(iv d)),(1,(iv e)),(2,(.imm c b 1 f g)),(7,(iv i))],[]⟩
def Ag1 (F:KF R):=Agz N F [1,0,1,0] []
theorem KL (F:KF R) (d e:Int) (c:LA) (b:Nat) (f g:Bool):∀ (n:Nat) (i:Int),Ao (Ag1 N F) n (Ag0 d e c b f g i)=(Hz N (Ot F) d e c b f g n i)
 | 0,_=>by kernel_rfl
 | n+1,i=>Eq.trans (by kernel_rfl) (Bp (R3 N (Ot F) d e c b f g · i) (funext fun i=>(KL F d e c b f g n i)):_)
theorem eA (d e:Int) (c:LA) (b:Nat) (f g:Bool) (F:KF R):Ch [] dz N 156 [(iv d),(iv e),(.imm c b 1 f g)] [] F=(Aw N d e c b f g (Ot F)):=by
 rw[XS]
 exact Eq.trans (by kernel_rfl) (Bp (CO N (Ot F) · d e c b f g) (funext fun i=>(Aj ..).trans (KL N F d e c b f g N i)):_)
def XT (a:LA) (h:Am) (k:KF R):O R :=
 match a,h with
 | [(.int .i64 d),(.int .i64 e),(.imm c b 1 f g)],[]=>(Aw N d e c b f g (Ot k))
 | _,_=>none
theorem eB:Ap N 156 @XT:=by
 intro R Q a h k j;unfold XT;split;exact A0 (eA ..) (eA ..) trivial;exact A3
def De:=A1 (eB N)
def Df:=Ce (eB N)
def J3 (N:Nat) (r0:LA→O R) (c d e f:Int) (b:LA) (g:Bool):O R :=
 (cond g (cond ((Nat.beq 3 3)&&((Nat.ble 3 (b.length))&&(!false))) (cond ((Nat.beq 1 1)&&((Nat.ble 4 ((Cu b 0 [(.int .i64 c),(.int .i64 d),(.int .i64 e)]).length))&&(!false))) (r0 ((Cu b 0 [(.int .i64 c),(.int .i64 d),(.int .i64 e)]).set 3 (.int .i64 f))) none) none) (r0 b))
def Nx (N:Nat) (r0:LA→O R) (q0:Bool→O R) (i:Bool) (c d e f:Int) (b:LA):O R :=
 (An .i64 (b.drop 3) fun l=>(cond ((l==0)==true) (q0 (cond true (!i) false)) (q0 false)))
def Ab:=(Ah (fun (N:Nat) (i:Bool) (c d e f:Int) (b:LA) (r0:LA→O R)=>(Nx N r0 (fun g=>(J3 N r0 c d e f b g)) i c d e f b))).1
theorem Yq (i c d e f b r0):(@Ab R N i c d e f b r0)=(Nx N r0 (fun g=>(J3 N r0 c d e f b g)) i c d e f b):=by rw[Ab,(Ah _).2]
def AR:Hints:={ H:=(hJ [0,2,3,4,5,20] hL hL) }
def g9 (F:KF R):=Jw Tryz.f155 AR [] [100000] N F
def J4 (F:KF R):LA→O R:=(fun m=>F (.tup []) [(100000,(bQ 0 m))])
def g_ (c d e f:Int) (b:LA) (g:Bool):St:=⟨[(0,(.optr 100000 0)),(2,(iv c)),(3,(iv d)),(4,(iv e)),(5,(iv f)),(20,(.bool g))],[(100000,(bQ 0 b))]⟩
def gc (F:KF R):=g9 N F [1] []
theorem UF (F:KF R) (c d e f:Int) (b:LA):∀ (g:Bool),A9 (gc N F) (g_ c d e f b g)=(J3 N (J4 F) c d e f b g):=by
 intro g
 kernel_rfl
theorem AS (i:Bool) (c d e f:Int) (b:LA) (F:KF R):Ch [] AR N 155 [(.optr 100000 0),(.bool i),(iv c),(iv d),(iv e),(iv f)] [(100000,(bQ 0 b))] F=(Ab N i c d e f b (J4 F)):=by
 rw[Yq]
 exact Eq.trans (by kernel_rfl) (Bp (Nx N (J4 F) · i c d e f b) (funext fun g=>(At ..).trans (UF N F c d e f b g)):_)
def Yr (a:LA) (h:Am) (k:KF R):O R :=
 match a,h with
 | [(.optr 100000 0),(.bool i),(.int .i64 c),(.int .i64 d),(.int .i64 e),(.int .i64 f)],[(100000,⟨false,false,true,false,0,b,false⟩)]=>(Ab N i c d e f b (J4 k))
 | _,_=>none
theorem AT:Ap N 155 @Yr:=by
 intro R Q a h k j;unfold Yr;split;exact A0 (AS ..) (AS ..) trivial;exact A3
def Bq:=A1 (AT N)
def Br:=Ce (AT N)
def Ql (f:LA) (o:Bool) (g:LA) (b:Nat) (p i:Bool) (l m c d e:Int) (n:LA) (r0:LA→O R):O R :=
 (An .i64 f fun q=>(Ab N (((b:Nat):Int)==q) c d e 4 n (fun r=>(Aw N l m g b false i (fun s=>(Ab N s c d e 3 r (fun t=>(r0 t))))))))
def Cs:=(Ah (@Ql R)).1
theorem Uv:@Cs R=@Ql R:=(Ah _).2
def eC:D9:=[(155,Bq N),(156,De N)]
def Vs (F:KF R):LA→O R:=(fun u=>F (.tup []) [(100000,(bQ 0 u))])
theorem Vt (f:LA) (o:Bool) (g:LA) (b:Nat) (p i:Bool) (l m c d e:Int) (n:LA) (F:KF R):Ch (eC N) Dj N 154 [(.optr 100000 0),(.pagg f o),(.imm g b 1 p i),(iv l),(iv m),(iv c),(iv d),(iv e)] [(100000,(bQ 0 n))] F=(Cs N f o g b p i l m c d e n (Vs F)):=by
 rw[Uv]
 kernel_rfl
def Uw (a:LA) (h:Am) (k:KF R):O R :=
 match a,h with
 | [(.optr 100000 0),(.pagg f o),(.imm g b 1 p i),(.int .i64 l),(.int .i64 m),(.int .i64 c),(.int .i64 d),(.int .i64 e)],[(100000,⟨false,false,true,false,0,n,false⟩)]=>(Cs N f o g b p i l m c d e n (Vs k))
 | _,_=>none
theorem Vu:Ap N 154 @Uw:=by
 intro R Q a h k j;unfold Uw;split;exact A0 (Vt ..) (Vt ..) ⟨Br N,Df N,trivial⟩;exact A3
def Nj:=A1 (Vu N)
def Nk:=Ce (Vu N)
end
end Gx

namespace Gx
open Go Go.Proofs
open IntKind (wrap)
set_option maxRecDepth 100000
noncomputable section
variable {R:Type} (N:Nat)
def Xq (N:Nat) (r0:Nat→LA→O R) (c:Bool) (b:LA) (k0:Nat→Int→LA→O R) (d:Nat) (m:Int) (t:LA):O R :=
 (Co 3 (b.drop 2) fun bc aa=>(cond (decide (m<((aa:Nat):Int))) (Co 3 (b.drop 2) fun ab ac=>(cond (Ac m ac) (As8 (ab.drop ((m.toNat)*3)) fun ad=>(cond ((Nat.ble (d+1) 140737488355328)&&(Nat.ble ((d+1)*16) 140737488355328)) (k0 (d+1) (wrap .i64 (m+1)) ((t.take (d*1))++[(.str ad)])) none)) none)) (r0 d t)))
def Lv (r0:Nat→LA→O R) (c:Bool) (b:LA):Nat→Nat→Int→LA→O R
 | 0,_,_,_=>none
 | n+1,d,m,t=>(Xq N r0 c b (Lv r0 c b n) d m t)
def Xr (N:Nat) (r0:Nat→LA→O R) (c:Bool) (b:LA) (k1:Nat→Int→LA→O R) (e:Nat) (o:Int) (u:LA):O R :=
 (Co 12 (b.drop 3) fun bd ae=>(cond (decide (o<((ae:Nat):Int))) (Co 12 (b.drop 3) fun af ag=>(cond (Ac o ag) (As8 (af.drop ((o.toNat)*12)) fun ah=>(cond ((Nat.ble (e+1) 140737488355328)&&(Nat.ble ((e+1)*16) 140737488355328)) (k1 (e+1) (wrap .i64 (o+1)) ((u.take (e*1))++[(.str ah)])) none)) none)) (r0 e u)))
def Lw (r0:Nat→LA→O R) (c:Bool) (b:LA):Nat→Nat→Int→LA→O R
 | 0,_,_,_=>none
 | n+1,e,o,u=>(Xr N r0 c b (Lw r0 c b n) e o u)
def Xs (N:Nat) (r0:Nat→LA→O R) (c:Bool) (b:LA) (k2:Nat→Int→LA→O R) (f:Nat) (p:Int) (v:LA):O R :=
 (Co 22 (b.drop 4) fun be ai=>(cond (decide (p<((ai:Nat):Int))) (Co 22 (b.drop 4) fun aj ak=>(cond (Ac p ak) (As8 (aj.drop ((p.toNat)*22)) fun al=>(cond ((Nat.ble (f+1) 140737488355328)&&(Nat.ble ((f+1)*16) 140737488355328)) (k2 (f+1) (wrap .i64 (p+1)) ((v.take (f*1))++[(.str al)])) none)) none)) (r0 f v)))
def Lx (r0:Nat→LA→O R) (c:Bool) (b:LA):Nat→Nat→Int→LA→O R
 | 0,_,_,_=>none
 | n+1,f,p,v=>(Xs N r0 c b (Lx r0 c b n) f p v)
def Xt (N:Nat) (r0:Nat→LA→O R) (c:Bool) (b:LA) (k3:Nat→Int→LA→O R) (g:Nat) (q:Int) (w:LA):O R :=
 (Co 9 (b.drop 5) fun bf am=>(cond (decide (q<((am:Nat):Int))) (Co 9 (b.drop 5) fun an ao=>(cond (Ac q ao) (As8 (an.drop ((q.toNat)*9)) fun ap=>(cond ((Nat.ble (g+1) 140737488355328)&&(Nat.ble ((g+1)*16) 140737488355328)) (k3 (g+1) (wrap .i64 (q+1)) ((w.take (g*1))++[(.str ap)])) none)) none)) (r0 g w)))
def Ly (r0:Nat→LA→O R) (c:Bool) (b:LA):Nat→Nat→Int→LA→O R
 | 0,_,_,_=>none
 | n+1,g,q,w=>(Xt N r0 c b (Ly r0 c b n) g q w)
def Xu (N:Nat) (r0:Nat→LA→O R) (c:Bool) (b:LA) (k4:Nat→Int→LA→O R) (i:Nat) (r:Int) (x:LA):O R :=
 (Co 5 (b.drop 6) fun bg aq=>(cond (decide (r<((aq:Nat):Int))) (Co 5 (b.drop 6) fun ar au=>(cond (Ac r au) (As8 (ar.drop ((r.toNat)*5)) fun av=>(cond ((Nat.ble (i+1) 140737488355328)&&(Nat.ble ((i+1)*16) 140737488355328)) (k4 (i+1) (wrap .i64 (r+1)) ((x.take (i*1))++[(.str av)])) none)) none)) (r0 i x)))
def Lz (r0:Nat→LA→O R) (c:Bool) (b:LA):Nat→Nat→Int→LA→O R
 | 0,_,_,_=>none
 | n+1,i,r,x=>(Xu N r0 c b (Lz r0 c b n) i r x)
def Xv (N:Nat) (r0:Nat→LA→O R) (c:Bool) (b:LA) (k5:Nat→Int→LA→O R) (l:Nat) (s:Int) (y:LA):O R :=
 (Co 4 (b.drop 7) fun bh aw=>(cond (decide (s<((aw:Nat):Int))) (Co 4 (b.drop 7) fun ax ay=>(cond (Ac s ay) (As8 (ax.drop ((s.toNat)*4)) fun az=>(cond ((Nat.ble (l+1) 140737488355328)&&(Nat.ble ((l+1)*16) 140737488355328)) (k5 (l+1) (wrap .i64 (s+1)) ((y.take (l*1))++[(.str az)])) none)) none)) (r0 l y)))
def L0 (r0:Nat→LA→O R) (c:Bool) (b:LA):Nat→Nat→Int→LA→O R
 | 0,_,_,_=>none
 | n+1,l,s,y=>(Xv N r0 c b (L0 r0 c b n) l s y)
def L5 (N:Nat) (r0:Nat→LA→O R) (q0:Nat→Int→LA→O R) (q1:Nat→Int→LA→O R) (q2:Nat→Int→LA→O R) (q3:Nat→Int→LA→O R) (q4:Nat→Int→LA→O R) (q5:Nat→Int→LA→O R) (b:LA) (c:Bool) (z:Int):O R :=
 (cond (z==1) (q0 0 0 []) (cond (z==2) (q1 0 0 []) (cond (z==3) (q2 0 0 []) (cond (z==4) (q3 0 0 []) (cond (z==5) (q4 0 0 []) (cond (z==6) (q5 0 0 []) (r0 0 [])))))))
def He:=(Ah (fun (N:Nat) (b:LA) (c:Bool) (z:Int) (r0:Nat→LA→O R)=>(L5 N r0 (fun d m t=>(Lv N r0 c b N d m t)) (fun e o u=>(Lw N r0 c b N e o u)) (fun f p v=>(Lx N r0 c b N f p v)) (fun g q w=>(Ly N r0 c b N g q w)) (fun i r x=>(Lz N r0 c b N i r x)) (fun l s y=>(L0 N r0 c b N l s y)) b c z))).1
theorem Jo (b c z r0):(@He R N b c z r0)=(L5 N r0 (fun d m t=>(Lv N r0 c b N d m t)) (fun e o u=>(Lw N r0 c b N e o u)) (fun f p v=>(Lx N r0 c b N f p v)) (fun g q w=>(Ly N r0 c b N g q w)) (fun i r x=>(Lz N r0 c b N i r x)) (fun l s y=>(L0 N r0 c b N l s y)) b c z):=by rw[He,(Ah _).2]
def pt:Hints:={ H:=(hS hL (hS hL (hS (hS hL (hS (hS hL (hS (hS hL (hS (hP [2,5,6] hL) hL)) (hS hL (hS (hS hL (hS (hP [2,5,7] hL) hL)) (hS hL (hS (hS hL (hS (hP [2,5,8] hL) hL)) (hS hL (hS (hS hL (hS (hP [2,5,9] hL) hL)) (hS hL (hS (hS hL (hS (hP [2,5,10] hL) hL)) (hS hL (hS (hS hL (hS (hP [2,5,11] hL) hL)) hL)))))))))))) hL)) hL))),nils:=[(4,1),(5,1)],modes:=[(2,1)] }
def P7 (F:KF R):=Jw Tryz.f182 pt [] [] N F
def Ct (F:KF R):Nat→LA→O R:=(fun ba bb=>F (.own 300000 0 ba) (hq [(bQ 1 bb)]))
def Arl (c:Bool) (b:LA) (d:Nat) (m:Int) (t:LA):St:=⟨[(2,(op 0)),(5,(.own 300001 0 d)),(6,(iv m))],(hq [(bP c 0 b),(bQ 1 t)])⟩
def Arm (F:KF R):=P7 N F [1,1,0,1,0,1,0,1,0] []
def Arn (c:Bool) (b:LA) (e:Nat) (o:Int) (u:LA):St:=⟨[(2,(op 0)),(5,(.own 300001 0 e)),(7,(iv o))],(hq [(bP c 0 b),(bQ 1 u)])⟩
def Aro (F:KF R):=P7 N F [1,1,0,1,0,1,1,1,0,1,0] []
def Arp (c:Bool) (b:LA) (f:Nat) (p:Int) (v:LA):St:=⟨[(2,(op 0)),(5,(.own 300001 0 f)),(8,(iv p))],(hq [(bP c 0 b),(bQ 1 v)])⟩
def Arq (F:KF R):=P7 N F [1,1,0,1,0,1,1,1,1,1,0,1,0] []
def Arr (c:Bool) (b:LA) (g:Nat) (q:Int) (w:LA):St:=⟨[(2,(op 0)),(5,(.own 300001 0 g)),(9,(iv q))],(hq [(bP c 0 b),(bQ 1 w)])⟩
def Ars (F:KF R):=P7 N F [1,1,0,1,0,1,1,1,1,1,1,1,0,1,0] []
def Art (c:Bool) (b:LA) (i:Nat) (r:Int) (x:LA):St:=⟨[(2,(op 0)),(5,(.own 300001 0 i)),(10,(iv r))],(hq [(bP c 0 b),(bQ 1 x)])⟩
def Aru (F:KF R):=P7 N F [1,1,0,1,0,1,1,1,1,1,1,1,1,1,0,1,0] []
def Arv (c:Bool) (b:LA) (l:Nat) (s:Int) (y:LA):St:=⟨[(2,(op 0)),(5,(.own 300001 0 l)),(11,(iv s))],(hq [(bP c 0 b),(bQ 1 y)])⟩
def Arw (F:KF R):=P7 N F [1,1,0,1,0,1,1,1,1,1,1,1,1,1,1,1,0,1,0] []
theorem XU (F:KF R) (c:Bool) (b:LA):∀ (n d:Nat) (m:Int) (t:LA),Ao (Arm N F) n (Arl c b d m t)=(Lv N (Ct F) c b n d m t)
 | 0,_,_,_=>by kernel_rfl
 | n+1,d,m,t=>Eq.trans (by kernel_rfl) (Bp (Xq N (Ct F) c b · d m t) (funext fun d=>funext fun m=>funext fun t=>(XU F c b n d m t)):_)
theorem XV (F:KF R) (c:Bool) (b:LA):∀ (n e:Nat) (o:Int) (u:LA),Ao (Aro N F) n (Arn c b e o u)=(Lw N (Ct F) c b n e o u)
 | 0,_,_,_=>by kernel_rfl
 | n+1,e,o,u=>Eq.trans (by kernel_rfl) (Bp (Xr N (Ct F) c b · e o u) (funext fun e=>funext fun o=>funext fun u=>(XV F c b n e o u)):_)
theorem XW (F:KF R) (c:Bool) (b:LA):∀ (n f:Nat) (p:Int) (v:LA),Ao (Arq N F) n (Arp c b f p v)=(Lx N (Ct F) c b n f p v)
 | 0,_,_,_=>by kernel_rfl
 | n+1,f,p,v=>Eq.trans (by kernel_rfl) (Bp (Xs N (Ct F) c b · f p v) (funext fun f=>funext fun p=>funext fun v=>(XW F c b n f p v)):_)
theorem XX (F:KF R) (c:Bool) (b:LA):∀ (n g:Nat) (q:Int) (w:LA),Ao (Ars N F) n (Arr c b g q w)=(Ly N (Ct F) c b n g q w)
 | 0,_,_,_=>by kernel_rfl
 | n+1,g,q,w=>Eq.trans (by kernel_rfl) (Bp (Xt N (Ct F) c b · g q w) (funext fun g=>funext fun q=>funext fun w=>(XX F c b n g q w)):_)
theorem XY (F:KF R) (c:Bool) (b:LA):∀ (n i:Nat) (r:Int) (x:LA),Ao (Aru N F) n (Art c b i r x)=(Lz N (Ct F) c b n i r x)
 | 0,_,_,_=>by kernel_rfl
 | n+1,i,r,x=>Eq.trans (by kernel_rfl) (Bp (Xu N (Ct F) c b · i r x) (funext fun i=>funext fun r=>funext fun x=>(XY F c b n i r x)):_)
theorem XZ (F:KF R) (c:Bool) (b:LA):∀ (n l:Nat) (s:Int) (y:LA),Ao (Arw N F) n (Arv c b l s y)=(L0 N (Ct F) c b n l s y)
 | 0,_,_,_=>by kernel_rfl
 | n+1,l,s,y=>Eq.trans (by kernel_rfl) (Bp (Xv N (Ct F) c b · l s y) (funext fun l=>funext fun s=>funext fun y=>(XZ F c b n l s y)):_)
theorem pu (b:LA) (c:Bool) (z:Int) (F:KF R):Ch [] pt N 182 [(.pagg b c),(iv z)] [] F=(He N b c z (Ct F)):=by
 rw[Jo]
 exact Eq.trans (by kernel_rfl) (Be7 (L5 N (Ct F) · · · · · · b c z) (funext fun d=>funext fun m=>funext fun t=>(Aj ..).trans (XU N F c b N d m t)) (funext fun e=>funext fun o=>funext fun u=>(Aj ..).trans (XV N F c b N e o u)) (funext fun f=>funext fun p=>funext fun v=>(Aj ..).trans (XW N F c b N f p v)) (funext fun g=>funext fun q=>funext fun w=>(Aj ..).trans (XX N F c b N g q w)) (funext fun i=>funext fun r=>funext fun x=>(Aj ..).trans (XY N F c b N i r x)) (funext fun l=>funext fun s=>funext fun y=>(Aj ..).trans (XZ N F c b N l s y)):_)
def kC (a:LA) (h:Am) (k:KF R):O R :=
 match a,h with
 | [(.pagg b c),(.int .i64 z)],[]=>(He N b c z (Ct k))
 | _,_=>none
theorem pw:Ap N 182 @kC:=by
 intro R Q a h k j;unfold kC;split;exact A0 (pu ..) (pu ..) trivial;exact A3
def pz:=A1 (pw N)
def qA:=Ce (pw N)
def tL (N:Nat) (b:Int) (r0:Int→O R):O R :=
 (cond (Ac b 7) (An .i64 (List.drop (0+((b.toNat)*1)) [(.int .i64 0),(.int .i64 32),(.int .i64 64),(.int .i64 16),(.int .i64 8),(.int .i64 8),(.int .i64 64)]) fun c=>(r0 c)) none)
def Rd:=(Ah (@tL R)).1
theorem qB:@Rd R=@tL R:=(Ah _).2
def xE (F:KF R):Int→O R:=(fun d=>F (iv d) [])
theorem xF (b:Int) (F:KF R):Ch [] Dj N 183 [(iv b)] [] F=(Rd N b (xE F)):=by
 rw[qB]
 kernel_rfl
def qC (a:LA) (h:Am) (k:KF R):O R :=
 match a,h with
 | [(.int .i64 b)],[]=>(Rd N b (xE k))
 | _,_=>none
theorem xG:Ap N 183 @qC:=by
 intro R Q a h k j;unfold qC;split;exact A0 (xF ..) (xF ..) trivial;exact A3
def Awc:=A1 (xG N)
def Awd:=Ce (xG N)
def Cg (r0:LA→O R) (c:Bool) (b:LA) (k0:Int→LA→O R) (d:Int) (e:LA):O R :=
 (cond (decide (d≤6)) (cond (Nat.ble 8 (b.length)) (He N (b.take 8) c d (fun g x=>(Rd N d (fun i=>(Ab N (decide (((g:Nat):Int)≤i)) 0 0 (wrap .i64 (d+1)) 8 e (fun l=>(k0 (wrap .i64 (d+1)) l))))))) none) (r0 e))
def Bi (r0:LA→O R) (c:Bool) (b:LA):Nat→Int→LA→O R
 | 0,_,_=>none
 | n+1,d,e=>(Cg N r0 c b (Bi r0 c b n) d e)
def L6 (r0:LA→O R) (q0:Int→LA→O R) (b:LA) (c:Bool) (f:LA):O R :=
 (An .i64 b fun m=>(Aw N 1 24 [(.int .i64 m)] 1 false true (fun o=>(Ab N o 0 0 0 3 f (fun p=>(cond (Nat.ble 8 (b.length)) (Co 1 (b.drop 1) fun q r=>(Cs N (b.take 8) c q r false c 0 1048576 0 0 1 p (fun s=>(Co 3 (b.drop 2) fun y t=>(Aw N 1 32 [(.int .i64 ((t:Nat):Int))] 1 false true (fun u=>(Ab N u 0 0 2 8 s (fun v=>(q0 2 v))))))))) none))))))
def Gj:=(Ah (fun (N:Nat) (b:LA) (c:Bool) (f:LA) (r0:LA→O R)=>(L6 N r0 (fun d e=>(Bi N r0 c b N d e)) b c f))).1
theorem Vv (b c f r0):(@Gj R N b c f r0)=(L6 N r0 (fun d e=>(Bi N r0 c b N d e)) b c f):=by rw[Gj,(Ah _).2]
def Ys:Hints:={ H:=(hS hL (hS hL (hS hL (hS hL (hS hL (hS (hP [0,3,4] hL) hL)))))) }
def AU:D9:=[(156,De N),(155,Bq N),(154,Nj N),(182,pz N),(183,Awc N)]
def eD (F:KF R):=Jw Tryz.f152 Ys (AU N) [100000] N F
def F9 (F:KF R):LA→O R:=(fun w=>F (.tup []) [(100000,(bQ 0 w))])
def eE (c:Bool) (b:LA) (d:Int) (e:LA):St:=⟨[(0,(.optr 100000 0)),(3,(op 0)),(4,(iv d))],[(100000,(bQ 0 e)),(300000,(bP c 0 b))]⟩
def eF (F:KF R):=eD N F [1,1,1,1,1,0] []
theorem To (F:KF R) (c:Bool) (b:LA):∀ (n:Nat) (d:Int) (e:LA),Ao (eF N F) n (eE c b d e)=(Bi N (F9 F) c b n d e)
 | 0,_,_=>by kernel_rfl
 | n+1,d,e=>Eq.trans (by kernel_rfl) (Bp (Cg N (F9 F) c b · d e) (funext fun d=>funext fun e=>(To F c b n d e)):_)
theorem Yt (b:LA) (c:Bool) (f:LA) (F:KF R):Ch (AU N) Ys N 152 [(.optr 100000 0),(.pagg b c)] [(100000,(bQ 0 f))] F=(Gj N b c f (F9 F)):=by
 rw[Vv]
 exact Eq.trans (by kernel_rfl) (Bp (L6 N (F9 F) · b c f) (funext fun d=>funext fun e=>(Aj ..).trans (To N F c b N d e)):_)
def Vw (a:LA) (h:Am) (k:KF R):O R :=
 match a,h with
 | [(.optr 100000 0),(.pagg b c)],[(100000,⟨false,false,true,false,0,f,false⟩)]=>(Gj N b c f (F9 k))
 | _,_=>none
theorem Yu:Ap N 152 @Vw:=by
 intro R Q a h k j;unfold Vw;split;exact A0 (Yt ..) (Yt ..) ⟨Df N,Br N,Nk N,qA N,Awd N,trivial⟩;exact A3
def eG:=A1 (Yu N)
def eH:=Ce (Yu N)
def KM (N:Nat) (k1:Int→O R) (r0:Bool→O R) (b:List UInt8) (d:Int) (e:Bool):O R :=
 (cond ((!e)==true) (cond ((d==0)==false) (cond (Ac d (b.length)) (cond ((((UInt8.toNat (List.getD b (d.toNat) 0):Nat):Int) != 95)==true) (cond (Ac d (b.length)) (cond ((decide (((UInt8.toNat (List.getD b (d.toNat) 0):Nat):Int)<48))==false) (cond (Ac d (b.length)) (cond (cond true (cond false true (cond true (cond false true (decide (((UInt8.toNat (List.getD b (d.toNat) 0):Nat):Int)>57))) false)) false) (r0 false) (k1 (wrap .i64 (d+1)))) none) (r0 false)) none) (k1 (wrap .i64 (d+1)))) none) (r0 false)) (k1 (wrap .i64 (d+1))))
def CP (N:Nat) (r0:Bool→O R) (b:List UInt8) (k1:Int→O R) (q2:Int→Bool→O R) (c:Int):O R :=
 (cond (decide (c<(((b.length):Nat):Int))) (cond (Ac c (b.length)) (cond ((decide (((UInt8.toNat (List.getD b (c.toNat) 0):Nat):Int)≥97))==true) (cond (Ac c (b.length)) (q2 c (cond true (decide (((UInt8.toNat (List.getD b (c.toNat) 0):Nat):Int)≤122)) false)) none) (q2 c false)) none) (r0 true))
def Ou (r0:Bool→O R) (b:List UInt8):Nat→Int→O R
 | 0,_=>none
 | n+1,c=>(CP N r0 b (Ou r0 b n) (fun d e=>(KM N (Ou r0 b n) r0 b d e)) c)
def UG (N:Nat) (r0:Bool→O R) (b:List UInt8) (q1:Int→O R):O R :=
 (q1 0)
def KN (r0:Bool→O R) (b:List UInt8):O R:=(UG N r0 b (fun c=>(Ou N r0 b N c)))
def gL (N:Nat) (r0:Bool→O R) (q0:O R) (b:List UInt8):O R :=
 (cond ((decide ((((b.length):Nat):Int)<1))==false) (cond ((cond false true (decide ((((b.length):Nat):Int)>16)))==false) (cond (cond false true (b==([99,111,114,114,101,99,116,105,118,101]:List UInt8))) (r0 false) q0) (r0 false)) (r0 false))
def PF:=(Ah (fun (N:Nat) (b:List UInt8) (r0:Bool→O R)=>(gL N r0 (KN N r0 b) b))).1
theorem qD (b r0):(@PF R N b r0)=(gL N r0 (KN N r0 b) b):=by rw[PF,(Ah _).2]
def xH:Hints:={ H:=(hS hL (hJ [0] hL (hS (hS hL (hS (hP [0,3] (hS hL (hS (hS (hJ [0,3,4] hL hL) hL) hL))) hL)) hL))) }
def eI (F:KF R):=Jw Tryz.f184 xH [] [] N F
def Iy (F:KF R):Bool→O R:=(fun f=>F (.bool f) [])
def Awe (b:List UInt8) (d:Int) (e:Bool):St:=⟨[(0,(.str b)),(3,(iv d)),(4,(.bool e))],[]⟩
def Awf (F:KF R) (Q1:St→O R):=eI N F [1,1,0,1,0,0,1,0,0,1] [Q1]
def xI (b:List UInt8) (c:Int):St:=⟨[(0,(.str b)),(3,(iv c))],[]⟩
def xJ (F:KF R):=eI N F [1,1,0,1,0] []
def Awg (b:List UInt8):St:=⟨[(0,(.str b))],[]⟩
def Awh (F:KF R):=eI N F [1,1] []
theorem Ag2 (Q1:St→O R) (F:KF R) (b:List UInt8):∀ (d:Int) (e:Bool),A9 (Awf N F Q1) (Awe b d e)=(KM N (fun c=>Q1 (xI b c)) (Iy F) b d e):=by
 intro d e
 kernel_rfl
theorem eJ (F:KF R) (b:List UInt8):∀ (n:Nat) (c:Int),Ao (xJ N F) n (xI b c)=(Ou N (Iy F) b n c)
 | 0,_=>by kernel_rfl
 | n+1,c=>have e0:=(funext fun c=>(eJ F b n c))
  Eq.trans (by kernel_rfl) (VS (CP N (Iy F) b · · c) e0 (funext fun d=>funext fun e=>(At ..).trans ((Ag2 N (Ao (xJ N F) n) F b d e).trans (Bp (KM N · (Iy F) b d e) e0))):_)
theorem Ag3 (F:KF R) (b:List UInt8):A9 (Awh N F) (Awg b)=(KN N (Iy F) b):=by
 exact Eq.trans (by kernel_rfl) (Bp (UG N (Iy F) b ·) (funext fun c=>(Aj ..).trans (eJ N F b N c)):_)
theorem xK (b:List UInt8) (F:KF R):Ch [] xH N 184 [(.str b)] [] F=(PF N b (Iy F)):=by
 rw[qD]
 exact Eq.trans (by kernel_rfl) (Bp (gL N (Iy F) · b) ((At ..).trans (Ag3 N F b)):_)
def qF (a:LA) (h:Am) (k:KF R):O R :=
 match a,h with
 | [(.str b)],[]=>(PF N b (Iy k))
 | _,_=>none
theorem xL:Ap N 184 @qF:=by
 intro R Q a h k j;unfold qF;split;exact A0 (xK ..) (xK ..) trivial;exact A3
def Awi:=A1 (xL N)
def Awj:=Ce (xL N)
def Iz (r0:LA→O R) (c b:Int) (d:Nat) (e:LA) (k0:Int→LA→O R) (f:Int) (g:LA):O R :=
 (cond (decide (f<b)) (cond (Ac f d) (As8 (e.drop (0+((f.toNat)*1))) fun o=>(cond (Ac b d) (As8 (e.drop (0+((b.toNat)*1))) fun p=>(Ab N (!(o==p)) c b 0 10 g (fun q=>(k0 (wrap .i64 (f+1)) q)))) none)) none) (r0 g))
def Dv (r0:LA→O R) (c b:Int) (d:Nat) (e:LA):Nat→Int→LA→O R
 | 0,_,_=>none
 | n+1,f,g=>(Iz N r0 c b d e (Dv r0 c b d e n) f g)
def Ny (r0:LA→O R) (q0:Nat→LA→Int→LA→O R) (i:LA) (l:Bool) (c b:Int) (m:LA):O R :=
 (cond (Nat.ble 8 (i.length)) (He N (i.take 8) l c (fun d e=>(cond (Ac b d) (As8 (e.drop (0+((b.toNat)*1))) fun r=>(PF N r (fun s=>(Ab N s c b 0 9 m (fun t=>(q0 d e 0 t)))))) none))) none)
def Ck:=(Ah (fun (N:Nat) (i:LA) (l:Bool) (c b:Int) (m:LA) (r0:LA→O R)=>(Ny N r0 (fun d e f g=>(Dv N r0 c b d e N f g)) i l c b m))).1
theorem Yv (i l c b m r0):(@Ck R N i l c b m r0)=(Ny N r0 (fun d e f g=>(Dv N r0 c b d e N f g)) i l c b m):=by rw[Ck,(Ah _).2]
def AW:Hints:={ H:=(hS hL (hS hL (hS hL (hS hL (hS (hP [0,2,3,8,9] hL) hL))))) }
def GH:D9:=[(182,pz N),(184,Awi N),(155,Bq N)]
def ge (F:KF R):=Jw Tryz.f153 AW (GH N) [100000] N F
def G1 (F:KF R):LA→O R:=(fun u=>F (.tup []) [(100000,(bQ 0 u))])
def gf (c b:Int) (d:Nat) (e:LA) (f:Int) (g:LA):St:=⟨[(0,(.optr 100000 0)),(2,(iv c)),(3,(iv b)),(8,(.own 300000 0 d)),(9,(iv f))],[(100000,(bQ 0 g)),(300000,(bQ 1 e))]⟩
def gh (F:KF R):=ge N F [1,1,1,1,0] []
theorem Ux (F:KF R) (c b:Int) (d:Nat) (e:LA):∀ (n:Nat) (f:Int) (g:LA),Ao (gh N F) n (gf c b d e f g)=(Dv N (G1 F) c b d e n f g)
 | 0,_,_=>by kernel_rfl
 | n+1,f,g=>Eq.trans (by kernel_rfl) (Bp (Iz N (G1 F) c b d e · f g) (funext fun f=>funext fun g=>(Ux F c b d e n f g)):_)
theorem AX (i:LA) (l:Bool) (c b:Int) (m:LA) (F:KF R):Ch (GH N) AW N 153 [(.optr 100000 0),(.pagg i l),(iv c),(iv b)] [(100000,(bQ 0 m))] F=(Ck N i l c b m (G1 F)):=by
 rw[Yv]
 exact Eq.trans (by kernel_rfl) (Bp (Ny N (G1 F) · i l c b m) (funext fun d=>funext fun e=>funext fun f=>funext fun g=>(Aj ..).trans (Ux N F c b d e N f g)):_)
def Yw (a:LA) (h:Am) (k:KF R):O R :=
 match a,h with
 | [(.optr 100000 0),(.pagg i l),(.int .i64 c),(.int .i64 b)],[(100000,⟨false,false,true,false,0,m,false⟩)]=>(Ck N i l c b m (G1 k))
 | _,_=>none
theorem AY:Ap N 153 @Yw:=by
 intro R Q a h k j;unfold Yw;split;exact A0 (AX ..) (AX ..) ⟨qA N,Awj N,Br N,trivial⟩;exact A3
def E2:=A1 (AY N)
def E3:=Ce (AY N)
def Wz (b:LA) (i:Bool) (c d e f:Int) (g:LA) (r0:LA→O R):O R :=
 (Co 3 (b.drop 2) fun p l=>(Aw N 0 (wrap .i64 (((l:Nat):Int) - 1)) [(.int .i64 c)] 1 false true (fun m=>(Ab N m d e f 12 g (fun n=>(r0 n))))))
def D6:=(Ah (@Wz R)).1
theorem AZ:@D6 R=@Wz R:=(Ah _).2
def qG:D9:=[(156,De N),(155,Bq N)]
def GI (F:KF R):LA→O R:=(fun o=>F (.tup []) [(100000,(bQ 0 o))])
theorem GJ (b:LA) (i:Bool) (c d e f:Int) (g:LA) (F:KF R):Ch (qG N) Dj N 185 [(.optr 100000 0),(.pagg b i),(iv c),(iv d),(iv e),(iv f)] [(100000,(bQ 0 g))] F=(D6 N b i c d e f g (GI F)):=by
 rw[AZ]
 kernel_rfl
def A_ (a:LA) (h:Am) (k:KF R):O R :=
 match a,h with
 | [(.optr 100000 0),(.pagg b i),(.int .i64 c),(.int .i64 d),(.int .i64 e),(.int .i64 f)],[(100000,⟨false,false,true,false,0,g,false⟩)]=>(D6 N b i c d e f g (GI k))
 | _,_=>none
theorem GK:Ap N 185 @A_:=by
 intro R Q a h k j;unfold A_;split;exact A0 (GJ ..) (GJ ..) ⟨Df N,Br N,trivial⟩;exact A3
def L7:=A1 (GK N)
def L8:=Ce (GK N)
def MH (b:LA) (c:Bool) (r0:Bool→O R):O R :=
 (An .i64 (b.drop 1) fun d=>(Aw N 1 1048576 [(.int .i64 d)] 1 false true (fun e=>(cond (e==true) (An .i64 b fun f=>(Aw N (-1048576) 1048576 [(.int .i64 f)] 1 false true (fun g=>(r0 (cond true g false))))) (r0 false)))))
def I0:=(Ah (@MH R)).1
theorem PG:@I0 R=@MH R:=(Ah _).2
def Ag4:D9:=[(156,De N)]
def X_ (F:KF R):Bool→O R:=(fun i=>F (.bool i) [])
theorem YA (b:LA) (c:Bool) (F:KF R):Ch (Ag4 N) Dj N 186 [(.pagg b c)] [] F=(I0 N b c (X_ F)):=by
 rw[PG]
 kernel_rfl
def PH (a:LA) (h:Am) (k:KF R):O R :=
 match a,h with
 | [(.pagg b c)],[]=>(I0 N b c (X_ k))
 | _,_=>none
theorem YB:Ap N 186 @PH:=by
 intro R Q a h k j;unfold PH;split;exact A0 (YA ..) (YA ..) ⟨Df N,trivial⟩;exact A3
def YC:=A1 (YB N)
def YD:=Ce (YB N)
def Ov (N:Nat) (r0:Bool→O R) (c:LA) (b:Nat) (d e:Bool) (k0:Int→O R) (f:Int):O R :=
 (cond (decide (f<((b:Nat):Int))) (cond (Ac f b) (An .i64 (c.drop ((f.toNat)*1)) fun g=>(cond (Ac (wrap .i64 (f - 1)) b) (An .i64 (c.drop (((wrap .i64 (f - 1)).toNat)*1)) fun i=>(cond (decide (g≤i)) (r0 false) (k0 (wrap .i64 (f+1))))) none)) none) (r0 true))
def G9 (r0:Bool→O R) (c:LA) (b:Nat) (d e:Bool):Nat→Int→O R
 | 0,_=>none
 | n+1,f=>(Ov N r0 c b d e (G9 r0 c b d e n) f)
def KO (N:Nat) (r0:Bool→O R) (q0:Int→O R) (c:LA) (b:Nat) (d e:Bool):O R :=
 (q0 1)
def Ow:=(Ah (fun (N:Nat) (c:LA) (b:Nat) (d e:Bool) (r0:Bool→O R)=>(KO N r0 (fun f=>(G9 N r0 c b d e N f)) c b d e))).1
theorem eK (c b d e r0):(@Ow R N c b d e r0)=(KO N r0 (fun f=>(G9 N r0 c b d e N f)) c b d e):=by rw[Ow,(Ah _).2]
def kD:Hints:={ H:=(hS hL (hS (hS hL (hS (hP [0,3] hL) hL)) hL)) }
def Aks (F:KF R):=Jw Tryz.f189 kD [] [] N F
def Re (F:KF R):Bool→O R:=(fun l=>F (.bool l) [])
def Akt (c:LA) (b:Nat) (d e:Bool) (f:Int):St:=⟨[(0,(.imm c b 1 d e)),(3,(iv f))],[]⟩
def Aku (F:KF R):=Aks N F [1,0,1,0] []
theorem PI (F:KF R) (c:LA) (b:Nat) (d e:Bool):∀ (n:Nat) (f:Int),Ao (Aku N F) n (Akt c b d e f)=(G9 N (Re F) c b d e n f)
 | 0,_=>by kernel_rfl
 | n+1,f=>Eq.trans (by kernel_rfl) (Bp (Ov N (Re F) c b d e · f) (funext fun f=>(PI F c b d e n f)):_)
theorem kE (c:LA) (b:Nat) (d e:Bool) (F:KF R):Ch [] kD N 189 [(.imm c b 1 d e)] [] F=(Ow N c b d e (Re F)):=by
 rw[eK]
 exact Eq.trans (by kernel_rfl) (Bp (KO N (Re F) · c b d e) (funext fun f=>(Aj ..).trans (PI N F c b d e N f)):_)
def eL (a:LA) (h:Am) (k:KF R):O R :=
 match a,h with
 | [(.imm c b 1 d e)],[]=>(Ow N c b d e (Re k))
 | _,_=>none
theorem kF:Ap N 189 @eL:=by
 intro R Q a h k j;unfold eL;split;exact A0 (kE ..) (kE ..) trivial;exact A3
def kG:=A1 (kF N)
def kH:=Ce (kF N)
def Uy (i:LA) (m:Bool) (b:LA) (c:Nat) (n d:Bool) (e f g:Int) (l:LA) (r0:LA→O R):O R :=
 (An .i64 i fun o=>(Aw N 0 (wrap .i64 (o - 1)) b c false d (fun p=>(Ab N p e f g 3 l (fun q=>(Ow N b c false d (fun r=>(Ab N r e f g 11 q (fun s=>(r0 s))))))))))
def Hf:=(Ah (@Uy R)).1
theorem Yx:@Hf R=@Uy R:=(Ah _).2
def mL:D9:=[(156,De N),(155,Bq N),(189,kG N)]
def BA (F:KF R):LA→O R:=(fun t=>F (.tup []) [(100000,(bQ 0 t))])
theorem BB (i:LA) (m:Bool) (b:LA) (c:Nat) (n d:Bool) (e f g:Int) (l:LA) (F:KF R):Ch (mL N) Dj N 187 [(.optr 100000 0),(.pagg i m),(.imm b c 1 n d),(iv e),(iv f),(iv g)] [(100000,(bQ 0 l))] F=(Hf N i m b c n d e f g l (BA F)):=by
 rw[Yx]
 kernel_rfl
def Yy (a:LA) (h:Am) (k:KF R):O R :=
 match a,h with
 | [(.optr 100000 0),(.pagg i m),(.imm b c 1 n d),(.int .i64 e),(.int .i64 f),(.int .i64 g)],[(100000,⟨false,false,true,false,0,l,false⟩)]=>(Hf N i m b c n d e f g l (BA k))
 | _,_=>none
theorem BC:Ap N 187 @Yy:=by
 intro R Q a h k j;unfold Yy;split;exact A0 (BB ..) (BB ..) ⟨Df N,Br N,kH N,trivial⟩;exact A3
def BD:=A1 (BC N)
def BE:=Ce (BC N)
def Qm (r0:LA→O R) (b:Int) (c:Bool) (d e:LA) (m:LA):O R :=
 (An .i64 (e.drop 9) fun o=>(Aw N 0 1048576 [(.int .i64 o)] 1 false true (fun p=>(Ab N p 2 b 6 3 m (fun q=>(An .i64 (e.drop 9) fun r=>(An .i64 (e.drop 10) fun s=>(Aw N r 1048576 [(.int .i64 s)] 1 false true (fun t=>(Ab N t 2 b 7 3 q (fun u=>(cond (Nat.ble 8 (d.length)) (Co 1 (e.drop 11) fun v w=>(Hf N (d.take 8) c v w false c 2 b 8 u (fun x=>(r0 x)))) none))))))))))))
def Ox (r0:LA→O R) (b:Int) (c:Bool) (d e:LA) (q2:LA→O R) (g:LA):O R :=
 (cond (Nat.ble 2 ((e.drop 7).length)) (cond ((!c)||(Bb ((e.drop 7).take 2))) (I0 N ((e.drop 7).take 2) false (fun y=>(cond (y==true) (An .i64 (e.drop 7) fun z=>(Ab N (cond true (decide (z≥0)) false) 2 b 5 3 g (fun aa=>(q2 aa)))) (Ab N false 2 b 5 3 g (fun ab=>(q2 ab)))))) none) none)
def Qn (r0:LA→O R) (b:Int) (c:Bool) (d e:LA) (g:LA):O R:=(Ox N r0 b c d e (fun m=>(Qm N r0 b c d e m)) g)
def Oy (r0:LA→O R) (b:Int) (c:Bool) (d:LA) (q1:LA→O R) (f e:LA):O R :=
 (cond (Nat.ble 2 ((e.drop 5).length)) (cond ((!c)||(Bb ((e.drop 5).take 2))) (I0 N ((e.drop 5).take 2) false (fun ac=>(cond (ac==true) (An .i64 (e.drop 5) fun ad=>(Ab N (cond true (decide (ad≤0)) false) 2 b 4 3 f (fun ae=>(q1 ae)))) (Ab N false 2 b 4 3 f (fun af=>(q1 af)))))) none) none)
def J5 (r0:LA→O R) (b:Int) (c:Bool) (d:LA) (f e:LA):O R:=(Oy N r0 b c d (fun g=>(Qn N r0 b c d e g)) f e)
def Nz (r0:LA→O R) (q0:LA→LA→O R) (d:LA) (c:Bool) (b:Int) (i:LA):O R :=
 (Co 12 (d.drop 3) fun l ag=>(cond (Ac b ag) (cond (Nat.ble 12 ((l.drop ((b.toNat)*12)).length)) (cond ((Nat.beq 0 0)&&((Nat.beq (((l.drop ((b.toNat)*12)).take 12).length) 12)&&(Nat.beq 12 12))) (cond (Nat.ble 8 (d.length)) (Ck N (d.take 8) c 2 b i (fun ah=>(cond (Nat.ble 8 (d.length)) (An .i64 (((l.drop ((b.toNat)*12)).take 12).drop 1) fun ai=>(D6 N (d.take 8) c ai 2 b 1 ah (fun aj=>(cond (Nat.ble 8 (d.length)) (An .i64 (((l.drop ((b.toNat)*12)).take 12).drop 2) fun ak=>(D6 N (d.take 8) c ak 2 b 2 aj (fun al=>(An .i64 (((l.drop ((b.toNat)*12)).take 12).drop 1) fun am=>(An .i64 (((l.drop ((b.toNat)*12)).take 12).drop 2) fun an=>(Ab N (am != an) 2 b 2 1 al (fun n=>(cond (Nat.ble 2 ((((l.drop ((b.toNat)*12)).take 12).drop 3).length)) (cond ((!c)||(Bb ((((l.drop ((b.toNat)*12)).take 12).drop 3).take 2))) (I0 N ((((l.drop ((b.toNat)*12)).take 12).drop 3).take 2) false (fun ao=>(cond (ao==true) (An .i64 (((l.drop ((b.toNat)*12)).take 12).drop 3) fun ap=>(Ab N (cond true (decide (ap>0)) false) 2 b 3 3 n (fun aq=>(q0 aq ((l.drop ((b.toNat)*12)).take 12))))) (Ab N false 2 b 3 3 n (fun ar=>(q0 ar ((l.drop ((b.toNat)*12)).take 12))))))) none) none)))))))) none)))) none))) none) none) none) none))
def Hg:=(Ah (fun (N:Nat) (d:LA) (c:Bool) (b:Int) (i:LA) (r0:LA→O R)=>(Nz N r0 (fun f e=>(J5 N r0 b c d f e)) d c b i))).1
theorem Yz (d c b i r0):(@Hg R N d c b i r0)=(Nz N r0 (fun f e=>(J5 N r0 b c d f e)) d c b i):=by rw[Hg,(Ah _).2]
def BF:Hints:={ H:=(hS hL (hS hL (hS hL (hS hL (hS hL (hS hL (hJ [0,2,4,6,7] hL (hJ [0,2,4,6,7] hL (hJ [0,2,4,6,7] hL hL))))))))) }
def GL:D9:=[(153,E2 N),(185,L7 N),(155,Bq N),(186,YC N),(156,De N),(187,BD N)]
def Qo (F:KF R):=Jw Tryz.f157 BF (GL N) [100000] N F
def C0 (F:KF R):LA→O R:=(fun au=>F (.tup []) [(100000,(bQ 0 au))])
def gi (b:Int) (c:Bool) (d e m:LA):St:=⟨[(0,(.optr 100000 0)),(2,(iv b)),(4,(op 0)),(6,(op 1)),(7,(iv 2))],[(100000,(bQ 0 m)),(300000,(bP c 0 d)),(300001,(bP c 0 e))]⟩
def gj (F:KF R):=Qo N F [1,1,1,1,1,1,1,1,1] []
def gk (b:Int) (c:Bool) (d e g:LA):St:=⟨[(0,(.optr 100000 0)),(2,(iv b)),(4,(op 0)),(6,(op 1)),(7,(iv 2))],[(100000,(bQ 0 g)),(300000,(bP c 0 d)),(300001,(bP c 0 e))]⟩
def gn (F:KF R):=Qo N F [1,1,1,1,1,1,1,1] []
def gp (b:Int) (c:Bool) (d f e:LA):St:=⟨[(0,(.optr 100000 0)),(2,(iv b)),(4,(op 0)),(6,(op 1)),(7,(iv 2))],[(100000,(bQ 0 f)),(300000,(bP c 0 d)),(300001,(bP c 0 e))]⟩
def gq (F:KF R):=Qo N F [1,1,1,1,1,1,1] []
theorem UH (F:KF R) (b:Int) (c:Bool) (d e:LA):∀ (m:LA),A9 (gj N F) (gi b c d e m)=(Qm N (C0 F) b c d e m):=by
 intro m
 kernel_rfl
theorem UI (F:KF R) (b:Int) (c:Bool) (d e:LA):∀ (g:LA),A9 (gn N F) (gk b c d e g)=(Qn N (C0 F) b c d e g):=by
 intro g
 exact Eq.trans (by kernel_rfl) (Bp (Ox N (C0 F) b c d e · g) (funext fun m=>(At ..).trans (UH N F b c d e m)):_)
theorem UJ (F:KF R) (b:Int) (c:Bool) (d:LA):∀ (f e:LA),A9 (gq N F) (gp b c d f e)=(J5 N (C0 F) b c d f e):=by
 intro f e
 exact Eq.trans (by kernel_rfl) (Bp (Oy N (C0 F) b c d · f e) (funext fun g=>(At ..).trans (UI N F b c d e g)):_)
theorem BG (d:LA) (c:Bool) (b:Int) (i:LA) (F:KF R):Ch (GL N) BF N 157 [(.optr 100000 0),(.pagg d c),(iv b)] [(100000,(bQ 0 i))] F=(Hg N d c b i (C0 F)):=by
 rw[Yz]
 exact Eq.trans (by kernel_rfl) (Bp (Nz N (C0 F) · d c b i) (funext fun f=>funext fun e=>(At ..).trans (UJ N F b c d f e)):_)
def Y0 (a:LA) (h:Am) (k:KF R):O R :=
 match a,h with
 | [(.optr 100000 0),(.pagg d c),(.int .i64 b)],[(100000,⟨false,false,true,false,0,i,false⟩)]=>(Hg N d c b i (C0 k))
 | _,_=>none
theorem BH:Ap N 157 @Y0:=by
 intro R Q a h k j;unfold Y0;split;exact A0 (BG ..) (BG ..) ⟨E3 N,L8 N,Br N,YD N,Df N,BE N,trivial⟩;exact A3
def gt:=A1 (BH N)
def gv:=Ce (BH N)
end
end Gx

namespace Gx
open Go Go.Proofs
open IntKind (wrap)
set_option maxRecDepth 100000
noncomputable section
variable {R:Type} (N:Nat)
def Fv (r0:LA→O R) (c:Int) (e:LA) (d:Bool) (b:LA) (k2:Int→Int→O R) (q p:Int):O R :=
 (Co 2 (b.drop 4) fun ba s=>(cond ((decide (p<((s:Nat):Int)))==true) (An .i64 (e.drop 3) fun t=>(cond (cond true (t==0) false) (Co 2 (b.drop 4) fun u v=>(cond (Ac p v) (An .i64 (u.drop ((p.toNat)*2)) fun w=>(k2 (wrap .i64 (q+w)) (wrap .i64 (p+1)))) none)) (An .i64 (e.drop 3) fun x=>(cond ((x != 0)==false) (An .i64 (b.drop 3) fun y=>(An .i64 (b.drop 2) fun z=>(Ab N (cond false true (q==(wrap .i64 (y - z)))) 3 c 4 4 e (fun aa=>(r0 aa))))) (Ab N true 3 c 4 4 e (fun ab=>(r0 ab))))))) (An .i64 (e.drop 3) fun ac=>(cond ((ac != 0)==false) (An .i64 (b.drop 3) fun ad=>(An .i64 (b.drop 2) fun ae=>(Ab N (cond false true (q==(wrap .i64 (ad - ae)))) 3 c 4 4 e (fun af=>(r0 af))))) (Ab N true 3 c 4 4 e (fun ag=>(r0 ag)))))))
def C6 (r0:LA→O R) (c:Int) (e:LA) (d:Bool) (b:LA):Nat→Int→Int→O R
 | 0,_,_=>none
 | n+1,q,p=>(Fv N r0 c e d b (C6 r0 c e d b n) q p)
def D4 (r0:LA→O R) (c:Int) (d:Bool) (b:LA) (k1:Int→LA→O R) (q2:Int→Int→O R) (i:Int) (e:LA):O R :=
 (Co 2 (b.drop 4) fun bb ah=>(cond (decide (i<((ah:Nat):Int))) (Co 2 (b.drop 4) fun ai aj=>(cond (Ac i aj) (An .i64 ((ai.drop ((i.toNat)*2)).drop 1) fun ak=>(Co 2 (b.drop 4) fun al am=>(cond (Ac (wrap .i64 (i - 1)) am) (An .i64 ((al.drop (((wrap .i64 (i - 1)).toNat)*2)).drop 1) fun an=>(Ab N (decide (ak≥an)) 3 c 4 11 e (fun ao=>(k1 (wrap .i64 (i+1)) ao)))) none))) none)) (q2 0 0)))
def Cl (r0:LA→O R) (c:Int) (d:Bool) (b:LA):Nat→Int→LA→O R
 | 0,_,_=>none
 | n+1,i,e=>(D4 N r0 c d b (Cl r0 c d b n) (fun q p=>(C6 N r0 c e d b N q p)) i e)
def Fw (r0:LA→O R) (c:Int) (g:LA) (l:Nat) (d:Bool) (b:LA) (k0:Int→Int→LA→O R) (q1:Int→LA→O R) (m f:Int) (o:LA):O R :=
 (cond (decide (f<m)) (cond (Ac f l) (cond (Nat.ble 2 ((g.drop ((f.toNat)*2)).length)) (cond ((!d)||(Bb ((g.drop ((f.toNat)*2)).take 2))) (cond ((Nat.beq (((g.drop ((f.toNat)*2)).take 2).length) 2)&&((Nat.ble 2 2)&&(!false))) (An .i64 (setCells [(.int .i64 0),(.int .i64 0)] 0 ((g.drop ((f.toNat)*2)).take 2)) fun ap=>(Aw N 1 1048576 [(.int .i64 ap)] 1 false true (fun aq=>(cond (aq==true) (An .i64 ((setCells [(.int .i64 0),(.int .i64 0)] 0 ((g.drop ((f.toNat)*2)).take 2)).drop 1) fun ar=>(Aw N (-1048576) 1048576 [(.int .i64 ar)] 1 false true (fun au=>(Ab N (cond true au false) 3 c 4 3 o (fun av=>(k0 m (wrap .i64 (f+1)) av)))))) (Ab N false 3 c 4 3 o (fun aw=>(k0 m (wrap .i64 (f+1)) aw))))))) none) none) none) none) (q1 1 o))
def Cm (r0:LA→O R) (c:Int) (g:LA) (l:Nat) (d:Bool) (b:LA):Nat→Int→Int→LA→O R
 | 0,_,_,_=>none
 | n+1,m,f,o=>(Fw N r0 c g l d b (Cm r0 c g l d b n) (fun i e=>(Cl N r0 c d b N i e)) m f o)
def H4 (r0:LA→O R) (q0:LA→Nat→Int→Int→LA→O R) (b:LA) (d:Bool) (c:Int) (r:LA):O R :=
 (Co 2 (b.drop 4) fun bc ax=>(Ab N (decide (((ax:Nat):Int)≤8)) 3 c 4 8 r (fun ay=>(Co 2 (b.drop 4) fun g l=>(q0 g l ((l:Nat):Int) 0 ay)))))
def Dg:=(Ah (fun (N:Nat) (b:LA) (d:Bool) (c:Int) (r:LA) (r0:LA→O R)=>(H4 N r0 (fun g l m f o=>(Cm N r0 c g l d b N m f o)) b d c r))).1
theorem Rf (b d c r r0):(@Dg R N b d c r r0)=(H4 N r0 (fun g l m f o=>(Cm N r0 c g l d b N m f o)) b d c r):=by rw[Dg,(Ah _).2]
def Tp:Hints:={ H:=(hS hL (hS hL (hS hL (hS (hS hL (hS (hP [0,2,4,6,21,22,23] hL) hL)) (hS (hS hL (hS (hP [0,2,4,6,9] hL) hL)) (hS hL (hS (hS hL (hS (hP [0,2,4,6,10,11] hL) hL)) hL))))))) }
def Uz:D9:=[(155,Bq N),(156,De N)]
def Kp (F:KF R):=Jw Tryz.f188 Tp (Uz N) [100000] N F
def Bl (F:KF R):LA→O R:=(fun az=>F (.tup []) [(100000,(bQ 0 az))])
def PJ (c:Int) (e:LA) (d:Bool) (b:LA) (q p:Int):St:=⟨[(0,(.optr 100000 0)),(2,(iv c)),(4,(op 0)),(6,(iv 3)),(10,(iv q)),(11,(iv p))],[(100000,(bQ 0 e)),(300000,(bP d 0 b))]⟩
def PK (F:KF R):=Kp N F [1,1,1,1,1,1,0,1,0] []
def PL (c:Int) (d:Bool) (b:LA) (i:Int) (e:LA):St:=⟨[(0,(.optr 100000 0)),(2,(iv c)),(4,(op 0)),(6,(iv 3)),(9,(iv i))],[(100000,(bQ 0 e)),(300000,(bP d 0 b))]⟩
def PM (F:KF R):=Kp N F [1,1,1,1,0,1,0] []
def PN (c:Int) (g:LA) (l:Nat) (d:Bool) (b:LA) (m f:Int) (o:LA):St:=⟨[(0,(.optr 100000 0)),(2,(iv c)),(4,(op 0)),(6,(iv 3)),(21,(.imm g l 2 false d)),(22,(iv m)),(23,(iv f))],[(100000,(bQ 0 o)),(300000,(bP d 0 b))]⟩
def PO (F:KF R):=Kp N F [1,1,1,0,1,0] []
theorem Oz (F:KF R) (c:Int) (e:LA) (d:Bool) (b:LA):∀ (n:Nat) (q p:Int),Ao (PK N F) n (PJ c e d b q p)=(C6 N (Bl F) c e d b n q p)
 | 0,_,_=>by kernel_rfl
 | n+1,q,p=>Eq.trans (by kernel_rfl) (Bp (Fv N (Bl F) c e d b · q p) (funext fun q=>funext fun p=>(Oz F c e d b n q p)):_)
theorem O0 (F:KF R) (c:Int) (d:Bool) (b:LA):∀ (n:Nat) (i:Int) (e:LA),Ao (PM N F) n (PL c d b i e)=(Cl N (Bl F) c d b n i e)
 | 0,_,_=>by kernel_rfl
 | n+1,i,e=>Eq.trans (by kernel_rfl) (VS (D4 N (Bl F) c d b · · i e) (funext fun i=>funext fun e=>(O0 F c d b n i e)) (funext fun q=>funext fun p=>(Aj ..).trans (Oz N F c e d b N q p)):_)
theorem O1 (F:KF R) (c:Int) (g:LA) (l:Nat) (d:Bool) (b:LA):∀ (n:Nat) (m f:Int) (o:LA),Ao (PO N F) n (PN c g l d b m f o)=(Cm N (Bl F) c g l d b n m f o)
 | 0,_,_,_=>by kernel_rfl
 | n+1,m,f,o=>Eq.trans (by kernel_rfl) (VS (Fw N (Bl F) c g l d b · · m f o) (funext fun m=>funext fun f=>funext fun o=>(O1 F c g l d b n m f o)) (funext fun i=>funext fun e=>(Aj ..).trans (O0 N F c d b N i e)):_)
theorem Tq (b:LA) (d:Bool) (c:Int) (r:LA) (F:KF R):Ch (Uz N) Tp N 188 [(.optr 100000 0),(.pagg b d),(iv c)] [(100000,(bQ 0 r))] F=(Dg N b d c r (Bl F)):=by
 rw[Rf]
 exact Eq.trans (by kernel_rfl) (Bp (H4 N (Bl F) · b d c r) (funext fun g=>funext fun l=>funext fun m=>funext fun f=>funext fun o=>(Aj ..).trans (O1 N F c g l d b N m f o)):_)
def Rg (a:LA) (h:Am) (k:KF R):O R :=
 match a,h with
 | [(.optr 100000 0),(.pagg b d),(.int .i64 c)],[(100000,⟨false,false,true,false,0,r,false⟩)]=>(Dg N b d c r (Bl k))
 | _,_=>none
theorem Tr:Ap N 188 @Rg:=by
 intro R Q a h k j;unfold Rg;split;exact A0 (Tq ..) (Tq ..) ⟨Br N,Df N,trivial⟩;exact A3
def PP:=A1 (Tr N)
def PQ:=Ce (Tr N)
def Qp (r0:LA→O R) (b:Int) (c:Bool) (d i:LA):O R :=
 (An .i64 (d.drop 19) fun o=>(cond (o==2) (An .i64 (d.drop 2) fun p=>(An .i64 (d.drop 3) fun q=>(An .i64 (d.drop 21) fun r=>(Aw N p q [(.int .i64 r)] 1 false true (fun s=>(Ab N s 3 b 21 3 i (fun t=>(r0 t)))))))) (An .i64 (d.drop 21) fun u=>(Ab N (u==0) 3 b 21 3 i (fun v=>(r0 v))))))
def O2 (r0:LA→O R) (b:Int) (c:Bool) (q1:LA→O R) (g d:LA):O R :=
 (An .i64 (d.drop 20) fun w=>(Aw N 1 48 [(.int .i64 w)] 1 false true (fun x=>(Ab N x 3 b 20 3 g (fun m=>(An .i64 (d.drop 19) fun y=>(cond ((y != 1)==false) (An .i64 (d.drop 20) fun z=>(An .i64 (d.drop 12) fun aa=>(Ab N (cond false true (decide (z≤aa))) 3 b 20 3 m (fun ab=>(q1 ab))))) (Ab N true 3 b 20 3 m (fun ac=>(q1 ac))))))))))
def J6 (r0:LA→O R) (b:Int) (c:Bool) (g d:LA):O R:=(O2 N r0 b c (fun i=>(Qp N r0 b c d i)) g d)
def N0 (r0:LA→O R) (q0:LA→LA→O R) (f:LA) (c:Bool) (b:Int) (l:LA):O R :=
 (Co 22 (f.drop 4) fun e ad=>(cond (Ac b ad) (cond (Nat.ble 22 ((e.drop ((b.toNat)*22)).length)) (cond ((Nat.beq 0 0)&&((Nat.beq (((e.drop ((b.toNat)*22)).take 22).length) 22)&&(Nat.beq 22 22))) (cond (Nat.ble 8 (f.length)) (Ck N (f.take 8) c 3 b l (fun ae=>(cond (Nat.ble 8 (f.length)) (An .i64 (((e.drop ((b.toNat)*22)).take 22).drop 1) fun af=>(D6 N (f.take 8) c af 3 b 1 ae (fun ag=>(An .i64 (((e.drop ((b.toNat)*22)).take 22).drop 2) fun ah=>(Aw N 0 1048576 [(.int .i64 ah)] 1 false true (fun ai=>(Ab N ai 3 b 2 3 ag (fun aj=>(An .i64 (((e.drop ((b.toNat)*22)).take 22).drop 2) fun ak=>(An .i64 (((e.drop ((b.toNat)*22)).take 22).drop 3) fun al=>(Aw N ak 1048576 [(.int .i64 al)] 1 false true (fun am=>(Ab N am 3 b 3 3 aj (fun an=>(cond (Nat.ble 22 (((e.drop ((b.toNat)*22)).take 22).length)) (Dg N (((e.drop ((b.toNat)*22)).take 22).take 22) c b an (fun ao=>(An .i64 (((e.drop ((b.toNat)*22)).take 22).drop 5) fun ap=>(Aw N 0 1048576 [(.int .i64 ap)] 1 false true (fun aq=>(Ab N aq 3 b 5 3 ao (fun ar=>(An .i64 (((e.drop ((b.toNat)*22)).take 22).drop 6) fun au=>(Aw N 0 1048576 [(.int .i64 au)] 1 false true (fun av=>(Ab N av 3 b 6 3 ar (fun aw=>(An .i64 (((e.drop ((b.toNat)*22)).take 22).drop 7) fun ax=>(Aw N 0 1048576 [(.int .i64 ax)] 1 false true (fun ay=>(Ab N ay 3 b 7 3 aw (fun az=>(An .i64 (((e.drop ((b.toNat)*22)).take 22).drop 2) fun ba=>(An .i64 (((e.drop ((b.toNat)*22)).take 22).drop 3) fun bb=>(An .i64 (((e.drop ((b.toNat)*22)).take 22).drop 8) fun bc=>(Aw N ba bb [(.int .i64 bc)] 1 false true (fun bd=>(Ab N bd 3 b 8 3 az (fun be=>(An .i64 (((e.drop ((b.toNat)*22)).take 22).drop 2) fun bf=>(An .i64 (((e.drop ((b.toNat)*22)).take 22).drop 3) fun bg=>(An .i64 (((e.drop ((b.toNat)*22)).take 22).drop 9) fun bh=>(Aw N bf bg [(.int .i64 bh)] 1 false true (fun bi=>(Ab N bi 3 b 9 3 be (fun bj=>(An .i64 (((e.drop ((b.toNat)*22)).take 22).drop 10) fun bk=>(Aw N 0 24 [(.int .i64 bk)] 1 false true (fun bl=>(Ab N bl 3 b 10 3 bj (fun bm=>(An .i64 (((e.drop ((b.toNat)*22)).take 22).drop 11) fun bn=>(Aw N 0 24 [(.int .i64 bn)] 1 false true (fun bo=>(Ab N bo 3 b 11 3 bm (fun bp=>(An .i64 (((e.drop ((b.toNat)*22)).take 22).drop 12) fun bq=>(Aw N 0 24 [(.int .i64 bq)] 1 false true (fun br=>(Ab N br 3 b 12 3 bp (fun bs=>(An .i64 (((e.drop ((b.toNat)*22)).take 22).drop 13) fun bt=>(Aw N 0 1048576 [(.int .i64 bt)] 1 false true (fun bu=>(Ab N bu 3 b 13 3 bs (fun bv=>(An .i64 (((e.drop ((b.toNat)*22)).take 22).drop 14) fun bw=>(Aw N 0 1048576 [(.int .i64 bw)] 1 false true (fun bx=>(Ab N bx 3 b 14 3 bv (fun bz=>(An .i64 (((e.drop ((b.toNat)*22)).take 22).drop 15) fun ca=>(Aw N 0 24 [(.int .i64 ca)] 1 false true (fun cb=>(Ab N cb 3 b 15 3 bz (fun cc=>(An .i64 (((e.drop ((b.toNat)*22)).take 22).drop 16) fun cd=>(Aw N 0 1048576 [(.int .i64 cd)] 1 false true (fun ce=>(Ab N ce 3 b 16 3 cc (fun cf=>(An .i64 (((e.drop ((b.toNat)*22)).take 22).drop 17) fun cg=>(Aw N 0 1048576 [(.int .i64 cg)] 1 false true (fun ch=>(Ab N ch 3 b 17 3 cf (fun ci=>(cond (Nat.ble 8 (f.length)) (Co 1 (((e.drop ((b.toNat)*22)).take 22).drop 18) fun cj ck=>(Hf N (f.take 8) c cj ck false c 3 b 18 ci (fun cl=>(An .i64 (((e.drop ((b.toNat)*22)).take 22).drop 19) fun cm=>(Aw N 0 2 [(.int .i64 cm)] 1 false true (fun cn=>(Ab N cn 3 b 19 12 cl (fun n=>(An .i64 (((e.drop ((b.toNat)*22)).take 22).drop 19) fun co=>(cond ((co != 1)==false) (An .i64 (((e.drop ((b.toNat)*22)).take 22).drop 12) fun cp=>(Ab N (cond false true (decide (cp>0))) 3 b 19 16 n (fun cq=>(q0 cq ((e.drop ((b.toNat)*22)).take 22))))) (Ab N true 3 b 19 16 n (fun cr=>(q0 cr ((e.drop ((b.toNat)*22)).take 22)))))))))))))) none)))))))))))))))))))))))))))))))))))))))))))))))))))))))))))))))))))))))) none))))))))))))))) none))) none) none) none) none))
def Hh:=(Ah (fun (N:Nat) (f:LA) (c:Bool) (b:Int) (l:LA) (r0:LA→O R)=>(N0 N r0 (fun g d=>(J6 N r0 b c g d)) f c b l))).1
theorem Y1 (f c b l r0):(@Hh R N f c b l r0)=(N0 N r0 (fun g d=>(J6 N r0 b c g d)) f c b l):=by rw[Hh,(Ah _).2]
def BI:Hints:={ H:=(hS hL (hS hL (hS hL (hS hL (hS hL (hS hL (hS hL (hS hL (hS hL (hS hL (hS hL (hS hL (hS hL (hS hL (hS hL (hS hL (hS hL (hS hL (hS hL (hS hL (hS hL (hS hL (hJ [0,2,6,7] hL (hS hL (hJ [0,2,6,7] hL hL))))))))))))))))))))))))) }
def GM:D9:=[(153,E2 N),(185,L7 N),(156,De N),(155,Bq N),(188,PP N),(187,BD N)]
def BJ (F:KF R):=Jw Tryz.f158 BI (GM N) [100000] N F
def E4 (F:KF R):LA→O R:=(fun cs=>F (.tup []) [(100000,(bQ 0 cs))])
def gw (b:Int) (c:Bool) (d i:LA):St:=⟨[(0,(.optr 100000 0)),(2,(iv b)),(6,(op 0)),(7,(iv 3))],[(100000,(bQ 0 i)),(300000,(bP c 0 d))]⟩
def gy (F:KF R):=BJ N F [1,1,1,1,1,1,1,1,1,1,1,1,1,1,1,1,1,1,1,1,1,1,1,1,1] []
def gz (b:Int) (c:Bool) (g d:LA):St:=⟨[(0,(.optr 100000 0)),(2,(iv b)),(6,(op 0)),(7,(iv 3))],[(100000,(bQ 0 g)),(300000,(bP c 0 d))]⟩
def hG (F:KF R):=BJ N F [1,1,1,1,1,1,1,1,1,1,1,1,1,1,1,1,1,1,1,1,1,1,1] []
theorem UK (F:KF R) (b:Int) (c:Bool) (d:LA):∀ (i:LA),A9 (gy N F) (gw b c d i)=(Qp N (E4 F) b c d i):=by
 intro i
 kernel_rfl
theorem UL (F:KF R) (b:Int) (c:Bool):∀ (g d:LA),A9 (hG N F) (gz b c g d)=(J6 N (E4 F) b c g d):=by
 intro g d
 exact Eq.trans (by kernel_rfl) (Bp (O2 N (E4 F) b c · g d) (funext fun i=>(At ..).trans (UK N F b c d i)):_)
theorem BK (f:LA) (c:Bool) (b:Int) (l:LA) (F:KF R):Ch (GM N) BI N 158 [(.optr 100000 0),(.pagg f c),(iv b)] [(100000,(bQ 0 l))] F=(Hh N f c b l (E4 F)):=by
 rw[Y1]
 exact Eq.trans (by kernel_rfl) (Bp (N0 N (E4 F) · f c b l) (funext fun g=>funext fun d=>(At ..).trans (UL N F b c g d)):_)
def Y2 (a:LA) (h:Am) (k:KF R):O R :=
 match a,h with
 | [(.optr 100000 0),(.pagg f c),(.int .i64 b)],[(100000,⟨false,false,true,false,0,l,false⟩)]=>(Hh N f c b l (E4 k))
 | _,_=>none
theorem BL:Ap N 158 @Y2:=by
 intro R Q a h k j;unfold Y2;split;exact A0 (BK ..) (BK ..) ⟨E3 N,L8 N,Df N,Br N,PQ N,BE N,trivial⟩;exact A3
def hI:=A1 (BL N)
def hZ:=Ce (BL N)
def Sp (d:LA) (e:Bool) (b:Int) (f:LA) (r0:LA→O R):O R :=
 (Co 9 (d.drop 5) fun c i=>(cond (Ac b i) (cond (Nat.ble 9 ((c.drop ((b.toNat)*9)).length)) (cond ((Nat.beq 0 0)&&((Nat.beq (((c.drop ((b.toNat)*9)).take 9).length) 9)&&(Nat.beq 9 9))) (cond (Nat.ble 8 (d.length)) (Ck N (d.take 8) e 4 b f (fun l=>(cond (Nat.ble 8 (d.length)) (An .i64 (((c.drop ((b.toNat)*9)).take 9).drop 1) fun m=>(D6 N (d.take 8) e m 4 b 1 l (fun n=>(An .i64 (((c.drop ((b.toNat)*9)).take 9).drop 2) fun o=>(Aw N 0 1048576 [(.int .i64 o)] 1 false true (fun p=>(Ab N p 4 b 2 3 n (fun q=>(An .i64 (((c.drop ((b.toNat)*9)).take 9).drop 2) fun r=>(An .i64 (((c.drop ((b.toNat)*9)).take 9).drop 3) fun s=>(Aw N 0 r [(.int .i64 s)] 1 false true (fun t=>(Ab N t 4 b 3 3 q (fun u=>(An .i64 (((c.drop ((b.toNat)*9)).take 9).drop 2) fun v=>(An .i64 (((c.drop ((b.toNat)*9)).take 9).drop 4) fun w=>(Aw N 0 v [(.int .i64 w)] 1 false true (fun x=>(Ab N x 4 b 4 3 u (fun y=>(An .i64 (((c.drop ((b.toNat)*9)).take 9).drop 5) fun z=>(Aw N 0 1048576 [(.int .i64 z)] 1 false true (fun aa=>(Ab N aa 4 b 5 3 y (fun ab=>(An .i64 (((c.drop ((b.toNat)*9)).take 9).drop 6) fun ac=>(Aw N 0 1048576 [(.int .i64 ac)] 1 false true (fun ad=>(Ab N ad 4 b 6 3 ab (fun g=>(cond (Nat.ble 2 ((((c.drop ((b.toNat)*9)).take 9).drop 7).length)) (cond ((!e)||(Bb ((((c.drop ((b.toNat)*9)).take 9).drop 7).take 2))) (I0 N ((((c.drop ((b.toNat)*9)).take 9).drop 7).take 2) false (fun ae=>(cond (ae==true) (An .i64 (((c.drop ((b.toNat)*9)).take 9).drop 7) fun af=>(cond ((cond true (decide (af>0)) false)==true) (An .i64 (((c.drop ((b.toNat)*9)).take 9).drop 7) fun ag=>(An .i64 (((c.drop ((b.toNat)*9)).take 9).drop 8) fun ah=>(Ab N (cond true (decide (ag≤ah)) false) 4 b 7 3 g (fun ai=>(r0 ai))))) (Ab N false 4 b 7 3 g (fun aj=>(r0 aj))))) (Ab N false 4 b 7 3 g (fun ak=>(r0 ak)))))) none) none))))))))))))))))))))))))))))))) none))) none) none) none) none))
def I3:=(Ah (@Sp R)).1
theorem Vx:@I3 R=@Sp R:=(Ah _).2
def h_:D9:=[(153,E2 N),(185,L7 N),(156,De N),(155,Bq N),(186,YC N)]
def Y3 (F:KF R):LA→O R:=(fun al=>F (.tup []) [(100000,(bQ 0 al))])
theorem Y4 (d:LA) (e:Bool) (b:Int) (f:LA) (F:KF R):Ch (h_ N) Dj N 159 [(.optr 100000 0),(.pagg d e),(iv b)] [(100000,(bQ 0 f))] F=(I3 N d e b f (Y3 F)):=by
 rw[Vx]
 kernel_rfl
def Vy (a:LA) (h:Am) (k:KF R):O R :=
 match a,h with
 | [(.optr 100000 0),(.pagg d e),(.int .i64 b)],[(100000,⟨false,false,true,false,0,f,false⟩)]=>(I3 N d e b f (Y3 k))
 | _,_=>none
theorem Y5:Ap N 159 @Vy:=by
 intro R Q a h k j;unfold Vy;split;exact A0 (Y4 ..) (Y4 ..) ⟨E3 N,L8 N,Df N,Br N,YD N,trivial⟩;exact A3
def eM:=A1 (Y5 N)
def eN:=Ce (Y5 N)
def W0 (c:LA) (d:Bool) (b:Int) (e:LA) (r0:LA→O R):O R :=
 (Co 5 (c.drop 6) fun f g=>(cond (Ac b g) (cond (Nat.ble 5 ((f.drop ((b.toNat)*5)).length)) (cond ((Nat.beq 0 0)&&((Nat.beq (((f.drop ((b.toNat)*5)).take 5).length) 5)&&(Nat.beq 5 5))) (cond (Nat.ble 8 (c.length)) (Ck N (c.take 8) d 5 b e (fun i=>(cond (Nat.ble 8 (c.length)) (An .i64 (((f.drop ((b.toNat)*5)).take 5).drop 1) fun l=>(D6 N (c.take 8) d l 5 b 1 i (fun m=>(cond (Nat.ble 8 (c.length)) (Co 1 (((f.drop ((b.toNat)*5)).take 5).drop 2) fun n o=>(Cs N (c.take 8) d n o false d 0 1048576 5 b 2 m (fun p=>(cond (Nat.ble 8 (c.length)) (Co 1 (((f.drop ((b.toNat)*5)).take 5).drop 3) fun q r=>(Cs N (c.take 8) d q r false d 0 1048576 5 b 3 p (fun s=>(cond (Nat.ble 8 (c.length)) (Co 1 (((f.drop ((b.toNat)*5)).take 5).drop 4) fun t u=>(Cs N (c.take 8) d t u false d (-1048576) 1048576 5 b 4 s (fun v=>(r0 v)))) none)))) none)))) none)))) none))) none) none) none) none))
def My:=(Ah (@W0 R)).1
theorem BM:@My R=@W0 R:=(Ah _).2
def qH:D9:=[(153,E2 N),(185,L7 N),(154,Nj N)]
def GN (F:KF R):LA→O R:=(fun w=>F (.tup []) [(100000,(bQ 0 w))])
theorem GO (c:LA) (d:Bool) (b:Int) (e:LA) (F:KF R):Ch (qH N) Dj N 160 [(.optr 100000 0),(.pagg c d),(iv b)] [(100000,(bQ 0 e))] F=(My N c d b e (GN F)):=by
 rw[BM]
 kernel_rfl
def BN (a:LA) (h:Am) (k:KF R):O R :=
 match a,h with
 | [(.optr 100000 0),(.pagg c d),(.int .i64 b)],[(100000,⟨false,false,true,false,0,e,false⟩)]=>(My N c d b e (GN k))
 | _,_=>none
theorem GP:Ap N 160 @BN:=by
 intro R Q a h k j;unfold BN;split;exact A0 (GO ..) (GO ..) ⟨E3 N,L8 N,Nk N,trivial⟩;exact A3
def mM:=A1 (GP N)
def mN:=Ce (GP N)
def G4 (r0:LA→O R) (b:Int) (l:LA) (o:Nat) (c:Bool) (k2:Int→Int→LA→O R) (r f:Int) (s:LA):O R :=
 (cond (decide (f<r)) (cond (Ac f o) (cond (Nat.ble 3 ((l.drop ((f.toNat)*3)).length)) (cond ((!c)||(Bb ((l.drop ((f.toNat)*3)).take 3))) (cond ((Nat.beq (((l.drop ((f.toNat)*3)).take 3).length) 3)&&((Nat.ble 3 3)&&(!false))) (An .i64 ((setCells [(.int .i64 0),(.int .i64 0),(.int .i64 0)] 0 ((l.drop ((f.toNat)*3)).take 3)).drop 1) fun z=>(An .i64 ((setCells [(.int .i64 0),(.int .i64 0),(.int .i64 0)] 0 ((l.drop ((f.toNat)*3)).take 3)).drop 2) fun aa=>(Aw N 0 1048576 [(.int .i64 z),(.int .i64 aa)] 2 false true (fun ab=>(Ab N ab 6 b 3 3 s (fun ac=>(k2 r (wrap .i64 (f+1)) ac))))))) none) none) none) none) (r0 s))
def Dx (r0:LA→O R) (b:Int) (l:LA) (o:Nat) (c:Bool):Nat→Int→Int→LA→O R
 | 0,_,_,_=>none
 | n+1,r,f,s=>(G4 N r0 b l o c (Dx r0 b l o c n) r f s)
def G5 (r0:LA→O R) (b:Int) (m:LA) (p:Nat) (c:Bool) (t d e:LA) (k1:Nat→Int→Int→LA→O R) (q2:LA→Nat→Int→Int→LA→O R) (g:Nat) (u i:Int) (q:LA):O R :=
 (cond (decide (i<u)) (cond (Ac i p) (cond (Nat.ble 3 ((m.drop ((i.toNat)*3)).length)) (cond ((!c)||(Bb ((m.drop ((i.toNat)*3)).take 3))) (cond ((Nat.beq (((m.drop ((i.toNat)*3)).take 3).length) 3)&&((Nat.ble 3 3)&&(!false))) (An .i64 (setCells [(.int .i64 0),(.int .i64 0),(.int .i64 0)] 0 ((m.drop ((i.toNat)*3)).take 3)) fun ad=>(cond ((Nat.ble (g+1) 140737488355328)&&(Nat.ble ((g+1)*8) 140737488355328)) (k1 (g+1) u (wrap .i64 (i+1)) ((q.take (g*1))++[(.int .i64 ad)])) none)) none) none) none) none) (Co 22 (d.drop 4) fun be ae=>(Aw N 0 (wrap .i64 (((ae:Nat):Int) - 1)) (q.take (g*1)) g false true (fun af=>(Ab N af 6 b 3 12 t (fun ag=>(Ow N (q.take (g*1)) g false true (fun ah=>(Ab N ah 6 b 3 11 ag (fun ai=>(Co 3 (e.drop 3) fun l o=>(q2 l o ((o:Nat):Int) 0 ai))))))))))))
def Dy (r0:LA→O R) (b:Int) (m:LA) (p:Nat) (c:Bool) (t d e:LA):Nat→Nat→Int→Int→LA→O R
 | 0,_,_,_,_=>none
 | n+1,g,u,i,q=>(G5 N r0 b m p c t d e (Dy r0 b m p c t d e n) (fun l o r f s=>(Dx N r0 b l o c N r f s)) g u i q)
def L9 (r0:LA→O R) (b:Int) (c:Bool) (d:LA) (q1:LA→Nat→LA→Nat→Int→Int→LA→O R) (v e:LA):O R :=
 (Co 3 (e.drop 3) fun bf aj=>(Ab N (decide (((aj:Nat):Int)≤16)) 6 b 3 8 v (fun t=>(Co 3 (e.drop 3) fun m p=>(q1 m p t 0 ((p:Nat):Int) 0 [])))))
def H5 (r0:LA→O R) (b:Int) (c:Bool) (d:LA) (v e:LA):O R:=(L9 N r0 b c d (fun m p t g u i q=>(Dy N r0 b m p c t d e N g u i q)) v e)
def J7 (r0:LA→O R) (q0:LA→LA→O R) (d:LA) (c:Bool) (b:Int) (w:LA):O R :=
 (Co 4 (d.drop 7) fun x ak=>(cond (Ac b ak) (cond (Nat.ble 4 ((x.drop ((b.toNat)*4)).length)) (cond ((Nat.beq 0 0)&&((Nat.beq (((x.drop ((b.toNat)*4)).take 4).length) 4)&&(Nat.beq 4 4))) (cond (Nat.ble 8 (d.length)) (Ck N (d.take 8) c 6 b w (fun al=>(Co 1 (((x.drop ((b.toNat)*4)).take 4).drop 1) fun bg am=>(Aw N 1 2 [(.int .i64 ((am:Nat):Int))] 1 false true (fun an=>(Ab N an 6 b 1 4 al (fun ao=>(Co 12 (d.drop 3) fun bh ap=>(Co 1 (((x.drop ((b.toNat)*4)).take 4).drop 1) fun aq ar=>(Aw N 0 (wrap .i64 (((ap:Nat):Int) - 1)) aq ar false c (fun au=>(Ab N au 6 b 1 12 ao (fun av=>(Co 1 (((x.drop ((b.toNat)*4)).take 4).drop 1) fun aw ax=>(Ow N aw ax false c (fun ay=>(Ab N ay 6 b 1 11 av (fun y=>(NC (((x.drop ((b.toNat)*4)).take 4).drop 2) fun az=>(cond (az==false) (Co 3 (((x.drop ((b.toNat)*4)).take 4).drop 3) fun bi ba=>(Ab N (cond false true (((ba:Nat):Int)==0)) 6 b 3 16 y (fun bb=>(q0 bb ((x.drop ((b.toNat)*4)).take 4))))) (Ab N true 6 b 3 16 y (fun bc=>(q0 bc ((x.drop ((b.toNat)*4)).take 4)))))))))))))))))))))))) none) none) none) none))
def Fn:=(Ah (fun (N:Nat) (d:LA) (c:Bool) (b:Int) (w:LA) (r0:LA→O R)=>(J7 N r0 (fun v e=>(H5 N r0 b c d v e)) d c b w))).1
theorem U0 (d c b w r0):(@Fn R N d c b w r0)=(J7 N r0 (fun v e=>(H5 N r0 b c d v e)) d c b w):=by rw[Fn,(Ah _).2]
def Vz:Hints:={ H:=(hS hL (hS hL (hS hL (hS hL (hS hL (hS hL (hJ [0,2,4,6,7] hL (hS hL (hS hL (hS (hS hL (hS (hP [0,2,4,6,7,8,71,72,73] hL) hL)) (hS hL (hS hL (hS hL (hS (hP [0,2,7,100,101,102] hL) hL)))))))))))))),nils:=[(8,1)] }
def Y6:D9:=[(153,E2 N),(156,De N),(155,Bq N),(189,kG N)]
def Nl (F:KF R):=Jw Tryz.f161 Vz (Y6 N) [100000] N F
def B0 (F:KF R):LA→O R:=(fun bd=>F (.tup []) [(100000,(bQ 0 bd))])
def ZR (b:Int) (l:LA) (o:Nat) (c:Bool) (r f:Int) (s:LA):St:=⟨[(0,(.optr 100000 0)),(2,(iv b)),(7,(iv 6)),(100,(.imm l o 3 false c)),(101,(iv r)),(102,(iv f))],[(100000,(bQ 0 s))]⟩
def ZS (F:KF R):=Nl N F [1,1,1,1,1,1,1,1,1,1,1,1,1,0] []
def ZT (b:Int) (m:LA) (p:Nat) (c:Bool) (t d e:LA) (g:Nat) (u i:Int) (q:LA):St:=⟨[(0,(.optr 100000 0)),(2,(iv b)),(4,(op 0)),(6,(op 1)),(7,(iv 6)),(8,(.own 300002 0 g)),(71,(.imm m p 3 false c)),(72,(iv u)),(73,(iv i))],[(100000,(bQ 0 t)),(300000,(bP c 0 d)),(300001,(bP c 0 e)),(300002,(bQ 1 q))]⟩
def ZU (F:KF R):=Nl N F [1,1,1,1,1,1,1,1,1,0,1,0] []
def ZV (b:Int) (c:Bool) (d v e:LA):St:=⟨[(0,(.optr 100000 0)),(2,(iv b)),(4,(op 0)),(6,(op 1)),(7,(iv 6))],[(100000,(bQ 0 v)),(300000,(bP c 0 d)),(300001,(bP c 0 e))]⟩
def ZW (F:KF R):=Nl N F [1,1,1,1,1,1,1] []
theorem Rh (F:KF R) (b:Int) (l:LA) (o:Nat) (c:Bool):∀ (n:Nat) (r f:Int) (s:LA),Ao (ZS N F) n (ZR b l o c r f s)=(Dx N (B0 F) b l o c n r f s)
 | 0,_,_,_=>by kernel_rfl
 | n+1,r,f,s=>Eq.trans (by kernel_rfl) (Bp (G4 N (B0 F) b l o c · r f s) (funext fun r=>funext fun f=>funext fun s=>(Rh F b l o c n r f s)):_)
theorem Ri (F:KF R) (b:Int) (m:LA) (p:Nat) (c:Bool) (t d e:LA):∀ (n g:Nat) (u i:Int) (q:LA),Ao (ZU N F) n (ZT b m p c t d e g u i q)=(Dy N (B0 F) b m p c t d e n g u i q)
 | 0,_,_,_,_=>by kernel_rfl
 | n+1,g,u,i,q=>Eq.trans (by kernel_rfl) (VS (G5 N (B0 F) b m p c t d e · · g u i q) (funext fun g=>funext fun u=>funext fun i=>funext fun q=>(Ri F b m p c t d e n g u i q)) (funext fun l=>funext fun o=>funext fun r=>funext fun f=>funext fun s=>(Aj ..).trans (Rh N F b l o c N r f s)):_)
theorem MI (F:KF R) (b:Int) (c:Bool) (d:LA):∀ (v e:LA),A9 (ZW N F) (ZV b c d v e)=(H5 N (B0 F) b c d v e):=by
 intro v e
 exact Eq.trans (by kernel_rfl) (Bp (L9 N (B0 F) b c d · v e) (funext fun m=>funext fun p=>funext fun t=>funext fun g=>funext fun u=>funext fun i=>funext fun q=>(Aj ..).trans (Ri N F b m p c t d e N g u i q)):_)
theorem V0 (d:LA) (c:Bool) (b:Int) (w:LA) (F:KF R):Ch (Y6 N) Vz N 161 [(.optr 100000 0),(.pagg d c),(iv b)] [(100000,(bQ 0 w))] F=(Fn N d c b w (B0 F)):=by
 rw[U0]
 exact Eq.trans (by kernel_rfl) (Bp (J7 N (B0 F) · d c b w) (funext fun v=>funext fun e=>(At ..).trans (MI N F b c d v e)):_)
def U4 (a:LA) (h:Am) (k:KF R):O R :=
 match a,h with
 | [(.optr 100000 0),(.pagg d c),(.int .i64 b)],[(100000,⟨false,false,true,false,0,w,false⟩)]=>(Fn N d c b w (B0 k))
 | _,_=>none
theorem V1:Ap N 161 @U4:=by
 intro R Q a h k j;unfold U4;split;exact A0 (V0 ..) (V0 ..) ⟨E3 N,Df N,Br N,kH N,trivial⟩;exact A3
def ZX:=A1 (V1 N)
def ZY:=Ce (V1 N)
def KP (N:Nat) (r0:Bool→O R) (c:LA) (b:Nat) (e f:Bool) (d:Int) (k0:Int→O R) (g:Int):O R :=
 (cond (decide (g<((b:Nat):Int))) (cond (Ac g b) (An .i64 (c.drop ((g.toNat)*1)) fun i=>(cond (i==d) (r0 true) (k0 (wrap .i64 (g+1))))) none) (r0 false))
def Ss (r0:Bool→O R) (c:LA) (b:Nat) (e f:Bool) (d:Int):Nat→Int→O R
 | 0,_=>none
 | n+1,g=>(KP N r0 c b e f d (Ss r0 c b e f d n) g)
def qI (N:Nat) (r0:Bool→O R) (q0:Int→O R) (c:LA) (b:Nat) (e f:Bool) (d:Int):O R :=
 (q0 0)
def KQ:=(Ah (fun (N:Nat) (c:LA) (b:Nat) (e f:Bool) (d:Int) (r0:Bool→O R)=>(qI N r0 (fun g=>(Ss N r0 c b e f d N g)) c b e f d))).1
theorem xM (c b e f d r0):(@KQ R N c b e f d r0)=(qI N r0 (fun g=>(Ss N r0 c b e f d N g)) c b e f d):=by rw[KQ,(Ah _).2]
def Ag5:Hints:={ H:=(hS hL (hS (hS hL (hS (hP [0,1,5] hL) hL)) hL)) }
def A0z (F:KF R):=Jw Tryz.f163 Ag5 [] [] N F
def GQ (F:KF R):Bool→O R:=(fun l=>F (.bool l) [])
def A00 (c:LA) (b:Nat) (e f:Bool) (d g:Int):St:=⟨[(0,(.imm c b 1 e f)),(1,(iv d)),(5,(iv g))],[]⟩
def A01 (F:KF R):=A0z N F [1,0,1,0] []
theorem kI (F:KF R) (c:LA) (b:Nat) (e f:Bool) (d:Int):∀ (n:Nat) (g:Int),Ao (A01 N F) n (A00 c b e f d g)=(Ss N (GQ F) c b e f d n g)
 | 0,_=>by kernel_rfl
 | n+1,g=>Eq.trans (by kernel_rfl) (Bp (KP N (GQ F) c b e f d · g) (funext fun g=>(kI F c b e f d n g)):_)
theorem Ag6 (c:LA) (b:Nat) (e f:Bool) (d:Int) (F:KF R):Ch [] Ag5 N 163 [(.imm c b 1 e f),(iv d)] [] F=(KQ N c b e f d (GQ F)):=by
 rw[xM]
 exact Eq.trans (by kernel_rfl) (Bp (qI N (GQ F) · c b e f d) (funext fun g=>(Aj ..).trans (kI N F c b e f d N g)):_)
def xN (a:LA) (h:Am) (k:KF R):O R :=
 match a,h with
 | [(.imm c b 1 e f),(.int .i64 d)],[]=>(KQ N c b e f d (GQ k))
 | _,_=>none
theorem Ag7:Ap N 163 @xN:=by
 intro R Q a h k j;unfold xN;split;exact A0 (Ag6 ..) (Ag6 ..) trivial;exact A3
def mO:=A1 (Ag7 N)
def mP:=Ce (Ag7 N)
def N1 (r0:Nat→LA→O R) (c:Int) (d:Bool) (b:LA) (k0:Nat→Int→LA→O R) (e:Nat) (f:Int) (g:LA):O R :=
 (Co 12 (b.drop 3) fun t i=>(cond (decide (f<((i:Nat):Int))) (Co 12 (b.drop 3) fun l m=>(cond (Ac f m) (Co 1 ((l.drop ((f.toNat)*12)).drop 11) fun o p=>(KQ N o p false d c (fun q=>(cond (!q) (cond ((Nat.ble (e+1) 140737488355328)&&(Nat.ble ((e+1)*8) 140737488355328)) (k0 (e+1) (wrap .i64 (f+1)) ((g.take (e*1))++[(.int .i64 f)])) none) (k0 e (wrap .i64 (f+1)) g))))) none)) (r0 e g)))
def Fo (r0:Nat→LA→O R) (c:Int) (d:Bool) (b:LA):Nat→Nat→Int→LA→O R
 | 0,_,_,_=>none
 | n+1,e,f,g=>(N1 N r0 c d b (Fo r0 c d b n) e f g)
def U5 (N:Nat) (r0:Nat→LA→O R) (q0:Nat→Int→LA→O R) (b:LA) (d:Bool) (c:Int):O R :=
 (q0 0 0 [])
def Ne:=(Ah (fun (N:Nat) (b:LA) (d:Bool) (c:Int) (r0:Nat→LA→O R)=>(U5 N r0 (fun e f g=>(Fo N r0 c d b N e f g)) b d c))).1
theorem KR (b d c r0):(@Ne R N b d c r0)=(U5 N r0 (fun e f g=>(Fo N r0 c d b N e f g)) b d c):=by rw[Ne,(Ah _).2]
def PR:Hints:={ H:=(hS hL (hS hL (hS (hS hL (hS (hP [1,2,5,6] hL) hL)) hL))),nils:=[(4,1),(5,1)],modes:=[(2,1)] }
def YE:D9:=[(163,mO N)]
def tM (F:KF R):=Jw Tryz.f190 PR (YE N) [] N F
def Kq (F:KF R):Nat→LA→O R:=(fun r s=>F (.own 300000 0 r) (hq [(bQ 1 s)]))
def tN (c:Int) (d:Bool) (b:LA) (e:Nat) (f:Int) (g:LA):St:=⟨[(1,(iv c)),(2,(op 0)),(5,(.own 300001 0 e)),(6,(iv f))],(hq [(bP d 0 b),(bQ 1 g)])⟩
def tO (F:KF R):=tM N F [1,1,0,1,0] []
theorem BO (F:KF R) (c:Int) (d:Bool) (b:LA):∀ (n e:Nat) (f:Int) (g:LA),Ao (tO N F) n (tN c d b e f g)=(Fo N (Kq F) c d b n e f g)
 | 0,_,_,_=>by kernel_rfl
 | n+1,e,f,g=>Eq.trans (by kernel_rfl) (Bp (N1 N (Kq F) c d b · e f g) (funext fun e=>funext fun f=>funext fun g=>(BO F c d b n e f g)):_)
theorem PS (b:LA) (d:Bool) (c:Int) (F:KF R):Ch (YE N) PR N 190 [(.pagg b d),(iv c)] [] F=(Ne N b d c (Kq F)):=by
 rw[KR]
 exact Eq.trans (by kernel_rfl) (Bp (U5 N (Kq F) · b d c) (funext fun e=>funext fun f=>funext fun g=>(Aj ..).trans (BO N F c d b N e f g)):_)
def KS (a:LA) (h:Am) (k:KF R):O R :=
 match a,h with
 | [(.pagg b d),(.int .i64 c)],[]=>(Ne N b d c (Kq k))
 | _,_=>none
theorem PT:Ap N 190 @KS:=by
 intro R Q a h k j;unfold KS;split;exact A0 (PS ..) (PS ..) ⟨mP N,trivial⟩;exact A3
def tP:=A1 (PT N)
def tQ:=Ce (PT N)
end
end Gx

namespace Gx
open Go Go.Proofs
open IntKind (wrap)
set_option maxRecDepth 100000
noncomputable section
variable {R:Type} (N:Nat)
def Xw (N:Nat) (r0:Nat→Nat→LA→LA→O R) (d:Nat) (c:Bool) (b g:LA) (k0:Nat→Int→Int→LA→O R) (e:Nat) (i f:Int) (l:LA):O R :=
 (cond (decide (f<i)) (cond (Ac f d) (An .i64 (g.drop (0+((f.toNat)*1))) fun o=>(Co 12 (b.drop 3) fun p q=>(cond (Ac o q) (An .i64 ((p.drop ((o.toNat)*12)).drop 1) fun r=>(Co 12 (b.drop 3) fun s t=>(cond (Ac o t) (An .i64 ((s.drop ((o.toNat)*12)).drop 2) fun u=>(cond ((Nat.ble (e+1) 140737488355328)&&(Nat.ble ((e+1)*16) 140737488355328)) (k0 (e+1) i (wrap .i64 (f+1)) ((l.take (e*2))++[(.int .i64 r),(.int .i64 u)])) none)) none))) none))) none) (r0 e d l g))
def Ma (r0:Nat→Nat→LA→LA→O R) (d:Nat) (c:Bool) (b g:LA):Nat→Nat→Int→Int→LA→O R
 | 0,_,_,_,_=>none
 | n+1,e,i,f,l=>(Xw N r0 d c b g (Ma r0 d c b g n) e i f l)
def UM (r0:Nat→Nat→LA→LA→O R) (q0:Nat→LA→Nat→Int→Int→LA→O R) (b:LA) (c:Bool) (m:Int):O R :=
 (cond (Nat.ble 8 (b.length)) (Ne N (b.take 8) c m (fun d g=>(q0 d g 0 ((d:Nat):Int) 0 []))) none)
def DN:=(Ah (fun (N:Nat) (b:LA) (c:Bool) (m:Int) (r0:Nat→Nat→LA→LA→O R)=>(UM N r0 (fun d g e i f l=>(Ma N r0 d c b g N e i f l)) b c m))).1
theorem kJ (b c m r0):(@DN R N b c m r0)=(UM N r0 (fun d g e i f l=>(Ma N r0 d c b g N e i f l)) b c m):=by rw[DN,(Ah _).2]
def qJ:Hints:={ H:=(hS hL (hS hL (hS hL (hS (hS hL (hS (hP [2,6,7,13,14,15] hL) hL)) hL)))),nils:=[(4,2),(5,1),(7,2)],modes:=[(2,2),(2,1)] }
def xO:D9:=[(190,tP N)]
def Arx (F:KF R):=Jw Tryz.f162 qJ (xO N) [] N F
def U6 (F:KF R):Nat→Nat→LA→LA→O R:=(fun v w x y=>F (.tup [(.own 300000 0 v),(.own 300001 0 w)]) (hq [(bQ 2 x),(bQ 1 y)]))
def Ary (d:Nat) (c:Bool) (b g:LA) (e:Nat) (i f:Int) (l:LA):St:=⟨[(2,(op 0)),(6,(.own 300001 0 d)),(7,(.own 300002 0 e)),(13,(.own 300001 0 d)),(14,(iv i)),(15,(iv f))],(hq [(bP c 0 b),(bQ 1 g),(bQ 2 l)])⟩
def Arz (F:KF R):=Arx N F [1,1,1,0,1,0] []
theorem YF (F:KF R) (d:Nat) (c:Bool) (b g:LA):∀ (n e:Nat) (i f:Int) (l:LA),Ao (Arz N F) n (Ary d c b g e i f l)=(Ma N (U6 F) d c b g n e i f l)
 | 0,_,_,_,_=>by kernel_rfl
 | n+1,e,i,f,l=>Eq.trans (by kernel_rfl) (Bp (Xw N (U6 F) d c b g · e i f l) (funext fun e=>funext fun i=>funext fun f=>funext fun l=>(YF F d c b g n e i f l)):_)
theorem qK (b:LA) (c:Bool) (m:Int) (F:KF R):Ch (xO N) qJ N 162 [(.pagg b c),(iv m)] [] F=(DN N b c m (U6 F)):=by
 rw[kJ]
 exact Eq.trans (by kernel_rfl) (Bp (UM N (U6 F) · b c m) (funext fun d=>funext fun g=>funext fun e=>funext fun i=>funext fun f=>funext fun l=>(Aj ..).trans (YF N F d c b g N e i f l)):_)
def kK (a:LA) (h:Am) (k:KF R):O R :=
 match a,h with
 | [(.pagg b c),(.int .i64 m)],[]=>(DN N b c m (U6 k))
 | _,_=>none
theorem qL:Ap N 162 @kK:=by
 intro R Q a h k j;unfold kK;split;exact A0 (qK ..) (qK ..) ⟨tQ N,trivial⟩;exact A3
def Ar0:=A1 (qL N)
def Ar1:=Ce (qL N)
def R4 (N:Nat) (k1:Bool→LA→O R) (r0:Nat→LA→O R) (b:LA) (d:Nat) (f e:Bool) (c:Nat) (k2:Bool→Int→Int→LA→O R) (s:Bool) (p g:Int) (l:LA):O R :=
 (cond (decide (g<p)) (cond (Ac g d) (cond (Nat.ble 2 ((b.drop ((g.toNat)*2)).length)) (cond ((!e)||(Bb ((b.drop ((g.toNat)*2)).take 2))) (cond ((Nat.beq (((b.drop ((g.toNat)*2)).take 2).length) 2)&&((Nat.ble 2 2)&&(!false))) (An .i64 (setCells [(.int .i64 0),(.int .i64 0)] 0 ((b.drop ((g.toNat)*2)).take 2)) fun ab=>(cond (Ac ab c) (An .i64 (l.drop (0+((ab.toNat)*1))) fun t=>(An .i64 ((setCells [(.int .i64 0),(.int .i64 0)] 0 ((b.drop ((g.toNat)*2)).take 2)).drop 1) fun ac=>(cond (Ac ac c) (An .i64 (l.drop (0+((ac.toNat)*1))) fun u=>(cond (s==false) (An .i64 (setCells [(.int .i64 0),(.int .i64 0)] 0 ((b.drop ((g.toNat)*2)).take 2)) fun ad=>(cond (Ac ad c) (An .i64 (l.drop (0+((ad.toNat)*1))) fun af=>(cond ((cond false true (af != (Bj t u)))==false) (An .i64 ((setCells [(.int .i64 0),(.int .i64 0)] 0 ((b.drop ((g.toNat)*2)).take 2)).drop 1) fun ae=>(cond (Ac ae c) (An .i64 (l.drop (0+((ae.toNat)*1))) fun ag=>(An .i64 (setCells [(.int .i64 0),(.int .i64 0)] 0 ((b.drop ((g.toNat)*2)).take 2)) fun v=>(An .i64 ((setCells [(.int .i64 0),(.int .i64 0)] 0 ((b.drop ((g.toNat)*2)).take 2)).drop 1) fun y=>(cond (Ac v c) (cond ((Nat.beq 1 1)&&((Nat.ble ((0+((v.toNat)*1))+1) (l.length))&&(!false))) (cond (Ac y c) (cond ((Nat.beq 1 1)&&((Nat.ble ((0+((y.toNat)*1))+1) ((l.set (0+((v.toNat)*1)) (.int .i64 (Bj t u))).length))&&(!false))) (k2 (cond false true (ag != (Bj t u))) p (wrap .i64 (g+1)) ((l.set (0+((v.toNat)*1)) (.int .i64 (Bj t u))).set (0+((y.toNat)*1)) (.int .i64 (Bj t u)))) none) none) none) none)))) none)) (An .i64 (setCells [(.int .i64 0),(.int .i64 0)] 0 ((b.drop ((g.toNat)*2)).take 2)) fun w=>(An .i64 ((setCells [(.int .i64 0),(.int .i64 0)] 0 ((b.drop ((g.toNat)*2)).take 2)).drop 1) fun z=>(cond (Ac w c) (cond ((Nat.beq 1 1)&&((Nat.ble ((0+((w.toNat)*1))+1) (l.length))&&(!false))) (cond (Ac z c) (cond ((Nat.beq 1 1)&&((Nat.ble ((0+((z.toNat)*1))+1) ((l.set (0+((w.toNat)*1)) (.int .i64 (Bj t u))).length))&&(!false))) (k2 true p (wrap .i64 (g+1)) ((l.set (0+((w.toNat)*1)) (.int .i64 (Bj t u))).set (0+((z.toNat)*1)) (.int .i64 (Bj t u)))) none) none) none) none))))) none)) (An .i64 (setCells [(.int .i64 0),(.int .i64 0)] 0 ((b.drop ((g.toNat)*2)).take 2)) fun x=>(An .i64 ((setCells [(.int .i64 0),(.int .i64 0)] 0 ((b.drop ((g.toNat)*2)).take 2)).drop 1) fun aa=>(cond (Ac x c) (cond ((Nat.beq 1 1)&&((Nat.ble ((0+((x.toNat)*1))+1) (l.length))&&(!false))) (cond (Ac aa c) (cond ((Nat.beq 1 1)&&((Nat.ble ((0+((aa.toNat)*1))+1) ((l.set (0+((x.toNat)*1)) (.int .i64 (Bj t u))).length))&&(!false))) (k2 true p (wrap .i64 (g+1)) ((l.set (0+((x.toNat)*1)) (.int .i64 (Bj t u))).set (0+((aa.toNat)*1)) (.int .i64 (Bj t u)))) none) none) none) none))))) none))) none)) none) none) none) none) (k1 s l))
def H0 (k1:Bool→LA→O R) (r0:Nat→LA→O R) (b:LA) (d:Nat) (f e:Bool) (c:Nat):Nat→Bool→Int→Int→LA→O R
 | 0,_,_,_,_=>none
 | n+1,s,p,g,l=>(R4 N k1 r0 b d f e c (H0 k1 r0 b d f e c n) s p g l)
def R5 (N:Nat) (r0:Nat→LA→O R) (b:LA) (d:Nat) (f e:Bool) (c:Nat) (k1:Bool→LA→O R) (q2:Bool→Int→Int→LA→O R) (q:Bool) (o:LA):O R :=
 (cond q (q2 false ((d:Nat):Int) 0 o) (r0 c o))
def Dh (r0:Nat→LA→O R) (b:LA) (d:Nat) (f e:Bool) (c:Nat):Nat→Bool→LA→O R
 | 0,_,_=>none
 | n+1,q,o=>(R5 N r0 b d f e c (Dh r0 b d f e c n) (fun s p g l=>(H0 N (Dh r0 b d f e c n) r0 b d f e c N s p g l)) q o)
def R6 (N:Nat) (r0:Nat→LA→O R) (i:Int) (b:LA) (d:Nat) (f e:Bool) (k0:Nat→Int→LA→O R) (q1:Bool→LA→O R) (c:Nat) (m:Int) (r:LA):O R :=
 (cond (decide (m<i)) (cond (Ac m c) (cond ((Nat.beq 1 1)&&((Nat.ble ((0+((m.toNat)*1))+1) (r.length))&&(!false))) (k0 c (wrap .i64 (m+1)) (r.set (0+((m.toNat)*1)) (.int .i64 m))) none) none) (q1 true r))
def H1 (r0:Nat→LA→O R) (i:Int) (b:LA) (d:Nat) (f e:Bool):Nat→Nat→Int→LA→O R
 | 0,_,_,_=>none
 | n+1,c,m,r=>(R6 N r0 i b d f e (H1 r0 i b d f e n) (fun q o=>(Dh N r0 b d f e c N q o)) c m r)
def CQ (N:Nat) (r0:Nat→LA→O R) (q0:Nat→Int→LA→O R) (i:Int) (b:LA) (d:Nat) (f e:Bool):O R :=
 (cond ((decide (0≤i))&&((decide (i≤i))&&((decide (i≤140737488355328))&&(decide ((i*((8:Nat):Int))≤140737488355328))))) (q0 (i.toNat) 0 (List.replicate (i.toNat) (.int .i64 0))) none)
def O3:=(Ah (fun (N:Nat) (i:Int) (b:LA) (d:Nat) (f e:Bool) (r0:Nat→LA→O R)=>(CQ N r0 (fun c m r=>(H1 N r0 i b d f e N c m r)) i b d f e))).1
theorem YG (i b d f e r0):(@O3 R N i b d f e r0)=(CQ N r0 (fun c m r=>(H1 N r0 i b d f e N c m r)) i b d f e):=by rw[O3,(Ah _).2]
def eO:Hints:={ H:=(hS hL (hS hL (hS (hS hL (hS (hP [0,1,5,6] hL) hL)) (hS (hS hL (hS (hP [1,5,7] (hS hL (hS (hS hL (hS hL (hS (hP [1,5,7,23,24,25] hL) hL))) hL))) hL)) hL)))),nils:=[(4,1)],modes:=[(2,1)] }
def GR (F:KF R):=Jw Tryz.f192 eO [] [] N F
def D5 (F:KF R):Nat→LA→O R:=(fun ah ai=>F (.own 300000 0 ah) (hq [(bQ 1 ai)]))
def Ag8 (b:LA) (d:Nat) (f e:Bool) (c:Nat) (s:Bool) (p g:Int) (l:LA):St:=⟨[(1,(.imm b d 2 f e)),(5,(.own 300000 0 c)),(7,(.bool s)),(23,(.imm b d 2 f e)),(24,(iv p)),(25,(iv g))],(hq [(bQ 1 l)])⟩
def Ag9 (F:KF R) (Q1:St→O R):=GR N F [1,1,1,0,1,0,0,1,0,1,1,0] [Q1]
def GS (b:LA) (d:Nat) (f e:Bool) (c:Nat) (q:Bool) (o:LA):St:=⟨[(1,(.imm b d 2 f e)),(5,(.own 300000 0 c)),(7,(.bool q))],(hq [(bQ 1 o)])⟩
def eP (F:KF R):=GR N F [1,1,1,0,1,0] []
def Aha (i:Int) (b:LA) (d:Nat) (f e:Bool) (c:Nat) (m:Int) (r:LA):St:=⟨[(0,(iv i)),(1,(.imm b d 2 f e)),(5,(.own 300000 0 c)),(6,(iv m))],(hq [(bQ 1 r)])⟩
def Ahb (F:KF R):=GR N F [1,1,0,1,0] []
theorem KT (Q1:St→O R) (F:KF R) (b:LA) (d:Nat) (f e:Bool) (c:Nat):∀ (n:Nat) (s:Bool) (p g:Int) (l:LA),Ao (Ag9 N F Q1) n (Ag8 b d f e c s p g l)=(H0 N (fun q o=>Q1 (GS b d f e c q o)) (D5 F) b d f e c n s p g l)
 | 0,_,_,_,_=>by kernel_rfl
 | n+1,s,p,g,l=>Eq.trans (by kernel_rfl) (Bp (R4 N (fun q o=>Q1 (GS b d f e c q o)) (D5 F) b d f e c · s p g l) (funext fun s=>funext fun p=>funext fun g=>funext fun l=>(KT Q1 F b d f e c n s p g l)):_)
theorem KU (F:KF R) (b:LA) (d:Nat) (f e:Bool) (c:Nat):∀ (n:Nat) (q:Bool) (o:LA),Ao (eP N F) n (GS b d f e c q o)=(Dh N (D5 F) b d f e c n q o)
 | 0,_,_=>by kernel_rfl
 | n+1,q,o=>have e0:=(funext fun q=>funext fun o=>(KU F b d f e c n q o))
  Eq.trans (by kernel_rfl) (VS (R5 N (D5 F) b d f e c · · q o) e0 (funext fun s=>funext fun p=>funext fun g=>funext fun l=>(Aj ..).trans ((KT N (Ao (eP N F) n) F b d f e c N s p g l).trans (Bp (H0 N · (D5 F) b d f e c N s p g l) e0))):_)
theorem KV (F:KF R) (i:Int) (b:LA) (d:Nat) (f e:Bool):∀ (n c:Nat) (m:Int) (r:LA),Ao (Ahb N F) n (Aha i b d f e c m r)=(H1 N (D5 F) i b d f e n c m r)
 | 0,_,_,_=>by kernel_rfl
 | n+1,c,m,r=>Eq.trans (by kernel_rfl) (VS (R6 N (D5 F) i b d f e · · c m r) (funext fun c=>funext fun m=>funext fun r=>(KV F i b d f e n c m r)) (funext fun q=>funext fun o=>(Aj ..).trans (KU N F b d f e c N q o)):_)
theorem eQ (i:Int) (b:LA) (d:Nat) (f e:Bool) (F:KF R):Ch [] eO N 192 [(iv i),(.imm b d 2 f e)] [] F=(O3 N i b d f e (D5 F)):=by
 rw[YG]
 exact Eq.trans (by kernel_rfl) (Bp (CQ N (D5 F) · i b d f e) (funext fun c=>funext fun m=>funext fun r=>(Aj ..).trans (KV N F i b d f e N c m r)):_)
def YH (a:LA) (h:Am) (k:KF R):O R :=
 match a,h with
 | [(.int .i64 i),(.imm b d 2 f e)],[]=>(O3 N i b d f e (D5 k))
 | _,_=>none
theorem eR:Ap N 192 @YH:=by
 intro R Q a h k j;unfold YH;split;exact A0 (eQ ..) (eQ ..) trivial;exact A3
def Ahc:=A1 (eR N)
def Ahd:=Ce (eR N)
def Xx (N:Nat) (r0:Int→O R) (c:LA) (b:Nat) (d e:Bool) (k0:Int→Int→O R) (g f:Int):O R :=
 (cond (decide (f<((b:Nat):Int))) (cond (Ac f b) (An .i64 (c.drop ((f.toNat)*1)) fun i=>(cond (i==f) (k0 (wrap .i64 (g+1)) (wrap .i64 (f+1))) (k0 g (wrap .i64 (f+1))))) none) (r0 g))
def Mb (r0:Int→O R) (c:LA) (b:Nat) (d e:Bool):Nat→Int→Int→O R
 | 0,_,_=>none
 | n+1,g,f=>(Xx N r0 c b d e (Mb r0 c b d e n) g f)
def UN (N:Nat) (r0:Int→O R) (q0:Int→Int→O R) (c:LA) (b:Nat) (d e:Bool):O R :=
 (q0 0 0)
def W1:=(Ah (fun (N:Nat) (c:LA) (b:Nat) (d e:Bool) (r0:Int→O R)=>(UN N r0 (fun g f=>(Mb N r0 c b d e N g f)) c b d e))).1
theorem kL (c b d e r0):(@W1 R N c b d e r0)=(UN N r0 (fun g f=>(Mb N r0 c b d e N g f)) c b d e):=by rw[W1,(Ah _).2]
def qM:Hints:={ H:=(hS hL (hS hL (hS (hS hL (hS (hP [0,3,4] hL) hL)) hL))) }
def Ar2 (F:KF R):=Jw Tryz.f191 qM [] [] N F
def U7 (F:KF R):Int→O R:=(fun l=>F (iv l) [])
def Ar3 (c:LA) (b:Nat) (d e:Bool) (g f:Int):St:=⟨[(0,(.imm c b 1 d e)),(3,(iv g)),(4,(iv f))],[]⟩
def Ar4 (F:KF R):=Ar2 N F [1,1,0,1,0] []
theorem YI (F:KF R) (c:LA) (b:Nat) (d e:Bool):∀ (n:Nat) (g f:Int),Ao (Ar4 N F) n (Ar3 c b d e g f)=(Mb N (U7 F) c b d e n g f)
 | 0,_,_=>by kernel_rfl
 | n+1,g,f=>Eq.trans (by kernel_rfl) (Bp (Xx N (U7 F) c b d e · g f) (funext fun g=>funext fun f=>(YI F c b d e n g f)):_)
theorem qN (c:LA) (b:Nat) (d e:Bool) (F:KF R):Ch [] qM N 191 [(.imm c b 1 d e)] [] F=(W1 N c b d e (U7 F)):=by
 rw[kL]
 exact Eq.trans (by kernel_rfl) (Bp (UN N (U7 F) · c b d e) (funext fun g=>funext fun f=>(Aj ..).trans (YI N F c b d e N g f)):_)
def kM (a:LA) (h:Am) (k:KF R):O R :=
 match a,h with
 | [(.imm c b 1 d e)],[]=>(W1 N c b d e (U7 k))
 | _,_=>none
theorem qO:Ap N 191 @kM:=by
 intro R Q a h k j;unfold kM;split;exact A0 (qN ..) (qN ..) trivial;exact A3
def Ar5:=A1 (qO N)
def Ar6:=Ce (qO N)
def N2 (r0:Bool→O R) (d:Int) (b:LA) (c:Nat) (m e:Bool) (f:LA) (g:Nat) (o i:Bool) (k0:Nat→Int→LA→O R) (p:Nat) (l:Int) (q:LA):O R :=
 (cond (decide (l<((c:Nat):Int))) (KQ N f g false i l (fun t=>(cond (!t) (cond (Ac l c) (cond (Nat.ble 2 ((b.drop ((l.toNat)*2)).length)) (cond ((!e)||(Bb ((b.drop ((l.toNat)*2)).take 2))) (cond ((Nat.beq (((b.drop ((l.toNat)*2)).take 2).length) 2)&&(Nat.ble 2 2)) (cond ((Nat.ble (p+1) 140737488355328)&&(Nat.ble ((p+1)*16) 140737488355328)) (k0 (p+1) (wrap .i64 (l+1)) ((q.take (p*2))++((setCells [(.int .i64 0),(.int .i64 0)] 0 ((b.drop ((l.toNat)*2)).take 2)).take 2))) none) none) none) none) none) (k0 p (wrap .i64 (l+1)) q)))) (O3 N d (q.take (p*2)) p false true (fun r u=>(W1 N (u.take (r*1)) r false true (fun v=>(O3 N d b c false e (fun s w=>(W1 N (w.take (s*1)) s false true (fun x=>(r0 (decide (v>x))))))))))))
def Fp (r0:Bool→O R) (d:Int) (b:LA) (c:Nat) (m e:Bool) (f:LA) (g:Nat) (o i:Bool):Nat→Nat→Int→LA→O R
 | 0,_,_,_=>none
 | n+1,p,l,q=>(N2 N r0 d b c m e f g o i (Fp r0 d b c m e f g o i n) p l q)
def U8 (N:Nat) (r0:Bool→O R) (q0:Nat→Int→LA→O R) (d:Int) (b:LA) (c:Nat) (m e:Bool) (f:LA) (g:Nat) (o i:Bool):O R :=
 (q0 0 0 [])
def Nf:=(Ah (fun (N:Nat) (d:Int) (b:LA) (c:Nat) (m e:Bool) (f:LA) (g:Nat) (o i:Bool) (r0:Bool→O R)=>(U8 N r0 (fun p l q=>(Fp N r0 d b c m e f g o i N p l q)) d b c m e f g o i))).1
theorem KW (d b c m e f g o i r0):(@Nf R N d b c m e f g o i r0)=(U8 N r0 (fun p l q=>(Fp N r0 d b c m e f g o i N p l q)) d b c m e f g o i):=by rw[Nf,(Ah _).2]
def PU:Hints:={ H:=(hS hL (hS hL (hS (hS hL (hS (hP [0,1,2,7,8] hL) hL)) hL))),nils:=[(7,2)] }
def YJ:D9:=[(163,mO N),(192,Ahc N),(191,Ar5 N)]
def tR (F:KF R):=Jw Tryz.f164 PU (YJ N) [] N F
def Kr (F:KF R):Bool→O R:=(fun y=>F (.bool y) [])
def tS (d:Int) (b:LA) (c:Nat) (m e:Bool) (f:LA) (g:Nat) (o i:Bool) (p:Nat) (l:Int) (q:LA):St:=⟨[(0,(iv d)),(1,(.imm b c 2 m e)),(2,(.imm f g 1 o i)),(7,(.own 300000 0 p)),(8,(iv l))],(hq [(bQ 2 q)])⟩
def tT (F:KF R):=tR N F [1,1,0,1,0] []
theorem BP (F:KF R) (d:Int) (b:LA) (c:Nat) (m e:Bool) (f:LA) (g:Nat) (o i:Bool):∀ (n p:Nat) (l:Int) (q:LA),Ao (tT N F) n (tS d b c m e f g o i p l q)=(Fp N (Kr F) d b c m e f g o i n p l q)
 | 0,_,_,_=>by kernel_rfl
 | n+1,p,l,q=>Eq.trans (by kernel_rfl) (Bp (N2 N (Kr F) d b c m e f g o i · p l q) (funext fun p=>funext fun l=>funext fun q=>(BP F d b c m e f g o i n p l q)):_)
theorem PV (d:Int) (b:LA) (c:Nat) (m e:Bool) (f:LA) (g:Nat) (o i:Bool) (F:KF R):Ch (YJ N) PU N 164 [(iv d),(.imm b c 2 m e),(.imm f g 1 o i)] [] F=(Nf N d b c m e f g o i (Kr F)):=by
 rw[KW]
 exact Eq.trans (by kernel_rfl) (Bp (U8 N (Kr F) · d b c m e f g o i) (funext fun p=>funext fun l=>funext fun q=>(Aj ..).trans (BP N F d b c m e f g o i N p l q)):_)
def KX (a:LA) (h:Am) (k:KF R):O R :=
 match a,h with
 | [(.int .i64 d),(.imm b c 2 m e),(.imm f g 1 o i)],[]=>(Nf N d b c m e f g o i (Kr k))
 | _,_=>none
theorem PW:Ap N 164 @KX:=by
 intro R Q a h k j;unfold KX;split;exact A0 (PV ..) (PV ..) ⟨mP N,Ahd N,Ar6 N,trivial⟩;exact A3
def tU:=A1 (PW N)
def tV:=Ce (PW N)
end
end Gx

namespace Gx
open Go Go.Proofs
open IntKind (wrap)
set_option maxRecDepth 100000
noncomputable section
variable {R:Type} (N:Nat)
def U9 (k0:Int→LA→O R) (r0:LA→Int→O R) (c:Bool) (b:LA) (w:Int) (al:LA):O R :=
 (cond (Nat.ble 8 (b.length)) (Ck N (b.take 8) c 1 w al (fun am=>(cond (Nat.ble 8 (b.length)) (Co 3 (b.drop 2) fun an ao=>(cond (Ac w ao) (Co 1 ((an.drop ((w.toNat)*3)).drop 1) fun ap aq=>(Cs N (b.take 8) c ap aq false c 0 1048576 1 w 1 am (fun ar=>(Co 3 (b.drop 2) fun au av=>(cond (Ac w av) (An .i64 ((au.drop ((w.toNat)*3)).drop 2) fun aw=>(Aw N 0 1048576 [(.int .i64 aw)] 1 false true (fun ax=>(Ab N ax 1 w 2 3 ar (fun ay=>(k0 (wrap .i64 (w+1)) ay)))))) none))))) none)) none))) none)
def Va (k7:Int→LA→O R) (k9:Int→Int→LA→O R) (r0:LA→Int→O R) (e f:Nat) (c:Bool) (b g i:LA) (k10:Int→Int→Nat→Int→LA→LA→O R) (v p:Int) (m:Nat) (q:Int) (x y:LA):O R :=
 (cond (decide (q<((f:Nat):Int))) (Co 4 (b.drop 7) fun az ba=>(cond (Ac p ba) (Co 1 ((az.drop ((p.toNat)*4)).drop 1) fun bb bc=>(cond (Ac q f) (An .i64 (i.drop (0+((q.toNat)*1))) fun bd=>(KQ N bb bc false c bd (fun be=>(cond be (cond ((Nat.ble (m+1) 140737488355328)&&(Nat.ble ((m+1)*8) 140737488355328)) (k10 v p (m+1) (wrap .i64 (q+1)) x ((y.take (m*1))++[(.int .i64 q)])) none) (k10 v p m (wrap .i64 (q+1)) x y))))) none)) none)) (Co 3 (b.drop 2) fun ci bf=>(Nf N ((bf:Nat):Int) (g.take (e*2)) e false true (y.take (m*1)) m false true (fun bg=>(Ab N (!bg) 6 p v 13 x (fun bh=>(k9 v (wrap .i64 (p+1)) bh)))))))
def Jp (k7:Int→LA→O R) (k9:Int→Int→LA→O R) (r0:LA→Int→O R) (e f:Nat) (c:Bool) (b g i:LA):Nat→Int→Int→Nat→Int→LA→LA→O R
 | 0,_,_,_,_,_,_=>none
 | n+1,v,p,m,q,x,y=>(Va N k7 k9 r0 e f c b g i (Jp k7 k9 r0 e f c b g i n) v p m q x y)
def Xy (N:Nat) (k7:Int→LA→O R) (r0:LA→Int→O R) (e f:Nat) (c:Bool) (b g i:LA) (k9:Int→Int→LA→O R) (q10:Int→Int→Nat→Int→LA→LA→O R) (r s:Int) (t:LA):O R :=
 (Co 4 (b.drop 7) fun cj bi=>(cond (decide (s<((bi:Nat):Int))) (q10 r s 0 0 t []) (k7 (wrap .i64 (r+1)) t)))
def I4 (k7:Int→LA→O R) (r0:LA→Int→O R) (e f:Nat) (c:Bool) (b g i:LA):Nat→Int→Int→LA→O R
 | 0,_,_,_=>none
 | n+1,r,s,t=>(Xy N k7 r0 e f c b g i (I4 k7 r0 e f c b g i n) (fun v p m q x y=>(Jp N k7 (I4 k7 r0 e f c b g i n) r0 e f c b g i N v p m q x y)) r s t)
def MJ (k7:Int→LA→O R) (r0:LA→Int→O R) (c:Bool) (b:LA) (q9:Nat→Nat→LA→LA→Int→Int→LA→O R) (aj:Int) (ak:LA):O R :=
 (cond (Nat.ble 8 (b.length)) (DN N (b.take 8) c aj (fun e f g i=>(q9 e f g i aj 0 ak))) none)
def CS (k7:Int→LA→O R) (r0:LA→Int→O R) (c:Bool) (b:LA) (aj:Int) (ak:LA):O R:=(MJ N k7 r0 c b (fun e f g i r s t=>(I4 N k7 r0 e f c b g i N r s t)) aj ak)
def Rj (N:Nat) (r0:LA→Int→O R) (c:Bool) (b:LA) (k7:Int→LA→O R) (q8:Int→LA→O R) (l:Int) (d:LA):O R :=
 (An .i64 b fun bj=>(cond ((decide (l<bj))==true) (An .i64 (d.drop 3) fun bk=>(cond (cond true (bk==0) false) (q8 l d) (cond (Nat.ble 3 (d.length)) (An .i64 (d.drop 3) fun bl=>(cond ((Nat.beq ((d.take 3).length) 3)&&((Nat.ble 3 3)&&(!false))) (cond (Nat.ble 3 ((setCells [(.int .i64 0),(.int .i64 0),(.int .i64 0)] 0 (d.take 3)).length)) (r0 ((setCells [(.int .i64 0),(.int .i64 0),(.int .i64 0)] 0 (d.take 3)).take 3) bl) none) none)) none))) (cond (Nat.ble 3 (d.length)) (An .i64 (d.drop 3) fun bm=>(cond ((Nat.beq ((d.take 3).length) 3)&&((Nat.ble 3 3)&&(!false))) (cond (Nat.ble 3 ((setCells [(.int .i64 0),(.int .i64 0),(.int .i64 0)] 0 (d.take 3)).length)) (r0 ((setCells [(.int .i64 0),(.int .i64 0),(.int .i64 0)] 0 (d.take 3)).take 3) bm) none) none)) none)))
def D7 (r0:LA→Int→O R) (c:Bool) (b:LA):Nat→Int→LA→O R
 | 0,_,_=>none
 | n+1,l,d=>(Rj N r0 c b (D7 r0 c b n) (fun aj ak=>(CS N (D7 r0 c b n) r0 c b aj ak)) l d)
def Xz (r0:LA→Int→O R) (c:Bool) (b:LA) (k6:Int→LA→O R) (q7:Int→LA→O R) (ae:Int) (z:LA):O R :=
 (Co 4 (b.drop 7) fun ck bn=>(cond ((decide (ae<((bn:Nat):Int)))==true) (An .i64 (z.drop 3) fun bo=>(cond (cond true (bo==0) false) (cond (Nat.ble 8 (b.length)) (Fn N (b.take 8) c ae z (fun bp=>(k6 (wrap .i64 (ae+1)) bp))) none) (q7 0 z))) (q7 0 z)))
def Mc (r0:LA→Int→O R) (c:Bool) (b:LA):Nat→Int→LA→O R
 | 0,_,_=>none
 | n+1,ae,z=>(Xz N r0 c b (Mc r0 c b n) (fun l d=>(D7 N r0 c b N l d)) ae z)
def X0 (r0:LA→Int→O R) (c:Bool) (b:LA) (k5:Int→LA→O R) (q6:Int→LA→O R) (af:Int) (aa:LA):O R :=
 (Co 5 (b.drop 6) fun cl bq=>(cond ((decide (af<((bq:Nat):Int)))==true) (An .i64 (aa.drop 3) fun br=>(cond (cond true (br==0) false) (cond (Nat.ble 8 (b.length)) (My N (b.take 8) c af aa (fun bs=>(k5 (wrap .i64 (af+1)) bs))) none) (q6 0 aa))) (q6 0 aa)))
def Md (r0:LA→Int→O R) (c:Bool) (b:LA):Nat→Int→LA→O R
 | 0,_,_=>none
 | n+1,af,aa=>(X0 N r0 c b (Md r0 c b n) (fun ae z=>(Mc N r0 c b N ae z)) af aa)
def X1 (r0:LA→Int→O R) (c:Bool) (b:LA) (k4:Int→LA→O R) (q5:Int→LA→O R) (ag:Int) (ab:LA):O R :=
 (Co 9 (b.drop 5) fun cm bt=>(cond ((decide (ag<((bt:Nat):Int)))==true) (An .i64 (ab.drop 3) fun bu=>(cond (cond true (bu==0) false) (cond (Nat.ble 8 (b.length)) (I3 N (b.take 8) c ag ab (fun bv=>(k4 (wrap .i64 (ag+1)) bv))) none) (q5 0 ab))) (q5 0 ab)))
def Me (r0:LA→Int→O R) (c:Bool) (b:LA):Nat→Int→LA→O R
 | 0,_,_=>none
 | n+1,ag,ab=>(X1 N r0 c b (Me r0 c b n) (fun af aa=>(Md N r0 c b N af aa)) ag ab)
def X2 (r0:LA→Int→O R) (c:Bool) (b:LA) (k3:Int→LA→O R) (q4:Int→LA→O R) (ah:Int) (ac:LA):O R :=
 (Co 22 (b.drop 4) fun cn bw=>(cond ((decide (ah<((bw:Nat):Int)))==true) (An .i64 (ac.drop 3) fun bx=>(cond (cond true (bx==0) false) (cond (Nat.ble 8 (b.length)) (Hh N (b.take 8) c ah ac (fun bz=>(k3 (wrap .i64 (ah+1)) bz))) none) (q4 0 ac))) (q4 0 ac)))
def Mf (r0:LA→Int→O R) (c:Bool) (b:LA):Nat→Int→LA→O R
 | 0,_,_=>none
 | n+1,ah,ac=>(X2 N r0 c b (Mf r0 c b n) (fun ag ab=>(Me N r0 c b N ag ab)) ah ac)
def X3 (r0:LA→Int→O R) (c:Bool) (b:LA) (k2:Int→LA→O R) (q3:Int→LA→O R) (ai:Int) (ad:LA):O R :=
 (Co 12 (b.drop 3) fun co ca=>(cond ((decide (ai<((ca:Nat):Int)))==true) (An .i64 (ad.drop 3) fun cb=>(cond (cond true (cb==0) false) (cond (Nat.ble 8 (b.length)) (Hg N (b.take 8) c ai ad (fun cc=>(k2 (wrap .i64 (ai+1)) cc))) none) (q3 0 ad))) (q3 0 ad)))
def Mg (r0:LA→Int→O R) (c:Bool) (b:LA):Nat→Int→LA→O R
 | 0,_,_=>none
 | n+1,ai,ad=>(X3 N r0 c b (Mg r0 c b n) (fun ah ac=>(Mf N r0 c b N ah ac)) ai ad)
def X4 (N:Nat) (r0:LA→Int→O R) (c:Bool) (b:LA) (k0:Int→LA→O R) (q1:Int→LA→O R) (q2:Int→LA→O R) (u:Int) (o:LA):O R :=
 (Co 3 (b.drop 2) fun cp cd=>(cond ((decide (u<((cd:Nat):Int)))==true) (An .i64 (o.drop 3) fun ce=>(cond (cond true (ce==0) false) (q1 u o) (q2 0 o))) (q2 0 o)))
def I5 (r0:LA→Int→O R) (c:Bool) (b:LA):Nat→Int→LA→O R
 | 0,_,_=>none
 | n+1,u,o=>(X4 N r0 c b (I5 r0 c b n) (fun w al=>(U9 N (I5 r0 c b n) r0 c b w al)) (fun ai ad=>(Mg N r0 c b N ai ad)) u o)
def UO (r0:LA→Int→O R) (q0:Int→LA→O R) (b:LA) (c:Bool):O R :=
 (cond (Nat.ble 8 (b.length)) (Gj N (b.take 8) c [(.int .i64 0),(.int .i64 0),(.int .i64 0),(.int .i64 0)] (fun cf=>(q0 0 cf))) none)
def DO:=(Ah (fun (N:Nat) (b:LA) (c:Bool) (r0:LA→Int→O R)=>(UO N r0 (fun u o=>(I5 N r0 c b N u o)) b c))).1
theorem kN (b c r0):(@DO R N b c r0)=(UO N r0 (fun u o=>(I5 N r0 c b N u o)) b c):=by rw[DO,(Ah _).2]
def qP:Hints:={ H:=(hS hL (hS hL (hS hL (hS (hS hL (hS (hP [1,2,4,5] (hJ [1,2,4,5] hL hL)) hL)) (hS (hS hL (hS (hP [1,2,4,6] hL) hL)) (hS (hS hL (hS (hP [1,2,4,7] hL) hL)) (hS (hS hL (hS (hP [1,2,4,8] hL) hL)) (hS (hS hL (hS (hP [1,2,4,9] hL) hL)) (hS (hS hL (hS (hP [1,2,4,10] hL) hL)) (hS (hS hL (hS (hP [1,2,4,11] (hJ [1,2,4,11] hL (hS (hS (hS hL (hS hL (hS (hP [1,2,4,11,12,13,14] (hS hL (hS (hS (hS hL (hS (hS hL (hS (hP [1,2,4,11,12,13,14,15,16] hL) hL)) hL)) hL) hL))) hL))) hL) hL))) hL)) hL)))))))))),nils:=[(15,1)],modes:=[(3,0),(0,0)] }
def xP:D9:=[(152,eG N),(153,E2 N),(154,Nj N),(156,De N),(155,Bq N),(157,gt N),(158,hI N),(159,eM N),(160,mM N),(161,ZX N),(162,Ar0 N),(163,mO N),(164,tU N)]
def Ex (F:KF R):=Jw Tryz.f112 qP (xP N) [] N F
def A7 (F:KF R):LA→Int→O R:=(fun cg ch=>F (.tup [(.pagg cg false),(iv ch)]) [])
def Ar7 (c:Bool) (b:LA) (w:Int) (al:LA):St:=⟨[(1,(op 0)),(2,(op 1)),(4,(op 2)),(5,(iv w))],(hq [(bP c 0 b),(bQ 0 [(iv 0),(iv 0),(iv 0)]),(bQ 0 al)])⟩
def Ar8 (F:KF R) (Q0:St→O R):=Ex N F [1,1,1,0,1,0,0,1] [Q0]
def Akv (e f:Nat) (c:Bool) (b g i:LA) (v p:Int) (m:Nat) (q:Int) (x y:LA):St:=⟨[(1,(op 0)),(2,(op 1)),(4,(op 2)),(11,(iv v)),(12,(.own 300003 0 e)),(13,(.own 300004 0 f)),(14,(iv p)),(15,(.own 300005 0 m)),(16,(iv q))],(hq [(bP c 0 b),(bQ 0 [(iv 0),(iv 0),(iv 0)]),(bQ 0 x),(bQ 2 g),(bQ 1 i),(bQ 1 y)])⟩
def Akw (F:KF R) (Q7 Q9:St→O R):=Ex N F [1,1,1,1,1,1,1,1,1,0,1,0,0,1,0,0,1,1,0,0,1,0,0,1,0,1,0] [Q7,Q9]
def UP (e f:Nat) (c:Bool) (b g i:LA) (r s:Int) (t:LA):St:=⟨[(1,(op 0)),(2,(op 1)),(4,(op 2)),(11,(iv r)),(12,(.own 300003 0 e)),(13,(.own 300004 0 f)),(14,(iv s))],(hq [(bP c 0 b),(bQ 0 [(iv 0),(iv 0),(iv 0)]),(bQ 0 t),(bQ 2 g),(bQ 1 i)])⟩
def qQ (F:KF R) (Q7:St→O R):=Ex N F [1,1,1,1,1,1,1,1,1,0,1,0,0,1,0,0,1,1,0] [Q7]
def Ar9 (c:Bool) (b:LA) (aj:Int) (ak:LA):St:=⟨[(1,(op 0)),(2,(op 1)),(4,(op 2)),(11,(iv aj))],(hq [(bP c 0 b),(bQ 0 [(iv 0),(iv 0),(iv 0)]),(bQ 0 ak)])⟩
def Asa (F:KF R) (Q7:St→O R):=Ex N F [1,1,1,1,1,1,1,1,1,0,1,0,0,1] [Q7]
def I6 (c:Bool) (b:LA) (l:Int) (d:LA):St:=⟨[(1,(op 0)),(2,(op 1)),(4,(op 2)),(11,(iv l))],(hq [(bP c 0 b),(bQ 0 [(iv 0),(iv 0),(iv 0)]),(bQ 0 d)])⟩
def qS (F:KF R):=Ex N F [1,1,1,1,1,1,1,1,1,0,1,0] []
def Asb (c:Bool) (b:LA) (ae:Int) (z:LA):St:=⟨[(1,(op 0)),(2,(op 1)),(4,(op 2)),(10,(iv ae))],(hq [(bP c 0 b),(bQ 0 [(iv 0),(iv 0),(iv 0)]),(bQ 0 z)])⟩
def Asc (F:KF R):=Ex N F [1,1,1,1,1,1,1,1,0,1,0] []
def Asd (c:Bool) (b:LA) (af:Int) (aa:LA):St:=⟨[(1,(op 0)),(2,(op 1)),(4,(op 2)),(9,(iv af))],(hq [(bP c 0 b),(bQ 0 [(iv 0),(iv 0),(iv 0)]),(bQ 0 aa)])⟩
def Ase (F:KF R):=Ex N F [1,1,1,1,1,1,1,0,1,0] []
def Asf (c:Bool) (b:LA) (ag:Int) (ab:LA):St:=⟨[(1,(op 0)),(2,(op 1)),(4,(op 2)),(8,(iv ag))],(hq [(bP c 0 b),(bQ 0 [(iv 0),(iv 0),(iv 0)]),(bQ 0 ab)])⟩
def Asg (F:KF R):=Ex N F [1,1,1,1,1,1,0,1,0] []
def Ash (c:Bool) (b:LA) (ah:Int) (ac:LA):St:=⟨[(1,(op 0)),(2,(op 1)),(4,(op 2)),(7,(iv ah))],(hq [(bP c 0 b),(bQ 0 [(iv 0),(iv 0),(iv 0)]),(bQ 0 ac)])⟩
def Asi (F:KF R):=Ex N F [1,1,1,1,1,0,1,0] []
def Asj (c:Bool) (b:LA) (ai:Int) (ad:LA):St:=⟨[(1,(op 0)),(2,(op 1)),(4,(op 2)),(6,(iv ai))],(hq [(bP c 0 b),(bQ 0 [(iv 0),(iv 0),(iv 0)]),(bQ 0 ad)])⟩
def Ask (F:KF R):=Ex N F [1,1,1,1,0,1,0] []
def qT (c:Bool) (b:LA) (u:Int) (o:LA):St:=⟨[(1,(op 0)),(2,(op 1)),(4,(op 2)),(5,(iv u))],(hq [(bP c 0 b),(bQ 0 [(iv 0),(iv 0),(iv 0)]),(bQ 0 o)])⟩
def qU (F:KF R):=Ex N F [1,1,1,0,1,0] []
theorem zI (Q0:St→O R) (F:KF R) (c:Bool) (b:LA):∀ (w:Int) (al:LA),A9 (Ar8 N F Q0) (Ar7 c b w al)=(U9 N (fun u o=>Q0 (qT c b u o)) (A7 F) c b w al):=by
 intro w al
 kernel_rfl
theorem PX (Q7 Q9:St→O R) (F:KF R) (e f:Nat) (c:Bool) (b g i:LA):∀ (n:Nat) (v p:Int) (m:Nat) (q:Int) (x y:LA),Ao (Akw N F Q7 Q9) n (Akv e f c b g i v p m q x y)=(Jp N (fun l d=>Q7 (I6 c b l d)) (fun r s t=>Q9 (UP e f c b g i r s t)) (A7 F) e f c b g i n v p m q x y)
 | 0,_,_,_,_,_,_=>by kernel_rfl
 | n+1,v,p,m,q,x,y=>Eq.trans (by kernel_rfl) (Bp (Va N (fun l d=>Q7 (I6 c b l d)) (fun r s t=>Q9 (UP e f c b g i r s t)) (A7 F) e f c b g i · v p m q x y) (funext fun v=>funext fun p=>funext fun m=>funext fun q=>funext fun x=>funext fun y=>(PX Q7 Q9 F e f c b g i n v p m q x y)):_)
theorem YK (Q7:St→O R) (F:KF R) (e f:Nat) (c:Bool) (b g i:LA):∀ (n:Nat) (r s:Int) (t:LA),Ao (qQ N F Q7) n (UP e f c b g i r s t)=(I4 N (fun l d=>Q7 (I6 c b l d)) (A7 F) e f c b g i n r s t)
 | 0,_,_,_=>by kernel_rfl
 | n+1,r,s,t=>have e0:=(funext fun r=>funext fun s=>funext fun t=>(YK Q7 F e f c b g i n r s t))
  Eq.trans (by kernel_rfl) (VS (Xy N (fun l d=>Q7 (I6 c b l d)) (A7 F) e f c b g i · · r s t) e0 (funext fun v=>funext fun p=>funext fun m=>funext fun q=>funext fun x=>funext fun y=>(Aj ..).trans ((PX N Q7 (Ao (qQ N F Q7) n) F e f c b g i N v p m q x y).trans (Bp (Jp N (fun l d=>Q7 (I6 c b l d)) · (A7 F) e f c b g i N v p m q x y) e0))):_)
theorem zJ (Q7:St→O R) (F:KF R) (c:Bool) (b:LA):∀ (aj:Int) (ak:LA),A9 (Asa N F Q7) (Ar9 c b aj ak)=(CS N (fun l d=>Q7 (I6 c b l d)) (A7 F) c b aj ak):=by
 intro aj ak
 exact Eq.trans (by kernel_rfl) (Bp (MJ N (fun l d=>Q7 (I6 c b l d)) (A7 F) c b · aj ak) (funext fun e=>funext fun f=>funext fun g=>funext fun i=>funext fun r=>funext fun s=>funext fun t=>(Aj ..).trans (YK N Q7 F e f c b g i N r s t)):_)
theorem YL (F:KF R) (c:Bool) (b:LA):∀ (n:Nat) (l:Int) (d:LA),Ao (qS N F) n (I6 c b l d)=(D7 N (A7 F) c b n l d)
 | 0,_,_=>by kernel_rfl
 | n+1,l,d=>have e0:=(funext fun l=>funext fun d=>(YL F c b n l d))
  Eq.trans (by kernel_rfl) (VS (Rj N (A7 F) c b · · l d) e0 (funext fun aj=>funext fun ak=>(At ..).trans ((zJ N (Ao (qS N F) n) F c b aj ak).trans (Bp (CS N · (A7 F) c b aj ak) e0))):_)
theorem YM (F:KF R) (c:Bool) (b:LA):∀ (n:Nat) (ae:Int) (z:LA),Ao (Asc N F) n (Asb c b ae z)=(Mc N (A7 F) c b n ae z)
 | 0,_,_=>by kernel_rfl
 | n+1,ae,z=>Eq.trans (by kernel_rfl) (VS (Xz N (A7 F) c b · · ae z) (funext fun ae=>funext fun z=>(YM F c b n ae z)) (funext fun l=>funext fun d=>(Aj ..).trans (YL N F c b N l d)):_)
theorem YN (F:KF R) (c:Bool) (b:LA):∀ (n:Nat) (af:Int) (aa:LA),Ao (Ase N F) n (Asd c b af aa)=(Md N (A7 F) c b n af aa)
 | 0,_,_=>by kernel_rfl
 | n+1,af,aa=>Eq.trans (by kernel_rfl) (VS (X0 N (A7 F) c b · · af aa) (funext fun af=>funext fun aa=>(YN F c b n af aa)) (funext fun ae=>funext fun z=>(Aj ..).trans (YM N F c b N ae z)):_)
theorem YO (F:KF R) (c:Bool) (b:LA):∀ (n:Nat) (ag:Int) (ab:LA),Ao (Asg N F) n (Asf c b ag ab)=(Me N (A7 F) c b n ag ab)
 | 0,_,_=>by kernel_rfl
 | n+1,ag,ab=>Eq.trans (by kernel_rfl) (VS (X1 N (A7 F) c b · · ag ab) (funext fun ag=>funext fun ab=>(YO F c b n ag ab)) (funext fun af=>funext fun aa=>(Aj ..).trans (YN N F c b N af aa)):_)
theorem YP (F:KF R) (c:Bool) (b:LA):∀ (n:Nat) (ah:Int) (ac:LA),Ao (Asi N F) n (Ash c b ah ac)=(Mf N (A7 F) c b n ah ac)
 | 0,_,_=>by kernel_rfl
 | n+1,ah,ac=>Eq.trans (by kernel_rfl) (VS (X2 N (A7 F) c b · · ah ac) (funext fun ah=>funext fun ac=>(YP F c b n ah ac)) (funext fun ag=>funext fun ab=>(Aj ..).trans (YO N F c b N ag ab)):_)
theorem YQ (F:KF R) (c:Bool) (b:LA):∀ (n:Nat) (ai:Int) (ad:LA),Ao (Ask N F) n (Asj c b ai ad)=(Mg N (A7 F) c b n ai ad)
 | 0,_,_=>by kernel_rfl
 | n+1,ai,ad=>Eq.trans (by kernel_rfl) (VS (X3 N (A7 F) c b · · ai ad) (funext fun ai=>funext fun ad=>(YQ F c b n ai ad)) (funext fun ah=>funext fun ac=>(Aj ..).trans (YP N F c b N ah ac)):_)
theorem YR (F:KF R) (c:Bool) (b:LA):∀ (n:Nat) (u:Int) (o:LA),Ao (qU N F) n (qT c b u o)=(I5 N (A7 F) c b n u o)
 | 0,_,_=>by kernel_rfl
 | n+1,u,o=>have e0:=(funext fun u=>funext fun o=>(YR F c b n u o))
  Eq.trans (by kernel_rfl) (Bdj (X4 N (A7 F) c b · · · u o) e0 (funext fun w=>funext fun al=>(At ..).trans ((zI N (Ao (qU N F) n) F c b w al).trans (Bp (U9 N · (A7 F) c b w al) e0))) (funext fun ai=>funext fun ad=>(Aj ..).trans (YQ N F c b N ai ad)):_)
theorem qV (b:LA) (c:Bool) (F:KF R):Ch (xP N) qP N 112 [(.pagg b c)] [] F=(DO N b c (A7 F)):=by
 rw[kN]
 exact Eq.trans (by kernel_rfl) (Bp (UO N (A7 F) · b c) (funext fun u=>funext fun o=>(Aj ..).trans (YR N F c b N u o)):_)
def kO (a:LA) (h:Am) (k:KF R):O R :=
 match a,h with
 | [(.pagg b c)],[]=>(DO N b c (A7 k))
 | _,_=>none
theorem qW:Ap N 112 @kO:=by
 intro R Q a h k j;unfold kO;split;exact A0 (qV ..) (qV ..) ⟨eH N,E3 N,Nk N,Df N,Br N,gv N,hZ N,eN N,mN N,ZY N,Ar1 N,mP N,tV N,trivial⟩;exact A3
def Asl:=A1 (qW N)
def Asm:=Ce (qW N)
end
end Gx

namespace Gx
open Go Go.Proofs
open IntKind (wrap)
set_option maxRecDepth 100000
noncomputable section
variable {R:Type} (N:Nat)
def UQ (k2:Int→Int→Nat→LA→O R) (r0:LA→O R) (m:Int) (b:LA) (c:Nat) (d:Bool) (f:Int) (g e:Nat) (l i:LA) (au av:Int) (an:Nat) (aw:LA):O R :=
 (Af N m b c false d av (fun bc bq=>(Af N (wrap .i64 (m - 1)) b c false d bq (fun br bs=>(cond (m==0) none (P4 N ((an:Nat):Int) bc (Int.tmod (wrap .i64 ((wrap .i64 (bc+1))+br)) m) f b c false d bs (fun bd bt=>(cond ((Nat.beq (bd.length) 12)&&(Nat.ble 12 12)) (cond ((Nat.ble (an+1) 140737488355328)&&(Nat.ble ((an+1)*120) 140737488355328)) (k2 (wrap .i64 (au - 1)) bt (an+1) ((aw.take (an*12))++((setCells [(.str ([]:List UInt8)),(.int .i64 0),(.int .i64 0),(.int .i64 0),(.int .i64 0),(.int .i64 0),(.int .i64 0),(.int .i64 0),(.int .i64 0),(.int .i64 0),(.int .i64 0),.nsl] 0 bd).take 12))) none) none))))))))
def UR (k7:Int→Int→Nat→LA→O R) (r0:LA→O R) (b:LA) (c:Nat) (d:Bool) (f:Int) (g e p o s u:Nat) (l i q r t v:LA) (ar ax:Int) (w:Nat) (ao:LA):O R :=
 (Ko N ((w:Nat):Int) ((p:Nat):Int) ((o:Nat):Int) b c false d ax (fun az be=>(cond ((Nat.beq 0 0)&&((Nat.beq (az.length) 4)&&(Nat.beq 4 4))) (cond ((Nat.ble (0+w) 140737488355328)&&(Nat.ble ((0+w)*72) 140737488355328)) (cond (Nat.ble 4 (az.length)) (cond ((Nat.beq ((az.take 4).length) 4)&&(Nat.ble 4 4)) (cond ((Nat.ble ((0+w)+1) 140737488355328)&&(Nat.ble (((0+w)+1)*72) 140737488355328)) (DO N [(.int .i64 f),(.imm (l.take (g*1)) g 1 false true),(.imm (i.take (e*3)) e 3 false true),(.imm (q.take (p*12)) p 12 false true),(.imm (r.take (o*22)) o 22 false true),(.imm (t.take (s*9)) s 9 false true),(.imm (v.take (u*5)) u 5 false true),(.imm (List.take (((0+w)+1)*4) (((ao.take (w*4)).take ((0+w)*4))++((setCells [(.str ([]:List UInt8)),.nsl,(.bool false),.nsl] 0 (az.take 4)).take 4))) ((0+w)+1) 4 false true)] true (fun bu bv=>(cond ((Nat.beq (bu.length) 3)&&((Nat.ble 3 3)&&(!false))) (cond (bv==0) (k7 (wrap .i64 (ar - 1)) be ((0+w)+1) (((ao.take (w*4)).take ((0+w)*4))++((setCells [(.str ([]:List UInt8)),.nsl,(.bool false),.nsl] 0 (az.take 4)).take 4))) (k7 (wrap .i64 (ar - 1)) be w ao)) none))) none) none) none) none) none)))
def Y7 (N:Nat) (r0:LA→O R) (b:LA) (c:Nat) (d:Bool) (f:Int) (g e p o s u:Nat) (l i q r t v:LA) (k7:Int→Int→Nat→LA→O R) (q8:Int→Int→Nat→LA→O R) (ae ai:Int) (x:Nat) (z:LA):O R :=
 (cond ((decide (ae>0))==true) (cond (cond true (decide (((p:Nat):Int)>0)) false) (q8 ae ai x z) (r0 [(.int .i64 f),(.imm (l.take (g*1)) g 1 false false),(.imm (i.take (e*3)) e 3 false false),(.imm (q.take (p*12)) p 12 false false),(.imm (r.take (o*22)) o 22 false false),(.imm (t.take (s*9)) s 9 false false),(.imm (v.take (u*5)) u 5 false false),(.imm (z.take (x*4)) x 4 false false)])) (r0 [(.int .i64 f),(.imm (l.take (g*1)) g 1 false false),(.imm (i.take (e*3)) e 3 false false),(.imm (q.take (p*12)) p 12 false false),(.imm (r.take (o*22)) o 22 false false),(.imm (t.take (s*9)) s 9 false false),(.imm (v.take (u*5)) u 5 false false),(.imm (z.take (x*4)) x 4 false false)]))
def H2 (r0:LA→O R) (b:LA) (c:Nat) (d:Bool) (f:Int) (g e p o s u:Nat) (l i q r t v:LA):Nat→Int→Int→Nat→LA→O R
 | 0,_,_,_,_=>none
 | n+1,ae,ai,x,z=>(Y7 N r0 b c d f g e p o s u l i q r t v (H2 r0 b c d f g e p o s u l i q r t v n) (fun ar ax w ao=>(UR N (H2 r0 b c d f g e p o s u l i q r t v n) r0 b c d f g e p o s u l i q r t v ar ax w ao)) ae ai x z)
def eS (r0:LA→O R) (b:LA) (c:Nat) (d:Bool) (f:Int) (g e p o s:Nat) (l i q r t:LA) (q7:Int→Int→Nat→LA→O R) (ap:Int) (u:Nat) (v:LA):O R :=
 (Af N 4 b c false d ap (fun bw bx=>(q7 bw bx 0 [])))
def US (r0:LA→O R) (b:LA) (c:Nat) (d:Bool) (f:Int) (g e p o s:Nat) (l i q r t:LA) (ap:Int) (u:Nat) (v:LA):O R:=(eS N r0 b c d f g e p o s l i q r t (fun ae ai x z=>(H2 N r0 b c d f g e p o s u l i q r t v N ae ai x z)) ap u v)
def KY (r0:LA→O R) (m:Int) (b:LA) (c:Nat) (d:Bool) (f:Int) (g e p o:Nat) (l i q r:LA) (q6:Int→Nat→LA→O R) (aq:Int) (s:Nat) (t:LA):O R :=
 (Af N 3 b c false d aq (fun bz bf=>(cond (bz==2) (Af N m b c false d bf (fun ca cb=>(El N f 12 b c false d cb (fun bg cc cd=>(El N f 12 b c false d cc (fun bh ce cf=>(El N f 40 b c false d ce (fun bi cg ch=>(q6 cg 1 [(.str ([116,48]:List UInt8)),(.int .i64 ca),(.imm (cd.take (bg*1)) bg 1 false false),(.imm (cf.take (bh*1)) bh 1 false false),(.imm (ch.take (bi*1)) bi 1 false false)]))))))))) (q6 bf 0 []))))
def GT (r0:LA→O R) (m:Int) (b:LA) (c:Nat) (d:Bool) (f:Int) (g e p o:Nat) (l i q r:LA) (aq:Int) (s:Nat) (t:LA):O R:=(KY N r0 m b c d f g e p o l i q r (fun ap u v=>(US N r0 b c d f g e p o s l i q r t ap u v)) aq s t)
def Y8 (r0:LA→O R) (m:Int) (b:LA) (c:Nat) (d:Bool) (f:Int) (g e:Nat) (l i:LA) (k4:Int→Int→Nat→Nat→LA→LA→O R) (q5:Int→Nat→LA→O R) (aj ak:Int) (p o:Nat) (q r:LA):O R :=
 (cond (decide (aj>0)) (P6 N ((o:Nat):Int) m f b c false d ak (fun bj ci=>(cond ((Nat.beq (bj.length) 22)&&(Nat.ble 22 22)) (cond ((Nat.ble (o+1) 140737488355328)&&(Nat.ble ((o+1)*216) 140737488355328)) (k4 (wrap .i64 (aj - 1)) ci p (o+1) q ((r.take (o*22))++((setCells [(.str ([]:List UInt8)),(.int .i64 0),(.int .i64 0),(.int .i64 0),.nsl,(.int .i64 0),(.int .i64 0),(.int .i64 0),(.int .i64 0),(.int .i64 0),(.int .i64 0),(.int .i64 0),(.int .i64 0),(.int .i64 0),(.int .i64 0),(.int .i64 0),(.int .i64 0),(.int .i64 0),.nsl,(.int .i64 0),(.int .i64 0),(.int .i64 0)] 0 bj).take 22))) none) none))) (Af N 3 b c false d ak (fun cj bk=>(cond (cj==2) (Af N m b c false d bk (fun ck cl=>(Af N 20 b c false d cl (fun bb cm=>(Af N 8 b c false d cm (fun cn co=>(Af N 8 b c false d co (fun cp cq=>(Af N 4 b c false d cq (fun cr cs=>(Af N (wrap .i64 (bb+1)) b c false d cs (fun ct cu=>(Af N (wrap .i64 (bb+1)) b c false d cu (fun cv cw=>(q5 cw 1 [(.str ([115,48]:List UInt8)),(.int .i64 ck),(.int .i64 bb),(.int .i64 ct),(.int .i64 cv),(.int .i64 cn),(.int .i64 cp),(.int .i64 (wrap .i64 (1+cr))),(.int .i64 4)]))))))))))))))) (q5 bk 0 [])))))
def O4 (r0:LA→O R) (m:Int) (b:LA) (c:Nat) (d:Bool) (f:Int) (g e:Nat) (l i:LA):Nat→Int→Int→Nat→Nat→LA→LA→O R
 | 0,_,_,_,_,_,_=>none
 | n+1,aj,ak,p,o,q,r=>(Y8 N r0 m b c d f g e l i (O4 r0 m b c d f g e l i n) (fun aq s t=>(GT N r0 m b c d f g e p o l i q r aq s t)) aj ak p o q r)
def Y9 (r0:LA→O R) (m:Int) (b:LA) (c:Nat) (d:Bool) (f:Int) (g e:Nat) (l i:LA) (k2:Int→Int→Nat→LA→O R) (q3:Int→Int→Nat→LA→O R) (q4:Int→Int→Nat→Nat→LA→LA→O R) (af aa:Int) (ab:Nat) (ac:LA):O R :=
 (cond ((decide (af>0))==true) (cond (cond true (decide (m>1)) false) (q3 af aa ab ac) (Af N 3 b c false d aa (fun cx cy=>(q4 (wrap .i64 (1+cx)) cy ab 0 ac [])))) (Af N 3 b c false d aa (fun cz da=>(q4 (wrap .i64 (1+cz)) da ab 0 ac []))))
def O5 (r0:LA→O R) (m:Int) (b:LA) (c:Nat) (d:Bool) (f:Int) (g e:Nat) (l i:LA):Nat→Int→Int→Nat→LA→O R
 | 0,_,_,_,_=>none
 | n+1,af,aa,ab,ac=>(Y9 N r0 m b c d f g e l i (O5 r0 m b c d f g e l i n) (fun au av an aw=>(UQ N (O5 r0 m b c d f g e l i n) r0 m b c d f g e l i au av an aw)) (fun aj ak p o q r=>(O4 N r0 m b c d f g e l i N aj ak p o q r)) af aa ab ac)
def KZ (r0:LA→O R) (b:LA) (c:Nat) (d:Bool) (f:Int) (g e:Nat) (l i:LA) (k1:Int→Int→Int→Nat→LA→O R) (q2:Int→Int→Nat→LA→O R) (m ag al:Int) (y:Nat) (am:LA):O R :=
 (cond (decide (ag<m)) (Af N ag b c false d al (fun db dc=>(P4 N ((y:Nat):Int) db ag f b c false d dc (fun bl dd=>(cond ((Nat.beq (bl.length) 12)&&(Nat.ble 12 12)) (cond ((Nat.ble (y+1) 140737488355328)&&(Nat.ble ((y+1)*120) 140737488355328)) (k1 m (wrap .i64 (ag+1)) dd (y+1) ((am.take (y*12))++((setCells [(.str ([]:List UInt8)),(.int .i64 0),(.int .i64 0),(.int .i64 0),(.int .i64 0),(.int .i64 0),(.int .i64 0),(.int .i64 0),(.int .i64 0),(.int .i64 0),(.int .i64 0),.nsl] 0 bl).take 12))) none) none))))) (Af N 5 b c false d al (fun de df=>(q2 de df y am))))
def W2 (r0:LA→O R) (b:LA) (c:Nat) (d:Bool) (f:Int) (g e:Nat) (l i:LA):Nat→Int→Int→Int→Nat→LA→O R
 | 0,_,_,_,_,_=>none
 | n+1,m,ag,al,y,am=>(KZ N r0 b c d f g e l i (W2 r0 b c d f g e l i n) (fun af aa ab ac=>(O5 N r0 m b c d f g e l i N af aa ab ac)) m ag al y am)
def Za (r0:LA→O R) (b:LA) (c:Nat) (d:Bool) (g:Nat) (l:LA) (k0:Int→Int→Int→Nat→LA→O R) (q1:Int→Int→Int→Nat→LA→O R) (ad ah f:Int) (e:Nat) (i:LA):O R :=
 (cond (decide (ad>0)) (KG N ([98]:List UInt8) ((e:Nat):Int) (fun bm=>(El N f 14 b c false d ah (fun ba dg bn=>(Af N 2 b c false d dg (fun dh bo=>(cond (dh==1) (Af N 200 b c false d bo (fun di dj=>(cond ((Nat.ble (e+1) 140737488355328)&&(Nat.ble ((e+1)*48) 140737488355328)) (k0 (wrap .i64 (ad - 1)) dj f (e+1) ((i.take (e*3))++[(.str bm),(.imm (bn.take (ba*1)) ba 1 false false),(.int .i64 (wrap .i64 (100+di)))])) none))) (cond ((Nat.ble (e+1) 140737488355328)&&(Nat.ble ((e+1)*48) 140737488355328)) (k0 (wrap .i64 (ad - 1)) bo f (e+1) ((i.take (e*3))++[(.str bm),(.imm (bn.take (ba*1)) ba 1 false false),(.int .i64 0)])) none)))))))) (q1 ((e:Nat):Int) 1 ah 0 []))
def Mh (r0:LA→O R) (b:LA) (c:Nat) (d:Bool) (g:Nat) (l:LA):Nat→Int→Int→Int→Nat→LA→O R
 | 0,_,_,_,_,_=>none
 | n+1,ad,ah,f,e,i=>(Za N r0 b c d g l (Mh r0 b c d g l n) (fun m ag al y am=>(W2 N r0 b c d f g e l i N m ag al y am)) ad ah f e i)
def qX (r0:LA→O R) (q0:Nat→LA→Int→Int→Int→Nat→LA→O R) (b:LA) (c:Nat) (ay d:Bool):O R :=
 (Ari N b c false d (Af N 3 b c false d 0 (fun bp dk=>(El N (wrap .i64 (1+bp)) 5 b c false d dk (fun g dl l=>(Af N 4 b c false d dl (fun dm dn=>(q0 g l (wrap .i64 (1+dm)) dn (wrap .i64 (1+bp)) 0 []))))))))
def gM:=(Ah (fun (N:Nat) (b:LA) (c:Nat) (ay d:Bool) (r0:LA→O R)=>(qX N r0 (fun g l ad ah f e i=>(Mh N r0 b c d g l N ad ah f e i)) b c ay d))).1
theorem xQ (b c ay d r0):(@gM R N b c ay d r0)=(qX N r0 (fun g l ad ah f e i=>(Mh N r0 b c d g l N ad ah f e i)) b c ay d):=by rw[gM,(Ah _).2]
def Ahe:Hints:={ H:=(hS hL (hS hL (hS hL (hS hL (hS (hS hL (hS (hP [2,3,4,5] hL) hL)) (hS hL (hS (hS hL (hS (hP [2,3,4,7,8] hL) hL)) (hS (hS hL (hS (hP [2,3,4,7,9] (hJ [2,3,4,7,9] hL hL)) hL)) (hS (hS hL (hS (hP [2,3,4,7,11] hL) hL)) (hJ [2,3,4,7] hL (hJ [2,3,4] hL (hS (hS hL (hS (hP [2,3,4,13] (hJ [2,3,4,13] hL hL)) hL)) hL)))))))))))),modes:=[(3,0)],cob:=[23,44,192] }
def Aoc:D9:=[(105,A6g N),(106,Io N),(107,tJ N),(108,UD N),(109,zA N),(110,zG N),(111,pp N),(112,Asl N)]
def Mi (F:KF R):=Jw Tryz.f61 Ahe (Aoc N) [] N F
def Cc (F:KF R):LA→O R:=(fun dp=>F (.pagg dp false) [])
def A02 (m:Int) (b:LA) (c:Nat) (d:Bool) (f:Int) (g e:Nat) (l i:LA) (au av:Int) (an:Nat) (aw:LA):St:=⟨[(2,(op 0)),(3,(op 1)),(4,(op 2)),(7,(iv m)),(9,(iv au))],(hq [⟨false,false,false,false,0,[(iv 0),.nsl,.nsl,.nsl,.nsl,.nsl,.nsl,.nsl],false⟩,⟨false,false,false,false,0,[(.imm b c 1 false d),(iv av)],false⟩,⟨false,false,false,false,0,[(iv f),(.own 300003 0 g),(.own 300004 0 e),(.own 300005 0 an),(.own 300006 0 0),(.own 300007 0 0),(.own 300008 0 0),(.own 300009 0 0)],false⟩,(bQ 1 l),(bQ 3 i),(bQ 12 aw),(bQ 22 []),(bQ 9 []),(bQ 5 []),(bQ 4 [])])⟩
def A03 (F:KF R) (Q2:St→O R):=Mi N F [1,1,1,1,1,1,1,0,1,0,0,1] [Q2]
def A04 (b:LA) (c:Nat) (d:Bool) (f:Int) (g e p o s u:Nat) (l i q r t v:LA) (ar ax:Int) (w:Nat) (ao:LA):St:=⟨[(2,(op 0)),(3,(op 1)),(4,(op 2)),(13,(iv ar))],(hq [⟨false,false,false,false,0,[(iv 0),.nsl,.nsl,.nsl,.nsl,.nsl,.nsl,.nsl],false⟩,⟨false,false,false,false,0,[(.imm b c 1 false d),(iv ax)],false⟩,⟨false,false,false,false,0,[(iv f),(.own 300003 0 g),(.own 300004 0 e),(.own 300005 0 p),(.own 300006 0 o),(.own 300007 0 s),(.own 300008 0 u),(.own 300009 0 w)],false⟩,(bQ 1 l),(bQ 3 i),(bQ 12 q),(bQ 22 r),(bQ 9 t),(bQ 5 v),(bQ 4 ao)])⟩
def A05 (F:KF R) (Q7:St→O R):=Mi N F [1,1,1,1,1,1,1,1,1,1,1,0,1,0,0,1] [Q7]
def Ahf (b:LA) (c:Nat) (d:Bool) (f:Int) (g e p o s u:Nat) (l i q r t v:LA) (ae ai:Int) (x:Nat) (z:LA):St:=⟨[(2,(op 0)),(3,(op 1)),(4,(op 2)),(13,(iv ae))],(hq [⟨false,false,false,false,0,[(iv 0),.nsl,.nsl,.nsl,.nsl,.nsl,.nsl,.nsl],false⟩,⟨false,false,false,false,0,[(.imm b c 1 false d),(iv ai)],false⟩,⟨false,false,false,false,0,[(iv f),(.own 300003 0 g),(.own 300004 0 e),(.own 300005 0 p),(.own 300006 0 o),(.own 300007 0 s),(.own 300008 0 u),(.own 300009 0 x)],false⟩,(bQ 1 l),(bQ 3 i),(bQ 12 q),(bQ 22 r),(bQ 9 t),(bQ 5 v),(bQ 4 z)])⟩
def Ahg (F:KF R):=Mi N F [1,1,1,1,1,1,1,1,1,1,1,0,1,0] []
def A06 (b:LA) (c:Nat) (d:Bool) (f:Int) (g e p o s:Nat) (l i q r t:LA) (ap:Int) (u:Nat) (v:LA):St:=⟨[(2,(op 0)),(3,(op 1)),(4,(op 2))],(hq [⟨false,false,false,false,0,[(iv 0),.nsl,.nsl,.nsl,.nsl,.nsl,.nsl,.nsl],false⟩,⟨false,false,false,false,0,[(.imm b c 1 false d),(iv ap)],false⟩,⟨false,false,false,false,0,[(iv f),(.own 300003 0 g),(.own 300004 0 e),(.own 300005 0 p),(.own 300006 0 o),(.own 300007 0 s),(.own 300008 0 u),(.own 300009 0 0)],false⟩,(bQ 1 l),(bQ 3 i),(bQ 12 q),(bQ 22 r),(bQ 9 t),(bQ 5 v),(bQ 4 [])])⟩
def A07 (F:KF R):=Mi N F [1,1,1,1,1,1,1,1,1,1,1] []
def A08 (m:Int) (b:LA) (c:Nat) (d:Bool) (f:Int) (g e p o:Nat) (l i q r:LA) (aq:Int) (s:Nat) (t:LA):St:=⟨[(2,(op 0)),(3,(op 1)),(4,(op 2)),(7,(iv m))],(hq [⟨false,false,false,false,0,[(iv 0),.nsl,.nsl,.nsl,.nsl,.nsl,.nsl,.nsl],false⟩,⟨false,false,false,false,0,[(.imm b c 1 false d),(iv aq)],false⟩,⟨false,false,false,false,0,[(iv f),(.own 300003 0 g),(.own 300004 0 e),(.own 300005 0 p),(.own 300006 0 o),(.own 300007 0 s),(.own 300008 0 0),(.own 300009 0 0)],false⟩,(bQ 1 l),(bQ 3 i),(bQ 12 q),(bQ 22 r),(bQ 9 t),(bQ 5 []),(bQ 4 [])])⟩
def A09 (F:KF R):=Mi N F [1,1,1,1,1,1,1,1,1,1] []
def A1a (m:Int) (b:LA) (c:Nat) (d:Bool) (f:Int) (g e:Nat) (l i:LA) (aj ak:Int) (p o:Nat) (q r:LA):St:=⟨[(2,(op 0)),(3,(op 1)),(4,(op 2)),(7,(iv m)),(11,(iv aj))],(hq [⟨false,false,false,false,0,[(iv 0),.nsl,.nsl,.nsl,.nsl,.nsl,.nsl,.nsl],false⟩,⟨false,false,false,false,0,[(.imm b c 1 false d),(iv ak)],false⟩,⟨false,false,false,false,0,[(iv f),(.own 300003 0 g),(.own 300004 0 e),(.own 300005 0 p),(.own 300006 0 o),(.own 300007 0 0),(.own 300008 0 0),(.own 300009 0 0)],false⟩,(bQ 1 l),(bQ 3 i),(bQ 12 q),(bQ 22 r),(bQ 9 []),(bQ 5 []),(bQ 4 [])])⟩
def A1b (F:KF R):=Mi N F [1,1,1,1,1,1,1,1,0,1,0] []
def Ahh (m:Int) (b:LA) (c:Nat) (d:Bool) (f:Int) (g e:Nat) (l i:LA) (af aa:Int) (ab:Nat) (ac:LA):St:=⟨[(2,(op 0)),(3,(op 1)),(4,(op 2)),(7,(iv m)),(9,(iv af))],(hq [⟨false,false,false,false,0,[(iv 0),.nsl,.nsl,.nsl,.nsl,.nsl,.nsl,.nsl],false⟩,⟨false,false,false,false,0,[(.imm b c 1 false d),(iv aa)],false⟩,⟨false,false,false,false,0,[(iv f),(.own 300003 0 g),(.own 300004 0 e),(.own 300005 0 ab),(.own 300006 0 0),(.own 300007 0 0),(.own 300008 0 0),(.own 300009 0 0)],false⟩,(bQ 1 l),(bQ 3 i),(bQ 12 ac),(bQ 22 []),(bQ 9 []),(bQ 5 []),(bQ 4 [])])⟩
def Ahi (F:KF R):=Mi N F [1,1,1,1,1,1,1,0,1,0] []
def A1c (b:LA) (c:Nat) (d:Bool) (f:Int) (g e:Nat) (l i:LA) (m ag al:Int) (y:Nat) (am:LA):St:=⟨[(2,(op 0)),(3,(op 1)),(4,(op 2)),(7,(iv m)),(8,(iv ag))],(hq [⟨false,false,false,false,0,[(iv 0),.nsl,.nsl,.nsl,.nsl,.nsl,.nsl,.nsl],false⟩,⟨false,false,false,false,0,[(.imm b c 1 false d),(iv al)],false⟩,⟨false,false,false,false,0,[(iv f),(.own 300003 0 g),(.own 300004 0 e),(.own 300005 0 y),(.own 300006 0 0),(.own 300007 0 0),(.own 300008 0 0),(.own 300009 0 0)],false⟩,(bQ 1 l),(bQ 3 i),(bQ 12 am),(bQ 22 []),(bQ 9 []),(bQ 5 []),(bQ 4 [])])⟩
def A1d (F:KF R):=Mi N F [1,1,1,1,1,1,0,1,0] []
def A1e (b:LA) (c:Nat) (d:Bool) (g:Nat) (l:LA) (ad ah f:Int) (e:Nat) (i:LA):St:=⟨[(2,(op 0)),(3,(op 1)),(4,(op 2)),(5,(iv ad))],(hq [⟨false,false,false,false,0,[(iv 0),.nsl,.nsl,.nsl,.nsl,.nsl,.nsl,.nsl],false⟩,⟨false,false,false,false,0,[(.imm b c 1 false d),(iv ah)],false⟩,⟨false,false,false,false,0,[(iv f),(.own 300003 0 g),(.own 300004 0 e),(.own 300005 0 0),(.own 300006 0 0),(.own 300007 0 0),(.own 300008 0 0),(.own 300009 0 0)],false⟩,(bQ 1 l),(bQ 3 i),(bQ 12 []),(bQ 22 []),(bQ 9 []),(bQ 5 []),(bQ 4 [])])⟩
def A1f (F:KF R):=Mi N F [1,1,1,1,0,1,0] []
theorem Akx (Q2:St→O R) (F:KF R) (m:Int) (b:LA) (c:Nat) (d:Bool) (f:Int) (g e:Nat) (l i:LA):∀ (au av:Int) (an:Nat) (aw:LA),A9 (A03 N F Q2) (A02 m b c d f g e l i au av an aw)=(UQ N (fun af aa ab ac=>Q2 (Ahh m b c d f g e l i af aa ab ac)) (Cc F) m b c d f g e l i au av an aw):=by
 intro au av an aw
 kernel_rfl
theorem Aky (Q7:St→O R) (F:KF R) (b:LA) (c:Nat) (d:Bool) (f:Int) (g e p o s u:Nat) (l i q r t v:LA):∀ (ar ax:Int) (w:Nat) (ao:LA),A9 (A05 N F Q7) (A04 b c d f g e p o s u l i q r t v ar ax w ao)=(UR N (fun ae ai x z=>Q7 (Ahf b c d f g e p o s u l i q r t v ae ai x z)) (Cc F) b c d f g e p o s u l i q r t v ar ax w ao):=by
 intro ar ax w ao
 kernel_rfl
theorem kP (F:KF R) (b:LA) (c:Nat) (d:Bool) (f:Int) (g e p o s u:Nat) (l i q r t v:LA):∀ (n:Nat) (ae ai:Int) (x:Nat) (z:LA),Ao (Ahg N F) n (Ahf b c d f g e p o s u l i q r t v ae ai x z)=(H2 N (Cc F) b c d f g e p o s u l i q r t v n ae ai x z)
 | 0,_,_,_,_=>by kernel_rfl
 | n+1,ae,ai,x,z=>have e0:=(funext fun ae=>funext fun ai=>funext fun x=>funext fun z=>(kP F b c d f g e p o s u l i q r t v n ae ai x z))
  Eq.trans (by kernel_rfl) (VS (Y7 N (Cc F) b c d f g e p o s u l i q r t v · · ae ai x z) e0 (funext fun ar=>funext fun ax=>funext fun w=>funext fun ao=>(At ..).trans ((Aky N (Ao (Ahg N F) n) F b c d f g e p o s u l i q r t v ar ax w ao).trans (Bp (UR N · (Cc F) b c d f g e p o s u l i q r t v ar ax w ao) e0))):_)
theorem Akz (F:KF R) (b:LA) (c:Nat) (d:Bool) (f:Int) (g e p o s:Nat) (l i q r t:LA):∀ (ap:Int) (u:Nat) (v:LA),A9 (A07 N F) (A06 b c d f g e p o s l i q r t ap u v)=(US N (Cc F) b c d f g e p o s l i q r t ap u v):=by
 intro ap u v
 exact Eq.trans (by kernel_rfl) (Bp (eS N (Cc F) b c d f g e p o s l i q r t · ap u v) (funext fun ae=>funext fun ai=>funext fun x=>funext fun z=>(Aj ..).trans (kP N F b c d f g e p o s u l i q r t v N ae ai x z)):_)
theorem Ak0 (F:KF R) (m:Int) (b:LA) (c:Nat) (d:Bool) (f:Int) (g e p o:Nat) (l i q r:LA):∀ (aq:Int) (s:Nat) (t:LA),A9 (A09 N F) (A08 m b c d f g e p o l i q r aq s t)=(GT N (Cc F) m b c d f g e p o l i q r aq s t):=by
 intro aq s t
 exact Eq.trans (by kernel_rfl) (Bp (KY N (Cc F) m b c d f g e p o l i q r · aq s t) (funext fun ap=>funext fun u=>funext fun v=>(At ..).trans (Akz N F b c d f g e p o s l i q r t ap u v)):_)
theorem kQ (F:KF R) (m:Int) (b:LA) (c:Nat) (d:Bool) (f:Int) (g e:Nat) (l i:LA):∀ (n:Nat) (aj ak:Int) (p o:Nat) (q r:LA),Ao (A1b N F) n (A1a m b c d f g e l i aj ak p o q r)=(O4 N (Cc F) m b c d f g e l i n aj ak p o q r)
 | 0,_,_,_,_,_,_=>by kernel_rfl
 | n+1,aj,ak,p,o,q,r=>Eq.trans (by kernel_rfl) (VS (Y8 N (Cc F) m b c d f g e l i · · aj ak p o q r) (funext fun aj=>funext fun ak=>funext fun p=>funext fun o=>funext fun q=>funext fun r=>(kQ F m b c d f g e l i n aj ak p o q r)) (funext fun aq=>funext fun s=>funext fun t=>(At ..).trans (Ak0 N F m b c d f g e p o l i q r aq s t)):_)
theorem kR (F:KF R) (m:Int) (b:LA) (c:Nat) (d:Bool) (f:Int) (g e:Nat) (l i:LA):∀ (n:Nat) (af aa:Int) (ab:Nat) (ac:LA),Ao (Ahi N F) n (Ahh m b c d f g e l i af aa ab ac)=(O5 N (Cc F) m b c d f g e l i n af aa ab ac)
 | 0,_,_,_,_=>by kernel_rfl
 | n+1,af,aa,ab,ac=>have e0:=(funext fun af=>funext fun aa=>funext fun ab=>funext fun ac=>(kR F m b c d f g e l i n af aa ab ac))
  Eq.trans (by kernel_rfl) (Bdj (Y9 N (Cc F) m b c d f g e l i · · · af aa ab ac) e0 (funext fun au=>funext fun av=>funext fun an=>funext fun aw=>(At ..).trans ((Akx N (Ao (Ahi N F) n) F m b c d f g e l i au av an aw).trans (Bp (UQ N · (Cc F) m b c d f g e l i au av an aw) e0))) (funext fun aj=>funext fun ak=>funext fun p=>funext fun o=>funext fun q=>funext fun r=>(Aj ..).trans (kQ N F m b c d f g e l i N aj ak p o q r)):_)
theorem kS (F:KF R) (b:LA) (c:Nat) (d:Bool) (f:Int) (g e:Nat) (l i:LA):∀ (n:Nat) (m ag al:Int) (y:Nat) (am:LA),Ao (A1d N F) n (A1c b c d f g e l i m ag al y am)=(W2 N (Cc F) b c d f g e l i n m ag al y am)
 | 0,_,_,_,_,_=>by kernel_rfl
 | n+1,m,ag,al,y,am=>Eq.trans (by kernel_rfl) (VS (KZ N (Cc F) b c d f g e l i · · m ag al y am) (funext fun m=>funext fun ag=>funext fun al=>funext fun y=>funext fun am=>(kS F b c d f g e l i n m ag al y am)) (funext fun af=>funext fun aa=>funext fun ab=>funext fun ac=>(Aj ..).trans (kR N F m b c d f g e l i N af aa ab ac)):_)
theorem kT (F:KF R) (b:LA) (c:Nat) (d:Bool) (g:Nat) (l:LA):∀ (n:Nat) (ad ah f:Int) (e:Nat) (i:LA),Ao (A1f N F) n (A1e b c d g l ad ah f e i)=(Mh N (Cc F) b c d g l n ad ah f e i)
 | 0,_,_,_,_,_=>by kernel_rfl
 | n+1,ad,ah,f,e,i=>Eq.trans (by kernel_rfl) (VS (Za N (Cc F) b c d g l · · ad ah f e i) (funext fun ad=>funext fun ah=>funext fun f=>funext fun e=>funext fun i=>(kT F b c d g l n ad ah f e i)) (funext fun m=>funext fun ag=>funext fun al=>funext fun y=>funext fun am=>(Aj ..).trans (kS N F b c d f g e l i N m ag al y am)):_)
theorem Ahj (b:LA) (c:Nat) (ay d:Bool) (F:KF R):Ch (Aoc N) Ahe N 61 [(.imm b c 1 ay d)] [] F=(gM N b c ay d (Cc F)):=by
 rw[xQ]
 exact Eq.trans (by kernel_rfl) (Bp (qX N (Cc F) · b c ay d) (funext fun g=>funext fun l=>funext fun ad=>funext fun ah=>funext fun f=>funext fun e=>funext fun i=>(Aj ..).trans (kT N F b c d g l N ad ah f e i)):_)
def xR (a:LA) (h:Am) (k:KF R):O R :=
 match a,h with
 | [(.imm b c 1 ay d)],[]=>(gM N b c ay d (Cc k))
 | _,_=>none
theorem Ahk:Ap N 61 @xR:=by
 intro R Q a h k j;unfold xR;split;exact A0 (Ahj ..) (Ahj ..) ⟨A6h N,Ip N,tK N,UE N,zB N,zH N,pq N,Asm N,trivial⟩;exact A3
def A1g:=A1 (Ahk N)
def A1h:=Ce (Ahk N)
def Ahl (b:LA) (c:Nat) (e d:Bool) (r0:LA→Int→O R):O R :=
 (gM N b c false d (fun g=>(cond ((Nat.beq 0 0)&&((Nat.beq (g.length) 8)&&(Nat.beq 8 8))) (Co 22 (g.drop 4) fun f i=>(cond (Ac 0 i) (cond (Nat.ble 22 (f.length)) (An .i64 g fun l=>(cond ((Nat.beq 0 0)&&((Nat.beq ((f.take 22).length) 22)&&(Nat.beq 22 22))) (cond (Nat.ble 22 ((f.take 22).length)) (r0 ((f.take 22).take 22) l) none) none)) none) none)) none)))
def qY:=(Ah (@Ahl R)).1
theorem xS:@qY R=@Ahl R:=(Ah _).2
def A6k:D9:=[(61,A1g N)]
def Ahm (F:KF R):LA→Int→O R:=(fun m n=>F (.tup [(.pagg m false),(iv n)]) [])
theorem Ahn (b:LA) (c:Nat) (e d:Bool) (F:KF R):Ch (A6k N) A7n N 27 [(.imm b c 1 e d)] [] F=(qY N b c e d (Ahm F)):=by
 rw[xS]
 kernel_rfl
def xT (a:LA) (h:Am) (k:KF R):O R :=
 match a,h with
 | [(.imm b c 1 e d)],[]=>(qY N b c e d (Ahm k))
 | _,_=>none
theorem Aho:Ap N 27 @xT:=by
 intro R Q a h k j;unfold xT;split;exact A0 (Ahn ..) (Ahn ..) ⟨A1h N,trivial⟩;exact A3
def A1i:=A1 (Aho N)
def A1j:=Ce (Aho N)
def mQ (b:LA) (c:Bool) (d:Int) (r0:Bool→O R):O R :=
 (cond (Nat.ble 3 (b.length)) (Cr N d (fun e=>(Fg N (b.take 3) c e false (fun f=>(r0 (decide (f≤0))))))) none)
def P8:=(Ah (@mQ R)).1
theorem kU:@P8 R=@mQ R:=(Ah _).2
def Awk:D9:=[(60,Je N),(59,Q4 N)]
def qZ (F:KF R):Bool→O R:=(fun g=>F (.bool g) [])
theorem q_ (b:LA) (c:Bool) (d:Int) (F:KF R):Ch (Awk N) Dj N 125 [(.pagg b c),(iv d)] [] F=(P8 N b c d (qZ F)):=by
 rw[kU]
 kernel_rfl
def kV (a:LA) (h:Am) (k:KF R):O R :=
 match a,h with
 | [(.pagg b c),(.int .i64 d)],[]=>(P8 N b c d (qZ k))
 | _,_=>none
theorem qa:Ap N 125 @kV:=by
 intro R Q a h k j;unfold kV;split;exact A0 (q_ ..) (q_ ..) ⟨Jf N,Q5 N,trivial⟩;exact A3
def qb:=A1 (qa N)
def qc:=Ce (qa N)
def GU (d:LA) (i g:Bool) (b:LA) (e:Bool) (c:LA) (f:Bool) (r0:Bool→O R):O R :=
 (cond (!g) (cond (Nat.ble 3 (b.length)) (Rs N (b.take 3) e (fun l=>(cond ((l==0)==true) (cond (Nat.ble 3 (c.length)) (Rs N (c.take 3) f (fun m=>(r0 (cond true (m==0) false)))) none) (r0 false)))) none) (cond (Nat.ble 3 (b.length)) (An .i64 (d.drop 2) fun n=>(Cr N n (fun o=>(Fg N (b.take 3) e o false (fun p=>(cond ((decide (p≥0))==true) (cond (Nat.ble 3 (c.length)) (An .i64 (d.drop 16) fun q=>(Wu N (c.take 3) f 0 q (fun r=>(cond ((cond true r false)==true) (cond (Nat.ble 3 (b.length)) (cond (Nat.ble 3 (c.length)) (Zu N (b.take 3) e (c.take 3) f (fun s=>(An .i64 (d.drop 3) fun t=>(P8 N s false t (fun u=>(r0 (cond true u false))))))) none) none) (r0 false))))) none) (r0 false))))))) none))
def Rk:=(Ah (@GU R)).1
theorem K_:@Rk R=@GU R:=(Ah _).2
def zK:D9:=[(95,SQ N),(60,Je N),(59,Q4 N),(56,TK N),(81,fw N),(125,qb N)]
def PY (F:KF R):Bool→O R:=(fun v=>F (.bool v) [])
theorem PZ (d:LA) (i g:Bool) (b:LA) (e:Bool) (c:LA) (f:Bool) (F:KF R):Ch (zK N) Dj N 76 [(.pagg d i),(.bool g),(.pagg b e),(.pagg c f)] [] F=(Rk N d i g b e c f (PY F)):=by
 rw[K_]
 kernel_rfl
def LB (a:LA) (h:Am) (k:KF R):O R :=
 match a,h with
 | [(.pagg d i),(.bool g),(.pagg b e),(.pagg c f)],[]=>(Rk N d i g b e c f (PY k))
 | _,_=>none
theorem P_:Ap N 76 @LB:=by
 intro R Q a h k j;unfold LB;split;exact A0 (PZ ..) (PZ ..) ⟨SR N,Jf N,Q5 N,TL N,fx N,qc N,trivial⟩;exact A3
def tW:=A1 (P_ N)
def tX:=Ce (P_ N)
end
end Gx

namespace Gx
open Go Go.Proofs
open IntKind (wrap)
set_option maxRecDepth 100000
noncomputable section
variable {R:Type} (N:Nat)
def R7 (r0:Bool→O R) (f g l:Bool) (c:LA) (e:Bool) (b:LA) (i:Bool) (d m:LA) (n:Bool):O R :=
 (cond n (cond (Nat.ble 3 (m.length)) (cond (Nat.ble 3 (b.length)) (MB N (m.take 3) false (b.take 3) e (fun q=>(An .i64 (c.drop 6) fun r=>(P8 N q false r (fun s=>(cond (s==true) (cond (Nat.ble 3 (b.length)) (cond (Nat.ble 3 (d.length)) (MB N (b.take 3) e (d.take 3) i (fun t=>(An .i64 (c.drop 7) fun u=>(P8 N t false u (fun v=>(r0 (cond true v false))))))) none) none) (r0 false))))))) none) none) (cond g (cond (Nat.ble 3 (m.length)) (An .i64 (c.drop 8) fun w=>(P8 N (m.take 3) false w (fun x=>(r0 x)))) none) (cond f (cond (Nat.ble 3 (b.length)) (An .i64 (c.drop 9) fun y=>(P8 N (b.take 3) e y (fun z=>(r0 z)))) none) (r0 true))))
def X5 (r0:Bool→O R) (q0:LA→Bool→O R) (c:LA) (l f g:Bool) (b:LA) (e:Bool) (d:LA) (i:Bool) (o:LA) (p:Bool):O R :=
 (cond (Nat.ble 3 (d.length)) (cond (Nat.ble 3 (o.length)) (Zu N (d.take 3) i (o.take 3) p (fun m=>(cond ((Nat.beq 0 0)&&((Nat.beq (m.length) 3)&&(Nat.beq 3 3))) (cond (g==true) (q0 m (cond true f false)) (q0 m false)) none))) none) none)
def P9:=(Ah (fun (N:Nat) (c:LA) (l f g:Bool) (b:LA) (e:Bool) (d:LA) (i:Bool) (o:LA) (p:Bool) (r0:Bool→O R)=>(X5 N r0 (fun m n=>(R7 N r0 f g l c e b i d m n)) c l f g b e d i o p))).1
theorem P' (c l f g b e d i o p r0):(@P9 R N c l f g b e d i o p r0)=(X5 N r0 (fun m n=>(R7 N r0 f g l c e b i d m n)) c l f g b e d i o p):=by rw[P9,(Ah _).2]
def YS:Hints:={ H:=(hS hL (hS hL (hS (hS (hJ [1,2,6,9,10,13,17] hL hL) hL) hL))) }
def eT:D9:=[(81,fw N),(83,Ane N),(125,qb N)]
def zL (F:KF R):=Jw Tryz.f77 YS (eT N) [] N F
def R8 (F:KF R):Bool→O R:=(fun aa=>F (.bool aa) [])
def zM (f g l:Bool) (c:LA) (e:Bool) (b:LA) (i:Bool) (d m:LA) (n:Bool):St:=⟨[(1,(.bool f)),(2,(.bool g)),(6,(op 0)),(9,(op 1)),(10,(op 2)),(13,(op 3)),(17,(.bool n))],(hq [(bP l 0 c),(bP e 0 b),(bP i 0 d),(bQ 0 m)])⟩
def zN (F:KF R):=zL N F [1,1,0,0,1] []
theorem mR (F:KF R) (f g l:Bool) (c:LA) (e:Bool) (b:LA) (i:Bool) (d m:LA):∀ (n:Bool),A9 (zN N F) (zM f g l c e b i d m n)=(R7 N (R8 F) f g l c e b i d m n):=by
 intro n
 kernel_rfl
theorem YT (c:LA) (l f g:Bool) (b:LA) (e:Bool) (d:LA) (i:Bool) (o:LA) (p:Bool) (F:KF R):Ch (eT N) YS N 77 [(.pagg c l),(.bool f),(.bool g),(.pagg b e),(.pagg d i),(.pagg o p)] [] F=(P9 N c l f g b e d i o p (R8 F)):=by
 rw[P']
 exact Eq.trans (by kernel_rfl) (Bp (X5 N (R8 F) · c l f g b e d i o p) (funext fun m=>funext fun n=>(At ..).trans (mR N F f g l c e b i d m n)):_)
def QA (a:LA) (h:Am) (k:KF R):O R :=
 match a,h with
 | [(.pagg c l),(.bool f),(.bool g),(.pagg b e),(.pagg d i),(.pagg o p)],[]=>(P9 N c l f g b e d i o p (R8 k))
 | _,_=>none
theorem YU:Ap N 77 @QA:=by
 intro R Q a h k j;unfold QA;split;exact A0 (YT ..) (YT ..) ⟨fx N,Anf N,qc N,trivial⟩;exact A3
def zO:=A1 (YU N)
def zP:=Ce (YU N)
def LC (k1:Bool→Int→Bool→LA→O R) (r0:Int→Int→O R) (d i l:Int) (o:Bool) (f:Int) (g:Bool) (b:LA) (e:Bool) (c:LA) (m:Bool) (q:LA):O R :=
 (Co 1 c fun y z=>(cond (Ac f z) (An .i64 (y.drop ((f.toNat)*1)) fun r=>(cond (Nat.ble 22 (b.length)) (Co 3 (c.drop 1) fun t aa=>(cond (Ac f aa) (cond (Nat.ble 3 ((t.drop ((f.toNat)*3)).length)) (Co 3 (c.drop 2) fun u ab=>(cond (Ac f ab) (cond (Nat.ble 3 ((u.drop ((f.toNat)*3)).length)) (Rk N (b.take 22) g (r==2) ((t.drop ((f.toNat)*3)).take 3) e ((u.drop ((f.toNat)*3)).take 3) e (fun ac=>(cond (!ac) (r0 f 3) (cond (Nat.ble 22 (b.length)) (cond (Nat.ble 3 (q.length)) (Co 3 (c.drop 1) fun v ad=>(cond (Ac f ad) (cond (Nat.ble 3 ((v.drop ((f.toNat)*3)).length)) (Co 3 (c.drop 2) fun w ae=>(cond (Ac f ae) (cond (Nat.ble 3 ((w.drop ((f.toNat)*3)).length)) (P9 N (b.take 22) g o (r==2) (q.take 3) m ((v.drop ((f.toNat)*3)).take 3) e ((w.drop ((f.toNat)*3)).take 3) e (fun af=>(cond (!af) (r0 f 64) (Co 3 (c.drop 1) fun s ag=>(cond (Ac f ag) (cond (Nat.ble 3 ((s.drop ((f.toNat)*3)).length)) (cond ((Nat.beq (((s.drop ((f.toNat)*3)).take 3).length) 3)&&((Nat.ble 3 (q.length))&&(!false))) (k1 (r==2) (wrap .i64 (f+1)) (m||e) (setCells q 0 ((s.drop ((f.toNat)*3)).take 3))) none) none) none))))) none) none)) none) none)) none) none)))) none) none)) none) none)) none)) none))
def CT (N:Nat) (r0:Int→Int→O R) (d i l:Int) (g:Bool) (b:LA) (e:Bool) (c:LA) (k1:Bool→Int→Bool→LA→O R) (q2:LA→O R) (o:Bool) (f:Int) (m:Bool) (p:LA):O R :=
 (cond (decide (f<d)) (cond ((l != 0)==true) (cond (cond true (decide (f≥i)) false) (r0 f 16) (q2 p)) (q2 p)) (r0 d 0))
def K8 (r0:Int→Int→O R) (d i l:Int) (g:Bool) (b:LA) (e:Bool) (c:LA):Nat→Bool→Int→Bool→LA→O R
 | 0,_,_,_,_=>none
 | n+1,o,f,m,p=>(CT N r0 d i l g b e c (K8 r0 d i l g b e c n) (fun q=>(LC N (K8 r0 d i l g b e c n) r0 d i l o f g b e c m q)) o f m p)
def UT (r0:Int→Int→O R) (d:Int) (g:Bool) (b:LA) (e:Bool) (c:LA) (q1:Int→Int→Bool→Int→Bool→LA→O R):O R :=
 (cond (Nat.ble 22 (b.length)) (Co 1 c fun ah ai=>(JX N (b.take 22) g ah ai false e (fun ar i l au=>(An .i64 (b.drop 19) fun aj=>(An .i64 (b.drop 21) fun ak=>(Cr N ak (fun x=>(cond ((Nat.beq 0 0)&&((Nat.beq (x.length) 3)&&(Nat.beq 3 3))) (q1 i l (aj==2) 0 false x) none)))))))) none)
def LD (r0:Int→Int→O R) (d:Int) (g:Bool) (b:LA) (e:Bool) (c:LA):O R:=(UT N r0 d g b e c (fun i l o f m p=>(K8 N r0 d i l g b e c N o f m p)))
def gN (r0:Int→Int→O R) (q0:O R) (b:LA) (g:Bool) (d:Int) (c:LA) (e:Bool):O R :=
 (cond (Nat.ble 22 (b.length)) (Uj N (b.take 22) g d (fun al=>(cond (!al) (r0 0 1) (Co 1 c fun av am=>(cond ((((am:Nat):Int) != d)==false) (Co 3 (c.drop 1) fun aw an=>(cond ((cond false true (((an:Nat):Int) != d))==false) (Co 3 (c.drop 2) fun ax ao=>(cond (cond false true (((ao:Nat):Int) != d)) (r0 0 4) q0)) (r0 0 4))) (r0 0 4)))))) none)
def Zb:=(Ah (fun (N:Nat) (b:LA) (g:Bool) (d:Int) (c:LA) (e:Bool) (r0:Int→Int→O R)=>(gN N r0 (LD N r0 d g b e c) b g d c e))).1
theorem qd (b g d c e r0):(@Zb R N b g d c e r0)=(gN N r0 (LD N r0 d g b e c) b g d c e):=by rw[Zb,(Ah _).2]
def xU:Hints:={ H:=(hS hL (hS hL (hJ [1,3,5] hL (hS hL (hS hL (hS hL (hS (hS hL (hS (hP [1,3,5,9,10,11,12,52,53] (hS hL (hS hL (hS (hS (hS hL (hJ [1,3,5,9,10,11,12,13,52,53] hL hL)) hL) hL)))) hL)) hL))))))) }
def Ahp:D9:=[(16,IY N),(64,Afq N),(60,Je N),(76,tW N),(77,zO N)]
def eV (F:KF R):=Jw Tryz.f38 xU (Ahp N) [] N F
def I7 (F:KF R):Int→Int→O R:=(fun ap aq=>F (.tup [(iv ap),(iv aq)]) [])
def Awl (d i l:Int) (o:Bool) (f:Int) (g:Bool) (b:LA) (e:Bool) (c:LA) (m:Bool) (q:LA):St:=⟨[(1,(iv d)),(3,(op 0)),(5,(op 1)),(9,(iv i)),(10,(iv l)),(11,(.bool o)),(12,(op 2)),(13,(iv f)),(52,(iv d)),(53,(iv f))],(hq [(bP g 0 b),(bP e 0 c),(bP m 0 q)])⟩
def Awm (F:KF R) (Q1:St→O R):=eV N F [1,1,1,1,1,1,0,1,0,0,1,1,0,0,1,1] [Q1]
def xV (d i l:Int) (g:Bool) (b:LA) (e:Bool) (c:LA) (o:Bool) (f:Int) (m:Bool) (p:LA):St:=⟨[(1,(iv d)),(3,(op 0)),(5,(op 1)),(9,(iv i)),(10,(iv l)),(11,(.bool o)),(12,(op 2)),(52,(iv d)),(53,(iv f))],(hq [(bP g 0 b),(bP e 0 c),(bP m 0 p)])⟩
def xW (F:KF R):=eV N F [1,1,1,1,1,1,0,1,0] []
def Awn (d:Int) (g:Bool) (b:LA) (e:Bool) (c:LA):St:=⟨[(1,(iv d)),(3,(op 0)),(5,(op 1))],(hq [(bP g 0 b),(bP e 0 c)])⟩
def Awo (F:KF R):=eV N F [1,1,1] []
theorem Ahq (Q1:St→O R) (F:KF R) (d i l:Int) (o:Bool) (f:Int) (g:Bool) (b:LA) (e:Bool) (c:LA) (m:Bool):∀ (q:LA),A9 (Awm N F Q1) (Awl d i l o f g b e c m q)=(LC N (fun o f m p=>Q1 (xV d i l g b e c o f m p)) (I7 F) d i l o f g b e c m q):=by
 intro q
 kernel_rfl
theorem eX (F:KF R) (d i l:Int) (g:Bool) (b:LA) (e:Bool) (c:LA):∀ (n:Nat) (o:Bool) (f:Int) (m:Bool) (p:LA),Ao (xW N F) n (xV d i l g b e c o f m p)=(K8 N (I7 F) d i l g b e c n o f m p)
 | 0,_,_,_,_=>by kernel_rfl
 | n+1,o,f,m,p=>have e0:=(funext fun o=>funext fun f=>funext fun m=>funext fun p=>(eX F d i l g b e c n o f m p))
  Eq.trans (by kernel_rfl) (VS (CT N (I7 F) d i l g b e c · · o f m p) e0 (funext fun q=>(At ..).trans ((Ahq N (Ao (xW N F) n) F d i l o f g b e c m q).trans (Bp (LC N · (I7 F) d i l o f g b e c m q) e0))):_)
theorem Ahr (F:KF R) (d:Int) (g:Bool) (b:LA) (e:Bool) (c:LA):A9 (Awo N F) (Awn d g b e c)=(LD N (I7 F) d g b e c):=by
 exact Eq.trans (by kernel_rfl) (Bp (UT N (I7 F) d g b e c ·) (funext fun i=>funext fun l=>funext fun o=>funext fun f=>funext fun m=>funext fun p=>(Aj ..).trans (eX N F d i l g b e c N o f m p)):_)
theorem xX (b:LA) (g:Bool) (d:Int) (c:LA) (e:Bool) (F:KF R):Ch (Ahp N) xU N 38 [(.pagg b g),(iv d),(.pagg c e)] [] F=(Zb N b g d c e (I7 F)):=by
 rw[qd]
 exact Eq.trans (by kernel_rfl) (Bp (gN N (I7 F) · b g d c e) ((At ..).trans (Ahr N F d g b e c)):_)
def qe (a:LA) (h:Am) (k:KF R):O R :=
 match a,h with
 | [(.pagg b g),(.int .i64 d),(.pagg c e)],[]=>(Zb N b g d c e (I7 k))
 | _,_=>none
theorem xY:Ap N 38 @qe:=by
 intro R Q a h k j;unfold qe;split;exact A0 (xX ..) (xX ..) ⟨IZ N,Afr N,Jf N,tX N,zP N,trivial⟩;exact A3
def Awp:=A1 (xY N)
def Awq:=Ce (xY N)
def tY (b:LA) (c:Bool) (r0:Int→Int→O R):O R :=
 (cond (Nat.ble 22 (b.length)) (Kl N (b.take 22) c (fun d=>(cond (!d) (r0 0 0) (An .i64 (b.drop 11) fun e=>(An .i64 (b.drop 15) fun f=>(An .i64 (b.drop 10) fun g=>(r0 (Gc (Gc e (wrap .i64 (f+1))) 1) (Gc g 1)))))))) none)
def GV:=(Ah (@tY R)).1
theorem qf:@GV R=@tY R:=(Ah _).2
def A1k:D9:=[(52,Pw N)]
def xZ (F:KF R):Int→Int→O R:=(fun i l=>F (.tup [(iv i),(iv l)]) [])
theorem x9 (b:LA) (c:Bool) (F:KF R):Ch (A1k N) Dj N 165 [(.pagg b c)] [] F=(GV N b c (xZ F)):=by
 rw[qf]
 kernel_rfl
def qg (a:LA) (h:Am) (k:KF R):O R :=
 match a,h with
 | [(.pagg b c)],[]=>(GV N b c (xZ k))
 | _,_=>none
theorem x_:Ap N 165 @qg:=by
 intro R Q a h k j;unfold qg;split;exact A0 (x9 ..) (x9 ..) ⟨Px N,trivial⟩;exact A3
def eY:=A1 (x_ N)
def eZ:=Ce (x_ N)
def UU (b:LA) (c:Bool) (r0:LA→O R):O R :=
 (cond (Nat.ble 22 (b.length)) (Kl N (b.take 22) c (fun e=>(cond (!e) (r0 [(.int .i64 0),(.int .i64 0)]) (cond (Nat.ble 22 (b.length)) (GV N (b.take 22) c (fun f g=>(An .i64 (b.drop 19) fun d=>(cond (d==0) (An .i64 (b.drop 20) fun i=>(r0 [(.int .i64 0),(.int .i64 (Bj i f))])) (cond (d==2) (An .i64 (b.drop 20) fun l=>(r0 [(.int .i64 2),(.int .i64 (Bj l g))])) (An .i64 (b.drop 20) fun m=>(r0 [(.int .i64 1),(.int .i64 m)]))))))) none)))) none)
def Ts:=(Ah (@UU R)).1
theorem YV:@Ts R=@UU R:=(Ah _).2
def Ak1:D9:=[(52,Pw N),(165,eY N)]
def e9 (F:KF R):LA→O R:=(fun n=>F (.pagg n false) [])
theorem e_ (b:LA) (c:Bool) (F:KF R):Ch (Ak1 N) N8 N 113 [(.pagg b c)] [] F=(Ts N b c (e9 F)):=by
 rw[YV]
 kernel_rfl
def YW (a:LA) (h:Am) (k:KF R):O R :=
 match a,h with
 | [(.pagg b c)],[]=>(Ts N b c (e9 k))
 | _,_=>none
theorem ee:Ap N 113 @YW:=by
 intro R Q a h k j;unfold YW;split;exact A0 (e_ ..) (e_ ..) ⟨Px N,eZ N,trivial⟩;exact A3
def ef:=A1 (ee N)
def eg:=Ce (ee N)
def Vb (N:Nat) (r0:Nat→LA→O R) (b:Int) (k2:Nat→Int→LA→O R) (f:Nat) (o:Int) (q:LA):O R :=
 (cond (decide (o≤b)) (cond ((Nat.ble (f+1) 140737488355328)&&(Nat.ble ((f+1)*16) 140737488355328)) (k2 (f+1) (wrap .i64 (o+1)) ((q.take (f*2))++[(.int .i64 2),(.int .i64 o)])) none) (r0 f q))
def Ng (r0:Nat→LA→O R) (b:Int):Nat→Nat→Int→LA→O R
 | 0,_,_,_=>none
 | n+1,f,o,q=>(Vb N r0 b (Ng r0 b n) f o q)
def Vc (N:Nat) (r0:Nat→LA→O R) (b:Int) (d:Bool) (c:LA) (k1:Nat→Int→LA→O R) (q2:Nat→Int→LA→O R) (g:Nat) (p:Int) (r:LA):O R :=
 (An .i64 (c.drop 12) fun s=>(cond (decide (p≤s)) (cond ((Nat.ble (g+1) 140737488355328)&&(Nat.ble ((g+1)*16) 140737488355328)) (k1 (g+1) (wrap .i64 (p+1)) ((r.take (g*2))++[(.int .i64 1),(.int .i64 p)])) none) (q2 g 1 r)))
def Nh (r0:Nat→LA→O R) (b:Int) (d:Bool) (c:LA):Nat→Nat→Int→LA→O R
 | 0,_,_,_=>none
 | n+1,g,p,r=>(Vc N r0 b d c (Nh r0 b d c n) (fun f o q=>(Ng N r0 b N f o q)) g p r)
def Vd (N:Nat) (r0:Nat→LA→O R) (l b:Int) (d:Bool) (c:LA) (k0:Nat→Int→LA→O R) (q1:Nat→Int→LA→O R) (e:Nat) (i:Int) (m:LA):O R :=
 (cond (decide (i≤l)) (cond ((Nat.ble (e+1) 140737488355328)&&(Nat.ble ((e+1)*16) 140737488355328)) (k0 (e+1) (wrap .i64 (i+1)) ((m.take (e*2))++[(.int .i64 0),(.int .i64 i)])) none) (q1 e 1 m))
def Jq (r0:Nat→LA→O R) (l b:Int) (d:Bool) (c:LA):Nat→Nat→Int→LA→O R
 | 0,_,_,_=>none
 | n+1,e,i,m=>(Vd N r0 l b d c (Jq r0 l b d c n) (fun g p r=>(Nh N r0 b d c N g p r)) e i m)
def LE (r0:Nat→LA→O R) (q0:Int→Int→Nat→Int→LA→O R) (c:LA) (d:Bool):O R :=
 (cond (Nat.ble 22 (c.length)) (GV N (c.take 22) d (fun l b=>(cond (Nat.ble 22 (c.length)) (Kl N (c.take 22) d (fun t=>(cond (!t) (r0 0 []) (q0 l b 0 1 [])))) none))) none)
def W3:=(Ah (fun (N:Nat) (c:LA) (d:Bool) (r0:Nat→LA→O R)=>(LE N r0 (fun l b e i m=>(Jq N r0 l b d c N e i m)) c d))).1
theorem eh (c d r0):(@W3 R N c d r0)=(LE N r0 (fun l b e i m=>(Jq N r0 l b d c N e i m)) c d):=by rw[W3,(Ah _).2]
def kW:Hints:={ H:=(hS hL (hS hL (hS hL (hS hL (hS (hS hL (hS (hP [1,3,4,5,6] hL) hL)) (hS (hS hL (hS (hP [1,3,5,7] hL) hL)) (hS (hS hL (hS (hP [3,5,8] hL) hL)) hL))))))),nils:=[(2,2),(3,2)],modes:=[(2,2)] }
def qk:D9:=[(165,eY N),(52,Pw N)]
def MK (F:KF R):=Jw Tryz.f199 kW (qk N) [] N F
def Fx (F:KF R):Nat→LA→O R:=(fun u v=>F (.own 300000 0 u) (hq [(bQ 2 v)]))
def Ak2 (b:Int) (f:Nat) (o:Int) (q:LA):St:=⟨[(3,(.own 300000 0 f)),(5,(iv b)),(8,(iv o))],(hq [(bQ 2 q)])⟩
def Ak3 (F:KF R):=MK N F [1,1,1,1,1,1,0,1,0] []
def Ak4 (b:Int) (d:Bool) (c:LA) (g:Nat) (p:Int) (r:LA):St:=⟨[(1,(op 0)),(3,(.own 300001 0 g)),(5,(iv b)),(7,(iv p))],(hq [(bP d 0 c),(bQ 2 r)])⟩
def Ak5 (F:KF R):=MK N F [1,1,1,1,1,0,1,0] []
def Ak6 (l b:Int) (d:Bool) (c:LA) (e:Nat) (i:Int) (m:LA):St:=⟨[(1,(op 0)),(3,(.own 300001 0 e)),(4,(iv l)),(5,(iv b)),(6,(iv i))],(hq [(bP d 0 c),(bQ 2 m)])⟩
def Ak7 (F:KF R):=MK N F [1,1,1,1,0,1,0] []
theorem QB (F:KF R) (b:Int):∀ (n f:Nat) (o:Int) (q:LA),Ao (Ak3 N F) n (Ak2 b f o q)=(Ng N (Fx F) b n f o q)
 | 0,_,_,_=>by kernel_rfl
 | n+1,f,o,q=>Eq.trans (by kernel_rfl) (Bp (Vb N (Fx F) b · f o q) (funext fun f=>funext fun o=>funext fun q=>(QB F b n f o q)):_)
theorem QC (F:KF R) (b:Int) (d:Bool) (c:LA):∀ (n g:Nat) (p:Int) (r:LA),Ao (Ak5 N F) n (Ak4 b d c g p r)=(Nh N (Fx F) b d c n g p r)
 | 0,_,_,_=>by kernel_rfl
 | n+1,g,p,r=>Eq.trans (by kernel_rfl) (VS (Vc N (Fx F) b d c · · g p r) (funext fun g=>funext fun p=>funext fun r=>(QC F b d c n g p r)) (funext fun f=>funext fun o=>funext fun q=>(Aj ..).trans (QB N F b N f o q)):_)
theorem QD (F:KF R) (l b:Int) (d:Bool) (c:LA):∀ (n e:Nat) (i:Int) (m:LA),Ao (Ak7 N F) n (Ak6 l b d c e i m)=(Jq N (Fx F) l b d c n e i m)
 | 0,_,_,_=>by kernel_rfl
 | n+1,e,i,m=>Eq.trans (by kernel_rfl) (VS (Vd N (Fx F) l b d c · · e i m) (funext fun e=>funext fun i=>funext fun m=>(QD F l b d c n e i m)) (funext fun g=>funext fun p=>funext fun r=>(Aj ..).trans (QC N F b d c N g p r)):_)
theorem kX (c:LA) (d:Bool) (F:KF R):Ch (qk N) kW N 199 [(.pagg c d)] [] F=(W3 N c d (Fx F)):=by
 rw[eh]
 exact Eq.trans (by kernel_rfl) (Bp (LE N (Fx F) · c d) (funext fun l=>funext fun b=>funext fun e=>funext fun i=>funext fun m=>(Aj ..).trans (QD N F l b d c N e i m)):_)
def ei (a:LA) (h:Am) (k:KF R):O R :=
 match a,h with
 | [(.pagg c d)],[]=>(W3 N c d (Fx k))
 | _,_=>none
theorem kY:Ap N 199 @ei:=by
 intro R Q a h k j;unfold ei;split;exact A0 (kX ..) (kX ..) ⟨eZ N,Px N,trivial⟩;exact A3
def Ak8:=A1 (kY N)
def Ak9:=Ce (kY N)
def Qa (N:Nat) (r0:Int→O R) (f:Nat) (c:Bool) (b e:LA) (k0:Int→O R) (d:Int):O R :=
 (cond (decide (d<((f:Nat):Int))) (cond (Ac d f) (cond (Nat.ble 2 ((e.drop (0+((d.toNat)*2))).length)) (cond (Nat.ble 2 (b.length)) (cond ((!c)||(Bb (b.take 2))) (cond ((Nat.ble 1 2)&&((Nat.beq (((e.drop (0+((d.toNat)*2))).take 2).length) 2)&&((Nat.beq ((b.take 2).length) 2)&&(true&&(!false))))) (An .i64 ((e.drop (0+((d.toNat)*2))).take 2) fun l=>(An .i64 (b.take 2) fun m=>(An .i64 (((e.drop (0+((d.toNat)*2))).take 2).drop 1) fun o=>(An .i64 ((b.take 2).drop 1) fun p=>(cond ((l==m)&&((o==p)&&true)) (r0 d) (k0 (wrap .i64 (d+1)))))))) none) none) none) none) none) (r0 (-1)))
def Gt (r0:Int→O R) (f:Nat) (c:Bool) (b e:LA):Nat→Int→O R
 | 0,_=>none
 | n+1,d=>(Qa N r0 f c b e (Gt r0 f c b e n) d)
def X6 (r0:Int→O R) (q0:Nat→LA→Int→O R) (g:LA) (i:Bool) (b:LA) (c:Bool):O R :=
 (cond (Nat.ble 22 (g.length)) (W3 N (g.take 22) i (fun f e=>(q0 f e 0))) none)
def Ve:=(Ah (fun (N:Nat) (g:LA) (i:Bool) (b:LA) (c:Bool) (r0:Int→O R)=>(X6 N r0 (fun f e d=>(Gt N r0 f c b e N d)) g i b c))).1
theorem QE (g i b c r0):(@Ve R N g i b c r0)=(X6 N r0 (fun f e d=>(Gt N r0 f c b e N d)) g i b c):=by rw[Ve,(Ah _).2]
def YX:Hints:={ H:=(hS hL (hS hL (hS (hS hL (hS (hP [3,5,6] hL) hL)) hL))) }
def ej:D9:=[(199,Ak8 N)]
def zQ (F:KF R):=Jw Tryz.f193 YX (ej N) [] N F
def Mz (F:KF R):Int→O R:=(fun q=>F (iv q) [])
def zR (f:Nat) (c:Bool) (b e:LA) (d:Int):St:=⟨[(3,(op 0)),(5,(.own 300001 0 f)),(6,(iv d))],(hq [(bP c 0 b),(bQ 2 e)])⟩
def zS (F:KF R):=zQ N F [1,1,0,1,0] []
theorem GW (F:KF R) (f:Nat) (c:Bool) (b e:LA):∀ (n:Nat) (d:Int),Ao (zS N F) n (zR f c b e d)=(Gt N (Mz F) f c b e n d)
 | 0,_=>by kernel_rfl
 | n+1,d=>Eq.trans (by kernel_rfl) (Bp (Qa N (Mz F) f c b e · d) (funext fun d=>(GW F f c b e n d)):_)
theorem YY (g:LA) (i:Bool) (b:LA) (c:Bool) (F:KF R):Ch (ej N) YX N 193 [(.pagg g i),(.pagg b c)] [] F=(Ve N g i b c (Mz F)):=by
 rw[QE]
 exact Eq.trans (by kernel_rfl) (Bp (X6 N (Mz F) · g i b c) (funext fun f=>funext fun e=>funext fun d=>(Aj ..).trans (GW N F f c b e N d)):_)
def QF (a:LA) (h:Am) (k:KF R):O R :=
 match a,h with
 | [(.pagg g i),(.pagg b c)],[]=>(Ve N g i b c (Mz k))
 | _,_=>none
theorem YZ:Ap N 193 @QF:=by
 intro R Q a h k j;unfold QF;split;exact A0 (YY ..) (YY ..) ⟨Ak9 N,trivial⟩;exact A3
def zT:=A1 (YZ N)
def zU:=Ce (YZ N)
def Asn (c:LA) (d:Bool) (b:LA) (e:Bool) (r0:Bool→O R):O R :=
 (cond (Nat.ble 22 (c.length)) (cond (Nat.ble 2 (b.length)) (cond ((!e)||(Bb (b.take 2))) (Ve N (c.take 22) d (b.take 2) false (fun f=>(r0 (decide (f≥0))))) none) none) none)
def Ahs:=(Ah (@Asn R)).1
theorem Aht:@Ahs R=@Asn R:=(Ah _).2
def A8s:D9:=[(193,zT N)]
def Aod (F:KF R):Bool→O R:=(fun g=>F (.bool g) [])
theorem Aoe (c:LA) (d:Bool) (b:LA) (e:Bool) (F:KF R):Ch (A8s N) Dj N 166 [(.pagg c d),(.pagg b e)] [] F=(Ahs N c d b e (Aod F)):=by
 rw[Aht]
 kernel_rfl
def Ahu (a:LA) (h:Am) (k:KF R):O R :=
 match a,h with
 | [(.pagg c d),(.pagg b e)],[]=>(Ahs N c d b e (Aod k))
 | _,_=>none
theorem Aof:Ap N 166 @Ahu:=by
 intro R Q a h k j;unfold Ahu;split;exact A0 (Aoe ..) (Aoe ..) ⟨zU N,trivial⟩;exact A3
def A6l:=A1 (Aof N)
def A6m:=Ce (Aof N)
def tZ (c:LA) (d:Bool) (b:LA) (e:Bool) (r0:Nat→LA→O R):O R :=
 (cond (Nat.ble 22 (c.length)) (cond (Nat.ble 2 (b.length)) (cond ((!e)||(Bb (b.take 2))) (Ahs N (c.take 22) d (b.take 2) false (fun n=>(cond (!n) (r0 0 []) (cond (Nat.ble 22 (c.length)) (GV N (c.take 22) d (fun f i=>(An .i64 b fun l=>(cond (l==0) (An .i64 (b.drop 1) fun g=>(An .i64 (b.drop 1) fun o=>(An .i64 (c.drop 11) fun p=>(cond (decide (o<p)) (r0 1 [(.int .i64 0),(.int .i64 (Bj (wrap .i64 (g+1)) f))]) (An .i64 (c.drop 12) fun q=>(cond (decide (q>0)) (r0 2 [(.int .i64 0),(.int .i64 (Bj (wrap .i64 (g+1)) f)),(.int .i64 1),(.int .i64 1)]) (r0 2 [(.int .i64 0),(.int .i64 (Bj (wrap .i64 (g+1)) f)),(.int .i64 2),(.int .i64 1)]))))))) (cond (l==1) (An .i64 (b.drop 1) fun r=>(An .i64 (c.drop 12) fun s=>(cond (decide (r<s)) (An .i64 (b.drop 1) fun t=>(r0 1 [(.int .i64 1),(.int .i64 (wrap .i64 (t+1)))])) (r0 1 [(.int .i64 2),(.int .i64 1)])))) (An .i64 (b.drop 1) fun m=>(An .i64 (b.drop 1) fun u=>(An .i64 (c.drop 10) fun v=>(cond (decide (u≥v)) (r0 2 [(.int .i64 0),(.int .i64 1),(.int .i64 2),(.int .i64 (Bj (wrap .i64 (m+1)) i))]) (r0 1 [(.int .i64 2),(.int .i64 (Bj (wrap .i64 (m+1)) i))])))))))))) none)))) none) none) none)
def QG:=(Ah (@tZ R)).1
theorem qn:@QG R=@tZ R:=(Ah _).2
def Awr:Hints:={ H:=hL,nils:=[(4,2)],modes:=[(2,2)] }
def A1l:D9:=[(166,A6l N),(165,eY N)]
def xa (F:KF R):Nat→LA→O R:=(fun w x=>F (.own 300000 0 w) (hq [(bQ 2 x)]))
theorem xb (c:LA) (d:Bool) (b:LA) (e:Bool) (F:KF R):Ch (A1l N) Awr N 114 [(.pagg c d),(.pagg b e)] [] F=(QG N c d b e (xa F)):=by
 rw[qn]
 kernel_rfl
def qo (a:LA) (h:Am) (k:KF R):O R :=
 match a,h with
 | [(.pagg c d),(.pagg b e)],[]=>(QG N c d b e (xa k))
 | _,_=>none
theorem xc:Ap N 114 @qo:=by
 intro R Q a h k j;unfold qo;split;exact A0 (xb ..) (xb ..) ⟨A6m N,eZ N,trivial⟩;exact A3
def xd:=A1 (xc N)
def xe:=Ce (xc N)
def UV (c:LA) (d:Bool) (e b:Int) (r0:Bool→O R):O R :=
 (cond ((b==0)==false) (cond ((b==1)==false) (cond ((cond false true (b==2))==true) (Co 1 (c.drop 18) fun f g=>(lU N f g false d e (fun i=>(r0 (cond false true (cond true (!i) false)))))) (r0 false)) (Co 1 (c.drop 18) fun l m=>(lU N l m false d e (fun n=>(r0 (cond false true (cond true (!n) false))))))) (r0 true))
def Tt:=(Ah (@UV R)).1
theorem Y_:@Tt R=@UV R:=(Ah _).2
def Ala:D9:=[(45,A4u N)]
def ek (F:KF R):Bool→O R:=(fun o=>F (.bool o) [])
theorem eo (c:LA) (d:Bool) (e b:Int) (F:KF R):Ch (Ala N) Dj N 115 [(.pagg c d),(iv e),(iv b)] [] F=(Tt N c d e b (ek F)):=by
 rw[Y_]
 kernel_rfl
def ZA (a:LA) (h:Am) (k:KF R):O R :=
 match a,h with
 | [(.pagg c d),(.int .i64 e),(.int .i64 b)],[]=>(Tt N c d e b (ek k))
 | _,_=>none
theorem ep:Ap N 115 @ZA:=by
 intro R Q a h k j;unfold ZA;split;exact A0 (eo ..) (eo ..) ⟨A4v N,trivial⟩;exact A3
def ex:=A1 (ep N)
def ey:=Ce (ep N)
def CU (r0:LA→Bool→O R) (f c:Int) (i:Nat) (d:Bool) (b g:LA) (k0:Int→O R) (e:Int):O R :=
 (cond (decide (e<((i:Nat):Int))) (cond (Ac e i) (An .i64 (g.drop (0+((e.toNat)*2))) fun o=>(cond ((o==c)==true) (cond (Nat.ble 22 (b.length)) (Tt N (b.take 22) d f c (fun p=>(cond (cond true p false) (cond (Ac e i) (cond (Nat.ble 2 ((g.drop (0+((e.toNat)*2))).length)) (cond ((Nat.beq (((g.drop (0+((e.toNat)*2))).take 2).length) 2)&&((Nat.ble 2 2)&&(!false))) (cond (Nat.ble 2 ((setCells [(.int .i64 0),(.int .i64 0)] 0 ((g.drop (0+((e.toNat)*2))).take 2)).length)) (r0 ((setCells [(.int .i64 0),(.int .i64 0)] 0 ((g.drop (0+((e.toNat)*2))).take 2)).take 2) true) none) none) none) none) (k0 (wrap .i64 (e+1)))))) none) (k0 (wrap .i64 (e+1))))) none) (r0 [(.int .i64 0),(.int .i64 0)] false))
def O6 (r0:LA→Bool→O R) (f c:Int) (i:Nat) (d:Bool) (b g:LA):Nat→Int→O R
 | 0,_=>none
 | n+1,e=>(CU N r0 f c i d b g (O6 r0 f c i d b g n) e)
def gO (r0:LA→Bool→O R) (q0:Nat→LA→Int→O R) (b:LA) (d:Bool) (f:Int) (l:LA) (m:Bool) (c:Int):O R :=
 (cond (Nat.ble 22 (b.length)) (cond (Nat.ble 2 (l.length)) (cond ((!m)||(Bb (l.take 2))) (QG N (b.take 22) d (l.take 2) false (fun i g=>(q0 i g 0))) none) none) none)
def QH:=(Ah (fun (N:Nat) (b:LA) (d:Bool) (f:Int) (l:LA) (m:Bool) (c:Int) (r0:LA→Bool→O R)=>(gO N r0 (fun i g e=>(O6 N r0 f c i d b g N e)) b d f l m c))).1
theorem qp (b d f l m c r0):(@QH R N b d f l m c r0)=(gO N r0 (fun i g e=>(O6 N r0 f c i d b g N e)) b d f l m c):=by rw[QH,(Ah _).2]
def xg:Hints:={ H:=(hS hL (hS hL (hS (hS hL (hS (hP [1,3,4,8,10,11] hL) hL)) hL))),modes:=[(3,0),(0,0)] }
def Ahv:D9:=[(114,xd N),(115,ex N)]
def Aws (F:KF R):=Jw Tryz.f121 xg (Ahv N) [] N F
def Zc (F:KF R):LA→Bool→O R:=(fun q r=>F (.tup [(.pagg q false),(.bool r)]) [])
def Awt (f c:Int) (i:Nat) (d:Bool) (b g:LA) (e:Int):St:=⟨[(1,(iv f)),(3,(iv c)),(4,(op 0)),(8,(op 1)),(10,(.own 300002 0 i)),(11,(iv e))],(hq [(bP d 0 b),(bQ 0 [(iv 0),(iv 0)]),(bQ 2 g)])⟩
def Awu (F:KF R):=Aws N F [1,1,0,1,0] []
theorem ez (F:KF R) (f c:Int) (i:Nat) (d:Bool) (b g:LA):∀ (n:Nat) (e:Int),Ao (Awu N F) n (Awt f c i d b g e)=(O6 N (Zc F) f c i d b g n e)
 | 0,_=>by kernel_rfl
 | n+1,e=>Eq.trans (by kernel_rfl) (Bp (CU N (Zc F) f c i d b g · e) (funext fun e=>(ez F f c i d b g n e)):_)
theorem xi (b:LA) (d:Bool) (f:Int) (l:LA) (m:Bool) (c:Int) (F:KF R):Ch (Ahv N) xg N 121 [(.pagg b d),(iv f),(.pagg l m),(iv c)] [] F=(QH N b d f l m c (Zc F)):=by
 rw[qp]
 exact Eq.trans (by kernel_rfl) (Bp (gO N (Zc F) · b d f l m c) (funext fun i=>funext fun g=>funext fun e=>(Aj ..).trans (ez N F f c i d b g N e)):_)
def qq (a:LA) (h:Am) (k:KF R):O R :=
 match a,h with
 | [(.pagg b d),(.int .i64 f),(.pagg l m),(.int .i64 c)],[]=>(QH N b d f l m c (Zc k))
 | _,_=>none
theorem xj:Ap N 121 @qq:=by
 intro R Q a h k j;unfold qq;split;exact A0 (xi ..) (xi ..) ⟨xe N,ey N,trivial⟩;exact A3
def Awv:=A1 (xj N)
def Aww:=Ce (xj N)
end
end Gx

namespace Gx
open Go Go.Proofs
section
variable {R:Type}
structure StD where
 k:Int
 h:Int
def StD.av (s:StD):LA:=[.int .i64 s.k,.int .i64 s.h]
def Jr (u:UnitD):Int:=Gc (Gc u.downTime (u.hotHours+1)) 1
def GX (u:UnitD):Int:=Gc u.upTime 1
def Jv (u:UnitD) (s:StD):List StD :=
 cond (s.k==0) (⟨0,Bj (s.h+1) (Jr u)⟩::cond (decide (s.h<u.downTime)) [] (cond (decide (u.startTime>0)) [⟨1,1⟩] [⟨2,1⟩]))
  (cond (s.k==1) (cond (decide (s.h<u.startTime)) [⟨1,s.h+1⟩] [⟨2,1⟩]) (cond (decide (s.h≥u.upTime)) [⟨0,1⟩,⟨2,Bj (s.h+1) (GX u)⟩] [⟨2,Bj (s.h+1) (GX u)⟩]))
def Z3 (u:UnitD) (s:StD):Prop:=1≤s.h∧((s.k=0∧s.h≤Jr u)∨(s.k=1∧s.h≤u.startTime)∨(s.k=2∧s.h≤GX u))
theorem Ey (a b:Int):Bj a b=min a b:=by unfold Bj;by_cases h:b<a<;>simp[h]<;>omega
theorem H6 (a b:Int):Gc a b=max a b:=by unfold Gc;by_cases h:b>a<;>simp[h]<;>omega
theorem Qb {u:UnitD} (h:C2 u=true):(0≤u.upTime∧u.upTime≤24)∧(0≤u.downTime∧u.downTime≤24)∧(0≤u.startTime∧u.startTime≤24)∧(0≤u.hotHours∧u.hotHours≤24)∧(u.state=0∨u.state=1∨u.state=2)∧(1≤u.hours∧u.hours≤48)∧(u.state=1→u.hours≤u.startTime):=by
 simp[C2,Fc] at h;omega
theorem UW {u:UnitD} (h:C2 u=true):1≤Jr u∧Jr u≤25∧1≤GX u∧GX u≤24:=by
 have:=Qb h
 simp only[Jr,GX,H6];omega
theorem t4 {u:UnitD} {s:StD} (h:C2 u=true) (hs:Z3 u s):1≤s.h∧s.h≤25∧(s.k=0∨s.k=1∨s.k=2):=by
 have:=Qb h;have:=UW h;unfold Z3 at hs;omega
theorem Ahw {u:UnitD} {s:StD} (h:C2 u=true) (hs:Z3 u s):∀ t ∈ Jv u s,Z3 u t:=by
 intro t k
 have I:=Qb h;have L:=UW h;have F:=t4 h hs
 have G:GX u=max u.upTime 1:=by rw[GX,H6]
 unfold Z3 at hs ⊢
 unfold Jv at k
 rcases F.2.2 with D | D | D<;>simp only[D,Ey] at k hs
 ·by_cases C:s.h<u.downTime<;>by_cases hq:u.startTime>0<;>simp[C,hq] at k<;>first | (subst k;simp;omega) | (rcases k with rfl | rfl<;>simp<;>omega)
 ·by_cases C:s.h<u.startTime<;>simp[C] at k<;>(subst k;simp;omega)
 ·by_cases C:u.upTime≤s.h<;>simp[C] at k<;>first | (subst k;simp;omega) | (rcases k with rfl | rfl<;>simp<;>omega)
theorem t5 {u:UnitD} {s:StD}:(Jv u s).length≤2:=by
 unfold Jv
 cases (s.k==0)<;>cases (s.k==1)<;>cases decide (s.h<u.downTime)<;>cases decide (u.startTime>0)<;>cases decide (s.h<u.startTime)<;>cases decide (s.h≥u.upTime)<;>simp
theorem Ahx {s:StD} {f:Int→O R}:An .i64 s.av f=f s.k:=Ay
theorem mS {s:StD} {f:Int→O R}:An .i64 (List.drop 1 s.av) f=f s.h:=Ay
theorem uU (s:StD):Nat.ble 2 (List.length s.av)=true:=rfl
theorem A1m (s:StD):List.take 2 s.av=s.av:=rfl
theorem A8t (s t:StD):setCells s.av 0 t.av=t.av:=rfl
theorem Bbq (t:StD):setCells [(.int .i64 0),(.int .i64 0)] 0 t.av=t.av:=rfl
theorem UX {N:Nat} {u:UnitD} {o:Bool} {K:Int→Int→O R} (hN:64≤N) (hs:C2 u=true):JU N u.av o K=K (Jr u) (GX u):=by
 rw[dB];unfold pQ
 have k:=Qb hs
 rw[Dr,ct,B8,Nc hN,hs,show(!true)=false from rfl,cf,Bca,Bd8,Bdd,i64 (by omega)];rfl
theorem ML {N:Nat} {u:UnitD} {o:Bool} {K:Int→Int→O R} (hs:C2 u=true):GV N u.av o K=K (Jr u) (GX u):=by
 rw[qf];unfold tY
 have k:=Qb hs
 rw[Dr,ct,B8,Km,hs,show(!true)=false from rfl,cf,Bca,Bd8,Bdd,i64 (by omega)];rfl
def Ez (u:UnitD):StD:=⟨u.state,cond (u.state==0) (Bj u.hours (Jr u)) (cond (u.state==2) (Bj u.hours (GX u)) u.hours)⟩
theorem gP {u:UnitD} (h:C2 u=true):Z3 u (Ez u):=by
 have C:=Qb h;have D:=UW h
 unfold Z3 Ez
 rcases C.2.2.2.2.1 with k | k | k<;>simp only[k,Ey]<;>simp<;>omega
theorem zV {N:Nat} {u:UnitD} {o:Bool} {K:LA→O R} (hN:64≤N) (hs:C2 u=true):Wv N u.av o K=K (Ez u).av:=by
 rw[FW];unfold JV
 rw[Dr,ct,B8,Nc hN,hs,show(!true)=false from rfl,cf,ct,UX hN hs,A2s,Bea]
 unfold Ez
 cases (u.state==0)<;>cases (u.state==2)<;>rfl
theorem QI {N:Nat} {u:UnitD} {o:Bool} {K:LA→O R} (hs:C2 u=true):Ts N u.av o K=K (Ez u).av:=by
 rw[YV];unfold UU
 rw[Dr,ct,B8,Km,hs,show(!true)=false from rfl,cf,ct,ML hs,A2s]
 have C:=Qb hs
 simp only[Bea]
 unfold Ez
 rcases C.2.2.2.2.1 with k | k | k<;>rw[k]<;>rfl
theorem t6 {N:Nat} {u:UnitD} {s:StD} {o o':Bool} (hN:64≤N) (hs:C2 u=true) (C:Z3 u s):∃ p:Int,0≤p∧∀ K:Int→O R,K5 N u.av o s.av o' K=K p:=by
 have I:=Qb hs;have L:=UW hs;have F:=t4 hs C
 have key:∀ K:Int→O R,K5 N u.av o s.av o' K=K (cond (s.k==0) (s.h - 1) (cond (s.k==1) (Jr u+s.h - 1) (Jr u+u.startTime+s.h - 1))):=by
  intro K
  rw[Zy];unfold Up
  rw[Dr,ct,B8,Nc hN,hs,show((!true)==false)=true from rfl,ct,mS,show decide (s.h<1)=false by simp;omega,Bd7,cf]
  unfold Oh Rw
  rw[Dr,ct,B8,UX hN hs,Ahx]
  unfold FY Zx FX
  simp only[Ahx,mS,Bbe]
  unfold Z3 at C
  have e1:IntKind.wrap .i64 (s.h - 1)=s.h - 1:=i64 (by omega)
  have G:IntKind.wrap .i64 (IntKind.wrap .i64 (Jr u+s.h) - 1)=Jr u+s.h - 1:=by rw[i64 (a:=Jr u+s.h) (by omega),i64 (by omega)]
  have e3:IntKind.wrap .i64 (IntKind.wrap .i64 (IntKind.wrap .i64 (Jr u+u.startTime)+s.h) - 1)=Jr u+u.startTime+s.h - 1:=by rw[i64 (a:=Jr u+u.startTime) (by omega),i64 (a:=Jr u+u.startTime+s.h) (by omega),i64 (by omega)]
  rw[e1,G,e3]
  rcases F.2.2 with D | D | D<;>rw[D] at C ⊢
  ·rw[show decide (s.h≤Jr u)=true by simp;omega];rfl
  ·rw[show decide (s.h≤u.startTime)=true by simp;omega];rfl
  ·rw[show decide (s.h≤GX u)=true by simp;omega];rfl
 refine⟨_,?_,key⟩
 cases (s.k==0)<;>cases (s.k==1)<;>simp<;>omega
theorem Aso {N:Nat} {u:UnitD} {s:StD} {o:Bool} {K:LA→Nat→O R} (hN:64≤N) (hs:C2 u=true) (C:Z3 u s):Xi N u.av o s.av false K=K ((Jv u s).flatMap StD.av) (Jv u s).length:=by
 have I:=Qb hs;have L:=UW hs;have G:=t4 hs C
 obtain⟨p,M,e⟩:=t6 (R:=R) (o:=o) (o':=false) hN hs C
 rw[dH];unfold dG
 rw[Dr,ct,uU,ct,show((!false)||Bb (List.take 2 s.av))=true from rfl,ct,B8,A1m,e,show decide (p<0)=false by simp;omega,cf,ct,UX hN hs]
 simp only[Ahx,mS,Bdd,Bca,Bbe]
 unfold TN
 simp only[mS,Bca]
 rw[i64 (a:=s.h+1) (by omega)]
 unfold Jv
 rcases G.2.2 with D | D | D<;>rw[D]
 ·by_cases k:s.h<u.downTime
  ·simp[k,show ¬ u.downTime≤s.h by omega,StD.av]
  ·by_cases F:u.startTime>0
   ·simp[k,show u.downTime≤s.h by omega,F,StD.av]
   ·simp[k,show u.downTime≤s.h by omega,F,StD.av]
 ·by_cases k:s.h<u.startTime<;>simp[k,StD.av]
 ·by_cases k:s.h≥u.upTime<;>simp[k,StD.av]
end
end Gx

namespace Gx
open Go Go.Proofs
section
variable {R:Type}
theorem Bam (s:List StD):(s.flatMap StD.av).length=s.length*2:=by
 induction s with
 | nil=>rfl
 | cons a r k=>rw[List.flatMap_cons,List.length_append,k];simp[StD.av];omega
theorem Ban (s:List StD):List.take (s.length*2) (s.flatMap StD.av)=s.flatMap StD.av:=by rw[←Bam,List.take_length]
theorem QJ (s:List StD) (t:StD):List.take (s.length*2) (s.flatMap StD.av)++t.av=(s++[t]).flatMap StD.av:=by rw[Ban];simp
theorem A8u {l:List StD} {j:Nat} (h:j<l.length):List.drop ((Int.toNat (j:Int))*2) (l.flatMap StD.av)=l[j].av++(l.drop (j+1)).flatMap StD.av:=by
 rw[Int.toNat_natCast,Bh (e:=StD.av) (sz:=2) (fun _=>rfl) _ _ h]
theorem Ahy {l:List StD} {j:Nat} (h:j<l.length):List.drop (0+((Int.toNat (j:Int))*2)) (l.flatMap StD.av)=l[j].av++(l.drop (j+1)).flatMap StD.av:=by rw[Nat.zero_add,A8u h]
theorem mT (s:StD) (r:LA):Nat.ble 2 (List.length (s.av++r))=true:=rfl
theorem mU (s:StD) (r:LA):List.take 2 (s.av++r)=s.av:=rfl
theorem A8v {s:StD} {r:LA} {f:Int→O R}:An .i64 (s.av++r) f=f s.k:=Ay
theorem Aog (c:Bool) (s:StD):((!c)||Bb s.av)=true:=by cases c<;>rfl
theorem A8w (s t:StD):((Nat.ble 1 2)&&((Nat.beq (List.length s.av) 2)&&((Nat.beq (List.length t.av) 2)&&(true&&(!false)))))=true:=rfl
theorem Bbr (s t:StD):((s.k==t.k)&&((s.h==t.h)&&true))=true↔s=t:=by
 cases s;cases t;simp
def Zd (k:Int):Int→Nat→List StD
 | _,0=>[]
 | i,m+1=>⟨k,i+1⟩::Zd k (i+1) m
theorem zq {k h:Int}:∀ {m:Nat} {i:Int},i+1≤h→h≤i+m→(⟨k,h⟩:StD) ∈ Zd k i m
 | 0,i,C,D=>by omega
 | m+1,i,C,D=>by
  rw[Zd]
  by_cases e:h=i+1
  ·subst e;exact List.mem_cons_self ..
  ·exact List.mem_cons_of_mem _ (zq (by omega) (by omega))
theorem A27 {k:Int}:∀ {m:Nat} {i:Int},(Zd k i m).length=m
 | 0,_=>rfl
 | m+1,_=>by rw[Zd,List.length_cons,A27]
theorem Aoh {N:Nat} {K:Nat→LA→O R} {a:Int} (k:a≤1000):∀ (m fuel:Nat) (i:Int) (l:List StD),i+m=a→0≤i→m<fuel→l.length+m≤10000 →
  Ng N K a fuel l.length (i+1) (l.flatMap StD.av)=K (l++Zd 2 i m).length ((l++Zd 2 i m).flatMap StD.av)
 | 0,fuel+1,i,l,hi,C,_,D=>by
  rw[Ng];unfold Vb
  rw[show decide (i+1≤a)=false by simp;omega,cf,Zd,List.append_nil]
 | m+1,fuel+1,i,l,hi,C,F,D=>by
  rw[Ng];unfold Vb
  rw[show decide (i+1≤a)=true by simp;omega,ct,A5y (by omega),ct,i64 (by omega),show [(AV.int .i64 2),(.int .i64 (i+1))]=(StD.mk 2 (i+1)).av from rfl,QJ]
  have:=Aoh (N:=N) (K:=K) k m fuel (i+1) (l++[⟨2,i+1⟩]) (by omega) (by omega) (by omega) (by simp;omega)
  rw[List.length_append] at this
  simp only[List.length_cons,List.length_nil,Nat.zero_add] at this
  rw[this,Zd,List.append_assoc];rfl
theorem Aoi {N:Nat} {K:Nat→LA→O R} {u:UnitD} {c:Bool} {a:Int} {m2:Nat} (C:a=m2) (D:m2≤1000) (hN:1100≤N) (k:u.startTime≤1000):∀ (m fuel:Nat) (i:Int) (l:List StD),i+m=u.startTime→0≤i→m<fuel→l.length+m≤8000 →
  Nh N K a c u.av fuel l.length (i+1) (l.flatMap StD.av)=K (l++Zd 1 i m++Zd 2 0 m2).length ((l++Zd 1 i m++Zd 2 0 m2).flatMap StD.av)
 | 0,fuel+1,i,l,hi,F,_,G=>by
  rw[Nh];unfold Vc
  rw[Bbe,show decide (i+1≤u.startTime)=false by simp;omega,cf,Zd,List.append_nil]
  exact Aoh (by omega) m2 N 0 l (by omega) (by omega) (by omega) (by omega)
 | m+1,fuel+1,i,l,hi,F,I,G=>by
  rw[Nh];unfold Vc
  rw[Bbe,show decide (i+1≤u.startTime)=true by simp;omega,ct,A5y (by omega),ct,i64 (by omega),show [(AV.int .i64 1),(.int .i64 (i+1))]=(StD.mk 1 (i+1)).av from rfl,QJ]
  have:=Aoi (N:=N) (K:=K) (c:=c) C D hN k m fuel (i+1) (l++[⟨1,i+1⟩]) (by omega) (by omega) (by omega) (by simp;omega)
  rw[List.length_append] at this
  simp only[List.length_cons,List.length_nil,Nat.zero_add] at this
  rw[this,Zd];simp only[List.append_assoc,List.cons_append,List.nil_append]
theorem Aoj {N:Nat} {K:Nat→LA→O R} {u:UnitD} {c:Bool} {a p:Int} {m1 m2:Nat} (C:a=m2) (D:m2≤1000) (F:u.startTime=m1) (k:m1≤1000) (hN:1100≤N) (G:p≤1000):∀ (m fuel:Nat) (i:Int) (l:List StD),i+m=p→0≤i→m<fuel→l.length+m≤6000 →
  Jq N K p a c u.av fuel l.length (i+1) (l.flatMap StD.av)=K (l++Zd 0 i m++Zd 1 0 m1++Zd 2 0 m2).length ((l++Zd 0 i m++Zd 1 0 m1++Zd 2 0 m2).flatMap StD.av)
 | 0,fuel+1,i,l,hi,I,_,L=>by
  rw[Jq];unfold Vd
  rw[show decide (i+1≤p)=false by simp;omega,cf,Zd,List.append_nil]
  exact Aoi C D hN (by omega) m1 N 0 l (by omega) (by omega) (by omega) (by omega)
 | m+1,fuel+1,i,l,hi,I,M,L=>by
  rw[Jq];unfold Vd
  rw[show decide (i+1≤p)=true by simp;omega,ct,A5y (by omega),ct,i64 (by omega),show [(AV.int .i64 0),(.int .i64 (i+1))]=(StD.mk 0 (i+1)).av from rfl,QJ]
  have:=Aoj (N:=N) (K:=K) (c:=c) C D F k hN G m fuel (i+1) (l++[⟨0,i+1⟩]) (by omega) (by omega) (by omega) (by simp;omega)
  rw[List.length_append] at this
  simp only[List.length_cons,List.length_nil,Nat.zero_add] at this
  rw[this,Zd];simp only[List.append_assoc,List.cons_append,List.nil_append]
def Asp (u:UnitD):List StD:=Zd 0 0 (Jr u).toNat++Zd 1 0 u.startTime.toNat++Zd 2 0 (GX u).toNat
theorem zW {N:Nat} {u:UnitD} {o:Bool} {K:Nat→LA→O R} (hN:1100≤N) (hs:C2 u=true):W3 N u.av o K=K (Asp u).length ((Asp u).flatMap StD.av):=by
 have k:=Qb hs;have C:=UW hs
 rw[eh];unfold LE
 rw[Dr,ct,B8,ML hs,ct,Km,hs,show(!true)=false from rfl,cf]
 have:=Aoj (N:=N) (K:=K) (u:=u) (c:=o) (a:=GX u) (p:=Jr u) (m1:=u.startTime.toNat) (m2:=(GX u).toNat) (by omega) (by omega) (by omega) (by omega) hN (by omega) (Jr u).toNat N 0 [] (by omega) (by omega) (by omega) (by simp;omega)
 simpa[Asp] using this
theorem A8x {u:UnitD} {s:StD} (hs:C2 u=true) (h:Z3 u s):s ∈ Asp u:=by
 have D:=Qb hs;have F:=UW hs
 obtain⟨k,h'⟩:=s
 unfold Z3 at h;simp only at h
 unfold Asp
 rcases h with⟨G,⟨rfl,C⟩ | ⟨rfl,C⟩ | ⟨rfl,C⟩⟩
 ·exact List.mem_append_left _ (List.mem_append_left _ (zq (by omega) (by omega)))
 ·exact List.mem_append_left _ (List.mem_append_right _ (zq (by omega) (by omega)))
 ·exact List.mem_append_right _ (zq (by omega) (by omega))
theorem Awx {N:Nat} {L:List StD} {s:StD} {c:Bool} (hL:L.length≤10000):∀ (m j fuel:Nat),j+m=L.length→m<fuel→s ∈ L.drop j→∃ p:Int,0≤p∧∀ K:Int→O R,Gt N K L.length c s.av (L.flatMap StD.av) fuel (j:Int)=K p
 | 0,j,fuel+1,F,_,C=>by rw[E9 (by omega)] at C;simp at C
 | m+1,j,fuel+1,F,S,C=>by
  have h:j<L.length:=by omega
  by_cases e:L[j]=s
  ·refine⟨j,by omega,fun K=>?_⟩
   rw[Gt];unfold Qa
   simp only[Jh h,ct,Aa h,Ahy h,mT,mU,uU,A1m,Aog,A8w,Ahx,mS]
   rw[(Bbr _ _).2 e,ct]
  ·rw[C5 h] at C
   have D:s ∈ L.drop (j+1):=by
    rcases List.mem_cons.1 C with rfl | C
    ·exact absurd rfl e
    ·exact C
   obtain⟨p,G,I⟩:=Awx hL m (j+1) fuel (by omega) (by omega) D
   refine⟨p,G,fun K=>?_⟩
   rw[Gt];unfold Qa
   simp only[Jh h,ct,Aa h,Ahy h,mT,mU,uU,A1m,Aog,A8w,Ahx,mS]
   have:((L[j].k==s.k)&&((L[j].h==s.h)&&true))=false:=by
    cases M:((L[j].k==s.k)&&((L[j].h==s.h)&&true)) with
    | false=>rfl
    | true=>exact absurd ((Bbr _ _).1 M) e
   rw[this,cf,wS (by omega),I]
theorem Awy {N:Nat} {u:UnitD} {s:StD} {o d:Bool} {K:Bool→O R} (hN:1100≤N) (hs:C2 u=true) (k:Z3 u s):Ahs N u.av o s.av d K=K true:=by
 have C:=Qb hs;have D:=UW hs
 rw[Aht];unfold Asn
 rw[Dr,ct,uU,ct,A1m,Aog,ct,B8,QE];unfold X6
 rw[Dr,ct,B8,zW hN hs]
 have F:(Asp u).length≤100:=by unfold Asp;simp[A27];omega
 obtain⟨p,G,e⟩:=Awx (R:=R) (N:=N) (L:=Asp u) (s:=s) (c:=false) (by omega) (Asp u).length 0 N (by omega) (by omega) (by rw[List.drop_zero];exact A8x hs k)
 have e':=e fun f=>K (decide (f≥0))
 rw[show((0:Nat):Int)=0 from rfl] at e'
 dsimp only
 rw[e',show decide (p≥0)=true by simp;omega]
theorem kZ {N:Nat} {u:UnitD} {s:StD} {o d:Bool} {K:Nat→LA→O R} (hN:1100≤N) (hs:C2 u=true) (C:Z3 u s):QG N u.av o s.av d K=K (Jv u s).length ((Jv u s).flatMap StD.av):=by
 have I:=Qb hs;have L:=UW hs;have G:=t4 hs C
 rw[qn];unfold tZ
 rw[Dr,ct,uU,ct,A1m,Aog,ct,B8,Awy hN hs C,show(!true)=false from rfl,cf,ct,ML hs]
 simp only[Ahx,mS,Bdd,Bca,Bbe]
 rw[i64 (a:=s.h+1) (by omega)]
 unfold Jv
 rcases G.2.2 with D | D | D<;>rw[D]
 ·by_cases k:s.h<u.downTime
  ·simp[k,StD.av]
  ·by_cases F:u.startTime>0
   ·simp[k,F,StD.av]
   ·simp[k,F,StD.av]
 ·by_cases k:s.h<u.startTime<;>simp[k,StD.av]
 ·by_cases k:s.h≥u.upTime<;>simp[k,StD.av]
end
end Gx

namespace Gx
open Go Go.Proofs
section
variable {R:Type}
def mV (u:UnitD) (h kind:Int):Bool:=kind==0||!(decide (h ∈ u.away.l))
def ZB (l:List StD) (v:Int):Option StD:=l.find? fun s=>s.k==v
def GY (u:UnitD) (h:Int) (s:StD) (kind:Int):Option StD:=cond (mV u h kind) (ZB (Jv u s) kind) none
def Fr (u:UnitD):Int→StD→List Int→List StD×Bool
 | _,_,[]=>([],true)
 | h,s,k::r=>match GY u h s k with
  | none=>([],false)
  | some t=>(t::(Fr u (h+1) t r).1,(Fr u (h+1) t r).2)
theorem A6n {l:List StD} {v:Int} {t:StD} (h:ZB l v=some t):t ∈ l∧t.k=v:=by
 unfold ZB at h
 exact⟨List.mem_of_find?_eq_some h,by simpa using List.find?_some h⟩
theorem Awz {u:UnitD} {h kind:Int} {s t:StD} (k:mV u h kind=true) (C:ZB (Jv u s) kind=some t):GY u h s kind=some t:=by unfold GY;rw[k,C];rfl
theorem Ahz {u:UnitD} {h kind:Int} {s t:StD} (hs:C2 u=true) (C:Z3 u s) (e:GY u h s kind=some t):Z3 u t∧t.k=kind∧t ∈ Jv u s∧mV u h kind=true:=by
 unfold GY at e
 cases D:mV u h kind with
 | false=>rw[D] at e;cases e
 | true =>
  rw[D] at e
  have:=A6n (l:=Jv u s) e
  exact⟨Ahw hs C t this.1,this.2,this.1,rfl⟩
theorem Bao {N:Nat} {s:StD} {v:Int} {o:Bool} {K:Bool→O R}:Lp N s.av o v K=K (s.k==v):=by
 rw[F_];rfl
theorem Aw0 {N:Nat} {X:O R} {K:Int→O R} {L:List StD} {a b:Bool} {v:Int} (hL:L.length≤1000):∀ (m j fuel:Nat),j+m=L.length→m<fuel→(ZB (L.drop j) v=none→K (-1)=X)→(∀ i (h:i<L.length),ZB (L.drop j) v=some L[i]→K (i:Int)=X) →
  Ax N K (L.flatMap StD.av) L.length a b v fuel (L.length:Int) (j:Int)=X
 | 0,j,fuel+1,G,_,C,_=>by
  rw[Ax];unfold Bd
  rw[Ku (by omega),cf]
  exact C (by rw[E9 (by omega)];rfl)
 | m+1,j,fuel+1,G,I,C,D=>by
  rw[Ax];unfold Bd
  have h:j<L.length:=by omega
  rw[Jh h,ct,Aa h,ct,A8u h,mT,ct,mU,Aog,ct,Bao]
  rw[C5 h] at C D
  unfold ZB at C D
  simp only[List.find?_cons] at C D
  cases F:(L[j].k==v) with
  | true=>rw[F] at D;rw[ct];exact D j h rfl
  | false =>
   rw[F] at C D
   rw[cf,wS (by omega)]
   exact Aw0 hL m (j+1) fuel (by omega) (by omega) C D
theorem Bct {N:Nat} {X:O R} {K:Int→O R} {L:List StD} {a b:Bool} {v:Int} (hL:L.length≤10) (hN:64≤N) (k:ZB L v=none→K (-1)=X) (C:∀ i (h:i<L.length),ZB L v=some L[i]→K (i:Int)=X) :
  Aq N (L.flatMap StD.av) L.length a b v K=X:=by
 rw[Be];unfold Bg
 exact Aw0 (by omega) L.length 0 N (by omega) (by omega) k C
theorem t7 {N:Nat} {X:O R} {K:LA→O R} {l:List Int} {a:Bool} (D:l.length≤1000000):∀ (m j fuel:Nat) (d:List Int),j+m=l.length→m<fuel→(∀ e:List Int,(∀ x,x ∈ e↔x ∈ d∨x ∈ l.drop j)→K (Av e)=X) →
  Sn N K (Av l) l.length a fuel (l.length:Int) (j:Int) (Av d)=X
 | 0,j,fuel+1,d,F,_,k=>by
  rw[Sn];unfold JT
  rw[Ku (by omega),cf]
  exact k d (by intro x;rw[E9 (by omega)];simp)
 | m+1,j,fuel+1,d,F,L,k=>by
  rw[Sn];unfold JT
  have h:j<l.length:=by omega
  rw[Jh h,ct,Aa h,ct,Cj h,wS (by omega)]
  rw[C5 h] at k
  unfold Ax7
  cases G:mm (Av d) l[j] with
  | true =>
   have I:l[j] ∈ d:=(MZ d _).1 G
   refine t7 D m (j+1) fuel d (by omega) (by omega) fun e C=>k e fun x=>?_
   rw[C x,List.mem_cons]
   constructor
   ·rintro(h | h)
    ·exact .inl h
    ·exact .inr (.inr h)
   ·rintro(h | h | h)
    ·exact .inl h
    ·exact .inl (h▸I)
    ·exact .inr h
  | false =>
   rw[show cond false (Av d) (Av d++[.int .i64 l[j]])=Av (d++[l[j]]) by simp[Av]]
   refine t7 D m (j+1) fuel (d++[l[j]]) (by omega) (by omega) fun e C=>k e fun x=>?_
   rw[C x,List.mem_cons,List.mem_append,List.mem_singleton,or_assoc]
theorem Bap {N:Nat} {X:O R} {K:LA→O R} {u:UnitD} {a:Bool} (C:u.away.l.length≤1000) (hN:1100≤N) (h:∀ e:List Int,(∀ x,x ∈ e↔x ∈ u.away.l)→K (Av e)=X):TM N u.av a K=X:=by
 rw[dA];unfold pP
 rw[Bbf]
 exact t7 (by omega) u.away.l.length 0 N [] (by omega) (by omega) fun e k=>h e fun x=>by rw[k x];simp
theorem Bcu (e:List Int) (n:Int):mm (Av e) n=decide (n ∈ e):=by
 rw[Bool.eq_iff_iff,decide_eq_true_eq];exact MZ e n
theorem Bbs (s t:StD):((Nat.beq (List.length s.av) 2)&&((Nat.ble 2 (List.length t.av))&&(!false)))=true:=rfl
theorem Bbt (s:StD):((Nat.beq (List.length s.av) 2)&&(Nat.ble 2 2))=true:=rfl
theorem A28 (s:StD):((Nat.beq (List.length s.av) 2)&&((Nat.ble 2 2)&&(!false)))=true:=rfl
theorem Asq {N:Nat} {X:O R} {K:Nat→Int→Int→LA→O R} {u:UnitD} {ks:List Int} {i j o:Bool} {e:List Int} (hN:1100≤N) (hs:C2 u=true) (hk:ks.length≤1000) (he:∀ x,x ∈ e↔x ∈ u.away.l):∀ (m h fuel:Nat) (s:StD) (l:List StD),h+m=ks.length→m<fuel→l.length=h→Z3 u s →
  ((Fr u h s (ks.drop h)).2=true→K ks.length ks.length 0 ((l++(Fr u h s (ks.drop h)).1).flatMap StD.av)=X)→((Fr u h s (ks.drop h)).2=false→K 0 ((l++(Fr u h s (ks.drop h)).1).length:Nat) 16 []=X) →
  Oi N K (Av ks) ks.length i j o u.av (Av e) fuel l.length (ks.length:Int) (h:Int) (l.flatMap StD.av) s.av=X:=by
 intro m
 induction m with
 | zero =>
  intro h fuel s l hh hf T G M _
  obtain⟨fuel,rfl⟩:∃ k,fuel=k+1:=⟨fuel - 1,by omega⟩
  rw[Oi];unfold JW
  rw[Ku (by omega),cf,show l.length=ks.length by omega]
  rw[E9 (by omega)] at M
  simpa[Fr] using M rfl
 | succ m ih =>
  intro h fuel s l hh hf T G M I
  obtain⟨fuel,rfl⟩:∃ k,fuel=k+1:=⟨fuel - 1,by omega⟩
  rw[Oi];unfold JW
  have F:h<ks.length:=by omega
  rw[Jh F,ct,Aa F,ct,Cj F,Dr,ct,uU,ct,B8,A1m,Aso (by omega) hs G,Bcu]
  rw[C5 F,Fr] at M I
  have hd:decide ((h:Int) ∈ e)=decide ((h:Int) ∈ u.away.l):=by rw[decide_eq_decide];exact he _
  rw[hd]
  refine Bct (Nat.le_trans t5 (by omega)) (by omega) (fun L=>?_) (fun p V D=>?_)
  ·rw[show(decide ((-1:Int)<0)==false)=false from rfl,cf]
   have C:GY u h s ks[h]=none:=by unfold GY;rw[L];cases mV u h ks[h]<;>rfl
   rw[C] at I
   simpa[T] using I rfl
  ·rw[show(decide ((p:Int)<0)==false)=true by simp,ct]
   have go:GY u h s ks[h]=some (Jv u s)[p]→(cond (Ac (p:Int) (Jv u s).length) (cond (Nat.ble 2 (List.length (List.drop ((Int.toNat (p:Int))*2) ((Jv u s).flatMap StD.av)))) (cond ((Nat.beq (List.length (List.take 2 (List.drop ((Int.toNat (p:Int))*2) ((Jv u s).flatMap StD.av)))) 2)&&((Nat.ble 2 (List.length s.av))&&(!false))) (cond (Nat.ble 2 (List.length (setCells s.av 0 (List.take 2 (List.drop ((Int.toNat (p:Int))*2) ((Jv u s).flatMap StD.av)))))) (cond ((Nat.beq (List.length (List.take 2 (setCells s.av 0 (List.take 2 (List.drop ((Int.toNat (p:Int))*2) ((Jv u s).flatMap StD.av)))))) 2)&&(Nat.ble 2 2)) (cond ((Nat.ble (l.length+1) 140737488355328)&&(Nat.ble ((l.length+1)*16) 140737488355328)) (Oi N K (Av ks) ks.length i j o u.av (Av e) fuel (l.length+1) (ks.length:Int) (IntKind.wrap .i64 ((h:Int)+(1:Int))) ((List.take (l.length*2) (l.flatMap StD.av))++(List.take 2 (setCells [(.int .i64 0),(.int .i64 0)] 0 (List.take 2 (setCells s.av 0 (List.take 2 (List.drop ((Int.toNat (p:Int))*2) ((Jv u s).flatMap StD.av)))))))) (setCells s.av 0 (List.take 2 (List.drop ((Int.toNat (p:Int))*2) ((Jv u s).flatMap StD.av))))) none) none) none) none) none) none)=X:=by
    intro C
    rw[Aa V,ct,A8u V,mT,ct,mU,Bbs,ct,A8t,uU,ct,A1m,Bbt,ct,A5y (by omega),ct,Bbq,A1m,QJ,wS (by omega)]
    rw[C] at M I
    have:=ih (h+1) fuel (Jv u s)[p] (l++[(Jv u s)[p]]) (by omega) (by omega) (by simp;omega) (Ahz hs G C).1
     (fun U=>by have:=M U;simpa using this) (fun U=>by have:=I U;simpa using this)
    simpa using this
   by_cases S:ks[h]=0
   ·rw[show((ks[h] != 0)==true)=false by simp[S],cf]
    exact go (Awz (by unfold mV;simp[S]) D)
   ·rw[show((ks[h] != 0)==true)=true by simp[S],ct]
    cases Y:decide ((h:Int) ∈ u.away.l) with
    | true =>
     have C:GY u h s ks[h]=none:=by unfold GY mV;rw[Y,show(ks[h]==0)=false by simpa using S];rfl
     rw[C] at I
     simpa[T] using I rfl
    | false =>
     rw[show(cond false true (cond true false false))=false from rfl,cf]
     exact go (Awz (by unfold mV;rw[Y];simp) D)
theorem Ah0 {N:Nat} {X:O R} {K:Nat→Int→Int→LA→O R} {u:UnitD} {ks:List Int} {n:Nat} {i j o:Bool} (hN:1100≤N) (hs:C2 u=true) (k:u.away.l.length≤1000) (C:ks.length≤1000) (hn:n=ks.length)
  (D:(Fr u 0 (Ez u) ks).2=true→K ks.length ks.length 0 ((Fr u 0 (Ez u) ks).1.flatMap StD.av)=X) (F:(Fr u 0 (Ez u) ks).2=false→K 0 ((Fr u 0 (Ez u) ks).1.length:Nat) 16 []=X) :
  JX N u.av o (Av ks) n i j K=X:=by
 subst hn
 rw[dK];unfold dJ
 rw[Dr,ct,B8,Nc (by omega),hs,show(!true)=false from rfl,cf,ct]
 refine Bap k hN fun e G=>?_
 rw[show((decide ((0:Int)≤(0:Int)))&&((decide ((0:Int)≤((ks.length:Nat):Int)))&&((decide (((ks.length:Nat):Int)≤(140737488355328:Int)))&&(decide ((((ks.length:Nat):Int)*((16:Nat):Int))≤(140737488355328:Int))))))=true by simp;omega,ct,ct,zV (by omega) hs,A28,ct,Bbq]
 exact Asq hN hs C G ks.length 0 N (Ez u) [] (by omega) (by omega) rfl (gP hs) (by simpa using D) (by simpa using F)
end
end Gx

namespace Gx
open Go Go.Proofs
section
variable {R:Type}
theorem A1n {l:List RatD} {j:Nat} (h:j<l.length):List.drop ((Int.toNat (j:Int))*3) (l.flatMap RatD.av)=l[j].av++(l.drop (j+1)).flatMap RatD.av:=by
 rw[Int.toNat_natCast,Bh (e:=RatD.av) (sz:=3) (fun _=>rfl) _ _ h]
end
end Gx

namespace Gx
open Go Go.Proofs
open IntKind (wrap)
set_option maxRecDepth 100000
noncomputable section
variable {R:Type} (N:Nat)
def CV (r0:Nat→Int→Int→LA→O R) (e:LA) (c:Nat) (f g d:Bool) (b:LA) (k0:Nat→Int→LA→LA→O R) (l:Nat) (i:Int) (o m:LA):O R :=
 (cond (decide (i<((c:Nat):Int))) (cond (Nat.ble 22 (b.length)) (cond (Nat.ble 2 (m.length)) (cond (Ac i c) (An .i64 (e.drop ((i.toNat)*1)) fun r=>(QH N (b.take 22) d i (m.take 2) false r (fun p s=>(cond ((Nat.beq (p.length) 2)&&((Nat.ble 2 2)&&(!false))) (cond (!s) (r0 0 i 16 []) (cond (Nat.ble 2 ((setCells [(.int .i64 0),(.int .i64 0)] 0 p).length)) (cond ((Nat.beq (((setCells [(.int .i64 0),(.int .i64 0)] 0 p).take 2).length) 2)&&(Nat.ble 2 2)) (cond ((Nat.ble (l+1) 140737488355328)&&(Nat.ble ((l+1)*16) 140737488355328)) (cond (Nat.ble 2 ((setCells [(.int .i64 0),(.int .i64 0)] 0 p).length)) (cond ((Nat.beq (((setCells [(.int .i64 0),(.int .i64 0)] 0 p).take 2).length) 2)&&((Nat.ble 2 (m.length))&&(!false))) (k0 (l+1) (wrap .i64 (i+1)) ((o.take (l*2))++((setCells [(.int .i64 0),(.int .i64 0)] 0 ((setCells [(.int .i64 0),(.int .i64 0)] 0 p).take 2)).take 2)) (setCells m 0 ((setCells [(.int .i64 0),(.int .i64 0)] 0 p).take 2))) none) none) none) none) none)) none)))) none) none) none) (r0 l ((c:Nat):Int) 0 o))
def O7 (r0:Nat→Int→Int→LA→O R) (e:LA) (c:Nat) (f g d:Bool) (b:LA):Nat→Nat→Int→LA→LA→O R
 | 0,_,_,_,_=>none
 | n+1,l,i,o,m=>(CV N r0 e c f g d b (O7 r0 e c f g d b n) l i o m)
def gQ (r0:Nat→Int→Int→LA→O R) (q0:Nat→Int→LA→LA→O R) (b:LA) (d:Bool) (e:LA) (c:Nat) (f g:Bool):O R :=
 (cond (Nat.ble 22 (b.length)) (Kl N (b.take 22) d (fun t=>(cond (!t) (r0 0 0 1 []) (cond (Nat.ble 22 (b.length)) (Ts N (b.take 22) d (fun q=>(cond ((Nat.beq (q.length) 2)&&((Nat.ble 2 2)&&(!false))) (q0 0 0 [] (setCells [(.int .i64 0),(.int .i64 0)] 0 q)) none))) none)))) none)
def QK:=(Ah (fun (N:Nat) (b:LA) (d:Bool) (e:LA) (c:Nat) (f g:Bool) (r0:Nat→Int→Int→LA→O R)=>(gQ N r0 (fun l i o m=>(O7 N r0 e c f g d b N l i o m)) b d e c f g))).1
theorem qr (b d e c f g r0):(@QK R N b d e c f g r0)=(gQ N r0 (fun l i o m=>(O7 N r0 e c f g d b N l i o m)) b d e c f g):=by rw[QK,(Ah _).2]
def xk:Hints:={ H:=(hS hL (hS hL (hS hL (hS hL (hS (hS hL (hS (hP [1,2,7,8,9] hL) hL)) hL))))),nils:=[(4,2),(7,2)],modes:=[(2,2),(0,0),(0,0)] }
def Ah1:D9:=[(52,Pw N),(113,ef N),(121,Awv N)]
def Aw1 (F:KF R):=Jw Tryz.f67 xk (Ah1 N) [] N F
def Ze (F:KF R):Nat→Int→Int→LA→O R:=(fun u v w x=>F (.tup [(.own 300000 0 u),(iv v),(iv w)]) (hq [(bQ 2 x)]))
def Aw2 (e:LA) (c:Nat) (f g d:Bool) (b:LA) (l:Nat) (i:Int) (o m:LA):St:=⟨[(1,(.imm e c 1 f g)),(2,(op 0)),(7,(.own 300001 0 l)),(8,(op 2)),(9,(iv i))],(hq [(bP d 0 b),(bQ 2 o),(bQ 0 m)])⟩
def Aw3 (F:KF R):=Aw1 N F [1,1,1,1,0,1,0] []
theorem fA (F:KF R) (e:LA) (c:Nat) (f g d:Bool) (b:LA):∀ (n l:Nat) (i:Int) (o m:LA),Ao (Aw3 N F) n (Aw2 e c f g d b l i o m)=(O7 N (Ze F) e c f g d b n l i o m)
 | 0,_,_,_,_=>by kernel_rfl
 | n+1,l,i,o,m=>Eq.trans (by kernel_rfl) (Bp (CV N (Ze F) e c f g d b · l i o m) (funext fun l=>funext fun i=>funext fun o=>funext fun m=>(fA F e c f g d b n l i o m)):_)
theorem xm (b:LA) (d:Bool) (e:LA) (c:Nat) (f g:Bool) (F:KF R):Ch (Ah1 N) xk N 67 [(.pagg b d),(.imm e c 1 f g)] [] F=(QK N b d e c f g (Ze F)):=by
 rw[qr]
 exact Eq.trans (by kernel_rfl) (Bp (gQ N (Ze F) · b d e c f g) (funext fun l=>funext fun i=>funext fun o=>funext fun m=>(Aj ..).trans (fA N F e c f g d b N l i o m)):_)
def qs (a:LA) (h:Am) (k:KF R):O R :=
 match a,h with
 | [(.pagg b d),(.imm e c 1 f g)],[]=>(QK N b d e c f g (Ze k))
 | _,_=>none
theorem xn:Ap N 67 @qs:=by
 intro R Q a h k j;unfold qs;split;exact A0 (xm ..) (xm ..) ⟨Px N,eg N,Aww N,trivial⟩;exact A3
def Aw4:=A1 (xn N)
def Aw5:=Ce (xn N)
end
end Gx

namespace Gx
open Go Go.Proofs
section
variable {R:Type}
theorem Aw6 {N:Nat} {K:Bool→O R} {l:List Int} {d e:Bool} {c:Int} (k:l.length≤1000000000000):∀ (m j fuel:Nat),j+m=l.length→m<fuel→Wn N K (Av l) l.length d e c fuel (j:Int)=K (decide (c ∈ l.drop j))
 | 0,j,fuel+1,C,_=>by
  rw[Wn];unfold SW
  rw[Ku (by omega),cf,E9 (by omega)];rfl
 | m+1,j,fuel+1,C,D=>by
  rw[Wn];unfold SW
  have h:j<l.length:=by omega
  rw[Jh h,ct,Aa h,ct,Cj h,wS (by omega),Aw6 k m (j+1) fuel (by omega) (by omega),C5 h]
  by_cases e:l[j]=c
  ·rw[show(l[j]==c)=true by simpa using e,ct];congr 1;simp[e]
  ·rw[show(l[j]==c)=false by simpa using e,cf];congr 1;rw[decide_eq_decide,List.mem_cons]
   constructor
   ·exact .inr
   ·rintro(h | h)
    ·exact absurd h.symm e
    ·exact h
theorem Baq {N:Nat} {K:Bool→O R} {l:List Int} {n:Nat} {d e:Bool} {c:Int} (hn:n=l.length) (k:l.length≤1000) (hN:1100≤N):lU N (Av l) n d e c K=K (decide (c ∈ l)):=by
 subst hn
 rw[Adg];unfold zm
 exact Aw6 (by omega) l.length 0 N (by omega) (by omega)
theorem qt {N:Nat} {K:Bool→O R} {u:UnitD} {o:Bool} {h k:Int} (C:u.away.l.length≤1000) (hN:1100≤N) (D:k=0∨k=1∨k=2):Tt N u.av o h k K=K (mV u h k):=by
 rw[Y_];unfold UV
 simp only[Bbf,Baq rfl C hN]
 unfold mV
 rcases D with rfl | rfl | rfl
 ·rfl
 ·rw[show(((1:Int)==0)==false)=true from rfl,ct,show(((1:Int)==1)==false)=false from rfl,cf];rfl
 ·rfl
theorem Bar {u:UnitD} {s:StD} {t:StD} (hs:C2 u=true) (C:Z3 u s) (h:t ∈ Jv u s):t.k=0∨t.k=1∨t.k=2:=(t4 hs (Ahw hs C t h)).2.2
theorem t8 {N:Nat} {X:O R} {K:LA→Bool→O R} {u:UnitD} {L:List StD} {o:Bool} {h k:Int} (G:u.away.l.length≤1000) (hN:1100≤N) (hL:L.length≤1000) (I:∀ t ∈ L,t.k=0∨t.k=1∨t.k=2):∀ (m j fuel:Nat),j+m=L.length→m<fuel →
  (cond (mV u h k) (ZB (L.drop j) k) none=none→K [(.int .i64 0),(.int .i64 0)] false=X)→(∀ t,cond (mV u h k) (ZB (L.drop j) k) none=some t→K t.av true=X) →
  O6 N K h k L.length o u.av (L.flatMap StD.av) fuel (j:Int)=X
 | 0,j,fuel+1,V,_,D,_=>by
  rw[O6];unfold CU
  rw[Ku (by omega),cf]
  exact D (by rw[E9 (by omega)];cases mV u h k<;>rfl)
 | m+1,j,fuel+1,V,Y,D,F=>by
  rw[O6];unfold CU
  have C:j<L.length:=by omega
  rw[Jh C,ct,Aa C,ct,Ahy C,A8v,mT,mU,A28,Bbq,uU,A1m,wS (by omega)]
  rw[C5 C] at D F
  unfold ZB at D F
  simp only[List.find?_cons] at D F
  cases M:(L[j].k==k) with
  | true =>
   rw[M] at D F
   have S:k=0∨k=1∨k=2:=by
    have:=I L[j] (List.getElem_mem C)
    rwa [show L[j].k=k by simpa using M] at this
   rw[show(true==true)=true from rfl,ct,Dr,ct,B8,qt G hN S]
   cases T:mV u h k with
   | true=>rw[T] at F;exact F _ rfl
   | false =>
    rw[T] at D
    rw[show(cond true false false)=false from rfl,cf]
    exact t8 G hN hL I m (j+1) fuel (by omega) (by omega) (fun _=>D rfl) (fun t U=>by rw[T] at U;cases U)
  | false =>
   rw[M] at D F
   rw[show(false==true)=false from rfl,cf]
   exact t8 G hN hL I m (j+1) fuel (by omega) (by omega) D F
theorem Bas {N:Nat} {X:O R} {K:LA→Bool→O R} {u:UnitD} {s:StD} {o d:Bool} {h k:Int} (hs:C2 u=true) (C:Z3 u s) (D:u.away.l.length≤1000) (hN:1100≤N)
  (F:GY u h s k=none→K [(.int .i64 0),(.int .i64 0)] false=X) (G:∀ t,GY u h s k=some t→K t.av true=X):QH N u.av o h s.av d k K=X:=by
 rw[qp];unfold gO
 rw[Dr,ct,uU,ct,A1m,Aog,ct,B8,kZ hN hs C]
 have:=t5 (u:=u) (s:=s)
 exact t8 D hN (by omega) (fun t I=>Bar hs C I) (Jv u s).length 0 N (by omega) (by omega) F G
theorem Bdw:((Nat.beq (List.length [(AV.int .i64 0),(.int .i64 0)]) 2)&&((Nat.ble 2 2)&&(!false)))=true:=rfl
theorem Alb {N:Nat} {X:O R} {K:Nat→Int→Int→LA→O R} {u:UnitD} {ks:List Int} {i j o:Bool} (hN:1100≤N) (hs:C2 u=true) (Y:ks.length≤1000) (S:u.away.l.length≤1000):∀ (m h fuel:Nat) (s:StD) (l:List StD),h+m=ks.length→m<fuel→l.length=h→Z3 u s →
  ((Fr u h s (ks.drop h)).2=true→K ks.length ks.length 0 ((l++(Fr u h s (ks.drop h)).1).flatMap StD.av)=X)→((Fr u h s (ks.drop h)).2=false→K 0 ((l++(Fr u h s (ks.drop h)).1).length:Nat) 16 []=X) →
  O7 N K (Av ks) ks.length i j o u.av fuel l.length (h:Int) (l.flatMap StD.av) s.av=X:=by
 intro m
 induction m with
 | zero =>
  intro h fuel s l T U G D F _
  obtain⟨fuel,rfl⟩:∃ k,fuel=k+1:=⟨fuel - 1,by omega⟩
  rw[O7];unfold CV
  rw[Ku (by omega),cf,show l.length=ks.length by omega]
  rw[E9 (by omega)] at F
  simpa[Fr] using F rfl
 | succ m V =>
  intro h fuel s l T U G D F I
  obtain⟨fuel,rfl⟩:∃ k,fuel=k+1:=⟨fuel - 1,by omega⟩
  rw[O7];unfold CV
  have C:h<ks.length:=by omega
  rw[Jh C,ct,Dr,ct,uU,ct,Aa C,ct,Cj C,B8,A1m]
  rw[C5 C,Fr] at F I
  refine Bas hs D S hN (fun hn=>?_) (fun t M=>?_)
  ·rw[hn] at I
   rw[Bdw,ct]
   simpa[G] using I rfl
  ·rw[M] at F I
   rw[A28,ct,show(!true)=false from rfl,cf,Bbq,uU,ct,A1m,Bbt,ct,A5y (by omega),ct,ct,show ∀ t:StD,((Nat.beq (List.length t.av) 2)&&(true&&(!false)))=true from fun _=>rfl,ct,Bbq,A1m,A8t,QJ,wS (by omega)]
   have:=V (h+1) fuel t (l++[t]) (by omega) (by omega) (by simp;omega) (Ahz hs D M).1
    (fun L=>by have:=F L;simpa using this) (fun L=>by have:=I L;simpa using this)
   simpa using this
theorem Aw7 {N:Nat} {X:O R} {K:Nat→Int→Int→LA→O R} {u:UnitD} {ks:List Int} {n:Nat} {i j o:Bool} (hN:1100≤N) (hs:C2 u=true) (k:u.away.l.length≤1000) (C:ks.length≤1000) (hn:n=ks.length)
  (D:(Fr u 0 (Ez u) ks).2=true→K ks.length ks.length 0 ((Fr u 0 (Ez u) ks).1.flatMap StD.av)=X) (F:(Fr u 0 (Ez u) ks).2=false→K 0 ((Fr u 0 (Ez u) ks).1.length:Nat) 16 []=X) :
  QK N u.av o (Av ks) n i j K=X:=by
 subst hn
 rw[qr];unfold gQ
 rw[Dr,ct,B8,Km,hs,show(!true)=false from rfl,cf,ct,QI hs,A28,ct,Bbq]
 exact Alb hN hs C k ks.length 0 N (Ez u) [] (by omega) (by omega) rfl (gP hs) (by simpa using D) (by simpa using F)
end
end Gx
