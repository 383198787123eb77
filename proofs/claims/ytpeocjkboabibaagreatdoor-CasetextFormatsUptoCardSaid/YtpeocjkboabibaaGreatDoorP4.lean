/- A part of the proof; each theorem says what it holds. -/
import Derived.Laws.BitsLemmas
import Derived.Laws.RangeAny
import Derived.Laws.RangeString
import Derived.Lib.ItoaLen
import Derived.Test.YtpeocjkboabibaaGreatDoorRows
import Derived.ChangeSame
import Derived.Test.YtpeocjkboabibaaGreatDoorP3
set_option linter.unusedVariables false
set_option linter.defProp false
set_option linter.unusedSimpArgs false
open Nat (ble beq)
open List (take drop replicate)
open Go.IntKind (wrap)
namespace Gx.Ct
open Go Go.Proofs Gx.Cf
section
variable {R:Type} {N:Nat} {c:CaseD} {b:Bool}
theorem bC {K:Lu→Int→O R} (d:c.outs.l.length≤1000):∀ (m j fuel:Nat),j+m=c.outs.l.length→m<fuel →
  Jg N K (c.outs.l.flatMap OutD.av) c.outs.l.length b c.av fuel (c.outs.l.length:Int) (j:Int) =
   cond ((c.outs.l.drop j).all UM) (He N c.av b ([]:Lu) false fun r y=>cond y (K ([]:Lu) 3) (cond (decide ((((r.length):Nat):Int)>1048576)) (K ([]:Lu) 8) (K r 0))) (K [] 16)
 | 0,j,fuel+1,f,_=>by
  rw[Jg];unfold Sn
  rw[F9 (by omega),cf,A5 (by omega),Aeu,Dx,ct,Bx];rfl
 | m+1,j,fuel+1,f,n=>by
  rw[Jg];unfold Sn
  have h:j<c.outs.l.length:=by omega
  have k:=bC (K:=K) d m (j+1) fuel (by omega) (by omega)
  rw[Fn h,ct,Ab h,ct,Cq (e:=OutD.av) (sz:=4) (fun _=>rfl) h,ct,Br (e:=OutD.av) (sz:=4) (fun _=>rfl) h,show((beq 0 0)&&((beq ((OutD.av c.outs.l[j]).length) 4)&&(beq 4 4)))=true from rfl,ct,Oy (by omega),k,A3 h,Aek,
   show ∀ F:Bool→O R,qS (drop 2 (OutD.av c.outs.l[j])) F=F (c.outs.l[j]).corr from fun _=>rfl]
  have rm:∀ F:LA→Nat→O R,A6 3 (drop 3 (OutD.av c.outs.l[j])) F=F ((c.outs.l[j]).moves.l.flatMap MoveD.av) (c.outs.l[j]).moves.l.length:=fun F=>by
   show A6 3 ((c.outs.l[j]).moves.av 3 MoveD.av::_) F=_
   rw[Bn]
  rw[rm]
  unfold UM
  cases (c.outs.l[j]).corr with
  | true=>rfl
  | false =>
   show cond (cond true (decide ((((c.outs.l[j]).moves.l.length:Nat):Int)>0)) false) _ _=_
   cases q:(c.outs.l[j]).moves.l with
   | nil=>rfl
   | cons x r=>rw[decide_eq_true (by simp)];rfl
theorem u5 (c:CaseD):((List.range' 1 6).all fun k=>(Mq c k).all Df)=(B5 c).all fun l=>l.all Df:=by
 simp[Mq,B5,List.range']
theorem u6 (c:CaseD):((List.range' 1 6).any fun k=>Dm [] (Mq c k))=(B5 c).any (Dm []):=by
 simp[Mq,B5,List.range']
theorem sF (c:CaseD):(List.range' 1 6).all (jL c)=Ff c:=by
 rw[uS];simp[List.range']
theorem mz {K:Lu→Int→O R} (hF:FI R N) (hx:Bp) (hN:1000000000<N) (hI:CaseI c) (hL:ListsOk c):Qu N c.av b K=K (o9 c) (Tt c):=by
 have fin:∀ e:Int,Tt c=e→e≠0→K [] e=K (o9 c) (Tt c):=fun e d f=>by unfold o9;rw[d,if_neg f]
 rw[MJ];unfold CA
 refine(kK hN hL 6 1 N (by omega) (by omega) (by omega)).trans ?_
 rw[sF]
 cases d:Ff c with
 | false=>exact fin 8 (by unfold Tt;rw[if_pos d]) (by decide)
 | true =>
  have v:=d
  unfold Ff at v
  simp only[Ad3,decide_eq_true_eq] at v
  have E1:Tt c=if c.hours<1∨c.hours>24 then 3 else if Xo c=false then 4 else if I9 c≠0 then I9 c else if Mn c=false then 12 else if Fc c=false then 16 else if G0 c then 3 else if (Pa c).length>1048576 then 8 else 0:=by
   unfold Tt;rw[if_neg (by rw[d];decide)]
  rw[ct,Dc]
  by_cases f:c.hours<1
  ·rw[decide_eq_true f];exact fin 3 (by rw[E1,if_pos (.inl f)]) (by decide)
  ·rw[decide_eq_false f,show((false:Bool)==false)=true from rfl,ct,Dc]
   show cond (decide (c.hours>24)) _ _=_
   by_cases m:c.hours>24
   ·rw[decide_eq_true m];exact fin 3 (by rw[E1,if_pos (.inr m)]) (by decide)
   ·have E2:Tt c=if Xo c=false then 4 else if I9 c≠0 then I9 c else if Mn c=false then 12 else if Fc c=false then 16 else if G0 c then 3 else if (Pa c).length>1048576 then 8 else 0:=by
     rw[E1,if_neg (fun h=>h.elim f m)]
    rw[decide_eq_false m,cf]
    unfold U9 AI
    rw[Dx,ct,Bx,m0 (by omega) (by omega) (by omega)]
    cases x:Xo c with
    | false=>exact fin 4 (by rw[E2,if_pos x]) (by decide)
    | true =>
     have E3:Tt c=if I9 c≠0 then I9 c else if Mn c=false then 12 else if Fc c=false then 16 else if G0 c then 3 else if (Pa c).length>1048576 then 8 else 0:=by
      rw[E2,if_neg (by rw[x];decide)]
     rw[show(!true)=false from rfl,cf]
     have hs:∀ k,1≤k→k≤6→(Mq c k).length≤1000:=fun k d f=>by
      have:k=1∨k=2∨k=3∨k=4∨k=5∨k=6:=by omega
      rcases this with rfl | rfl | rfl | rfl | rfl | rfl<;>simp[Mq,B5,Bh,Cl,Bt,Tr,WS,WT]<;>omega
     refine(a7 (F:=_) hN hL hs (fun _=>rfl) 6 1 N false (by omega) (by omega) (by omega)).trans ?_
     rw[u5,u6,Aew]
     have hE:I9 c=if ((B5 c).all fun l=>l.all Df) then (if (B5 c).any (Dm []) then 10 else 0) else 9:=rfl
     cases n:((B5 c).all fun l=>l.all Df) with
     | false =>
      rw[n] at hE
      exact fin 9 (by rw[E3,hE];rfl) (by decide)
     | true =>
      rw[n,if_pos rfl] at hE
      rw[ct]
      cases j:(B5 c).any (Dm []) with
      | true =>
       rw[j] at hE
       exact fin 10 (by rw[E3,hE];rfl) (by decide)
      | false =>
       rw[j,if_neg (by decide)] at hE
       have E4:Tt c=if Mn c=false then 12 else if Fc c=false then 16 else if G0 c then 3 else if (Pa c).length>1048576 then 8 else 0:=by
        rw[E3,if_neg (fun h=>h hE)]
       rw[cf,Dx,ct,Bx,po hN d hI.o]
       cases q:Mn c with
       | false=>exact fin 12 (by rw[E4,if_pos q]) (by decide)
       | true =>
        have E5:Tt c=if Fc c=false then 16 else if G0 c then 3 else if (Pa c).length>1048576 then 8 else 0:=by
         rw[E4,if_neg (by rw[q];decide)]
        rw[show(!true)=false from rfl,cf,Fb]
        refine(bC (by omega) c.outs.l.length 0 N (by omega) (by omega)).trans ?_
        rw[Aeg,show c.outs.l.all UM=Fc c from rfl]
        cases t:Fc c with
        | false=>exact fin 16 (by rw[E5,if_pos t]) (by decide)
        | true =>
         have E6:Tt c=if G0 c then 3 else if (Pa c).length>1048576 then 8 else 0:=by
          rw[E5,if_neg (by rw[t];decide)]
         rw[ct]
         have u:∀ l ∈ B5 c,∀ s ∈ l,Df s=true:=by
          simp only[Ae3] at n
          exact n
         have rd:Ready c:=⟨hI,fun l A s hs=>by
          have:=u l A s hs
          unfold Df at this
          simp only[Ad3,decide_eq_true_eq] at this
          exact this.2.1,q,d⟩
         rw[sE hF hx hN rd t]
         cases y:G0 c with
         | true=>exact fin 3 (by rw[E6,if_pos y]) (by decide)
         | false =>
          have E7:Tt c=if (Pa c).length>1048576 then 8 else 0:=by
           rw[E6,if_neg (by rw[y];decide)]
          rw[cf]
          by_cases z:(Pa c).length>1048576
          ·rw[decide_eq_true (show(((Pa c).length:Nat):Int)>1048576 by omega)]
           exact fin 8 (by rw[E7,if_pos z]) (by decide)
          ·have E8:Tt c=0:=by rw[E7,if_neg z]
           rw[decide_eq_false (show ¬ (((Pa c).length:Nat):Int)>1048576 by omega),cf]
           unfold o9;rw[E8,if_pos rfl]
end
end Gx.Ct
namespace Gx.Cf
open Go Go.Proofs
section
variable {R:Type}
theorem h_ {N:Nat} {v n:Int} (d:1≤n) (e:n≤4611686018427387904):∃ r:Int,0≤r∧r<n∧∀ K:Int→O R,QR N v n K=K r:=by
 obtain⟨a1,a2,a3⟩:=pV v n d e
 refine⟨_,a2,a3,fun K=>?_⟩
 rw[QS];unfold dK
 rw[a1,cf]
end
end Gx.Cf
namespace Gx
open Go Go.Proofs
section
variable {R:Type}
def YC (x y:Nat):Int:=if x<y then -1 else if y<x then 1 else 0
theorem u7 (x:Nat):YC x x=0:=by unfold YC;simp
theorem iA {a b:Nat} (h:(C2 a).length<(C2 b).length):a<b:=Nat.lt_of_not_le fun d=>by
 have:=Mi d;omega
theorem tN {u w p q P:Nat} (d:u<P) (e:w<P) (h:p<q):u+P*p<w+P*q:=by
 have:P*(p+1)≤P*q:=Ag8 _ h
 rw[Af5] at this
 omega
theorem nA:∀ {S:List Nat} {d v:Nat} (h:d<S.length),val (S.set d v)+4294967296 ^ d*S[d]=val S+4294967296 ^ d*v
 | x::r,0,v,_=>by simp[val];omega
 | x::r,d+1,v,h=>by
  have e:=nA (S:=r) (d:=d) (v:=v) (by simpa using h)
  simp only[List.set_cons_succ,val,Ahk,Ae1]
  have e1:∀ y,4294967296 ^ d*4294967296*y=4294967296*(4294967296 ^ d*y):=fun y=>by rw[Afu (4294967296 ^ d),Af8]
  rw[e1,e1]
  omega
theorem YD (b:List Nat) (d:Nat):val (b.take (d+1))=val (b.take d)+4294967296 ^ d*b.getD d 0:=by
 by_cases h:d<b.length
 ·rw[Mj h,Aee,Ad1 h];rfl
 ·rw[Ad0 (by omega),Ad0 (by omega),Aee,Afo (by omega)];simp
theorem qK (P s:Nat):P*(s%4294967296)+P*4294967296*(s/4294967296)=P*s:=by
 rw[Af8,←Af5,Nat.add_comm,Af7]
def yi (S:List Nat) (d:Nat):Prop:=∀ j (h:j<S.length),d≤j→S[j]=0
theorem tO {S:List Nat} {d v:Nat} (h:yi S d):yi (S.set d v) (d+1):=fun j e f=>by
 rw[List.getElem_set]
 rw[if_neg (by omega)]
 exact h j (by simpa using e) (by omega)
theorem P' (n:Nat):yi (replicate n 0) 0:=fun j d _=>by simp
theorem tP {S:List Nat} {d v:Nat} (h:yi S d) (e:d<S.length):val (S.set d v)=val S+4294967296 ^ d*v:=by
 have:=nA (v:=v) e
 rw[h d e (Ad4 _)] at this;simpa using this
theorem yj {n:Nat} (h:n≠0):((n:Int)==(0:Int))=false:=by rw[beq_eq_false_iff_ne];omega
theorem xM {v:Nat} (h:(C2 v).length≤2):v<18446744073709551616:=by
 have:=R2 (Bw v)
 rw[Dn] at this
 have d:4294967296 ^ (C2 v).length≤4294967296 ^ 2:=Afq (by omega) h
 omega
theorem nC {v:Nat} (h:v<18446744073709551616):(C2 v).length≤2:=f7 (by simpa using h)
theorem kM {X:List Nat} {n:Nat} (h:X.length=n+1):val X=val (X.take n)+4294967296 ^ n*X[n]:=by
 have:=Mj (l:=X) (c:=n) (by omega)
 rwa [Ad0 (by omega)] at this
theorem wT (a b:Nat):Int.tdiv (a:Int) (b:Int)=((a/b:Nat):Int):=rfl
theorem wU (a b:Nat):Int.tmod (a:Int) (b:Int)=((a%b:Nat):Int):=rfl
theorem Acg {a b:Nat} (d:a<4294967296) (e:b<4294967296):fB .u64 (wrap .u64 ((a:Int)*2 ^ 32)) (b:Int)=((a*4294967296+b:Nat):Int):=by
 rw[show(2:Int) ^ 32=((2 ^ 32:Nat):Int) by rfl,Aa1,oc (by omega),Aa2 (by omega) (by omega),ve (by omega)]
theorem wV {l:List Nat} {d:Nat} (h:d<l.length):val (l.drop d)=l[d]+4294967296*val (l.drop (d+1)):=by
 rw[Afe h,val]
theorem sG {S:List Nat} {n:Nat} (hS:Cw S) (h:S.length=n+1):val S<(S[n]+1)*4294967296 ^ n:=by
 have e:=kM h
 have d:=R2 (Tu hS n)
 rw[Afc,Ae9 (by omega)] at d
 rw[Afn,Afu S[n]];omega
theorem YE {a:List Nat} (d:Cw a) (i:Nat):a.getD i 0<4294967296:=by
 by_cases h:i<a.length
 ·rw[Aee,Ad1 h];exact ED d h
 ·rw[Aee,Afo (by omega)];simp
theorem zw {c:Nat} (h:c≤1000000000000):((ble (0+c) 140737488355328)&&(ble ((0+c)*4) 140737488355328))=true:=by simp;omega
theorem RV {N:Nat} {l:List Nat} {t o:Bool} {K:Nat→LA→O R} (e:Cw l) (hs:l.length≤1000000000000):∀ (c fuel:Nat),c≤l.length→c<fuel →
  Ob N K (Bj l) l.length t o fuel (c:Int)=K (C2 (val (l.take c))).length (Bj (C2 (val (l.take c))))
 | 0,fuel+1,f,_=>by
  rw[Ob];unfold Ye
  rw[show decide (((0:Nat):Int)>0)=false by simp]
  rw[show((false:Bool)==true)=false by rfl,cf,Acs (by omega),ct,Ad2,Aeh,WX,LC,Agf,ct,zw (by omega),ct];rfl
 | c+1,fuel+1,f,j=>by
  rw[Ob];unfold Ye
  rw[Aa3,ct,wP (by omega),Ab (by omega),ct,yt (by omega),Aan,Acs (by omega),ct,RV e hs c fuel (by omega) (by omega),Ad2,Aeh,WX,LC,Agf,ct,zw (by omega),ct,Aec]
  by_cases d:l[c]=0
  ·rw[Mj (by omega),d];simp
  ·rw[wt e (by omega) d,Afc,Ae9 f]
   rw[yj d,cf]
theorem Fw {N:Nat} {l:List Nat} {n:Nat} {t o:Bool} {K:Nat→LA→O R} (hn:n=l.length) (e:Cw l) (d:fit l.length N):Ge N (Bj l) n t o K=K (C2 (val l)).length (Bj (C2 (val l))):=by
 subst hn
 have f:=d.1;have j:=d.2
 rw[HF];unfold EU
 rw[RV e (by omega) l.length N (Ad4 _) (by omega),Aga]
theorem CB {N:Nat} {v:Nat} {K:Nat→LA→O R} (f:v<18446744073709551616) (hN:4≤N):Hr N (v:Int) K=K (C2 v).length (Bj (C2 v)):=by
 have e:Cw [v%4294967296,v/4294967296]:=Nr.2 ⟨by omega,Nr.2 ⟨by omega,uB⟩⟩
 have d:val [v%4294967296,v/4294967296]=v:=by simp[val];omega
 rw[Z2];unfold Wo
 rw[yF,yG,Aam (show v/4294967296<4294967296 by omega)]
 have:=RV (R:=R) (N:=N) (l:=[v%4294967296,v/4294967296]) (t:=false) (o:=true) (K:=K) e (by simp) 2 N (by simp) (by omega)
 rw[show [v%4294967296,v/4294967296].take 2=[v%4294967296,v/4294967296] by rfl,d] at this
 rw[HF];unfold EU
 exact this
theorem Yj {N:Nat} {l:List Nat} {n:Nat} {t o:Bool} {K:Int→Bool→O R} (hn:n=l.length) (q:Cw l) (k:fit l.length N):Lm N (Bj l) n t o K=if val l<18446744073709551616 then K (val l:Int) true else K 0 false:=by
 have v:=k.1
 rw[LY];unfold BS
 rw[Fw hn q k]
 by_cases h:val l<18446744073709551616
 ·have s:=nC h
  rw[if_pos h,show decide ((((C2 (val l)).length:Nat):Int)>2)=false by simp;omega,cf]
  have e:=Dn (val l)
  have j:=Bw (val l)
  obtain⟨M,hM⟩:∃ M,N=M+4:=⟨N - 4,by omega⟩
  rw[hM]
  generalize C2 (val l)=d at *
  match d,s,e,j with
  | [],_,e,_ =>
   dsimp only
   rw[Ei];unfold Gf
   rw[←e,i64 (by simp)];rfl
  | [x],_,e,j =>
   have hx:=(Nr.1 j).1
   have f:val l=x:=by rw[←e];simp[val]
   dsimp only
   rw[Ei];unfold Gf
   rw[i64 (by simp),show((([x]:List Nat).length:Nat):Int) - 1=((0:Nat):Int) by rfl,show decide (((0:Nat):Int)≥0)=true by rfl,ct,Ab (by simp),ct,f8 (by simp)]
   rw[Ei];unfold Gf
   rw[i64 (by simp),show decide ((((0:Nat):Int) - 1)≥0)=false by rfl,cf]
   have:=Acg (a:=0) (b:=x) (by omega) hx
   simp only[Ahl]
   rw[oc (show x<18446744073709551616 by omega),show(0:Int)=((0:Nat):Int) by rfl,this,f];simp
  | [x,y],_,e,j =>
   have hx:=(Nr.1 j).1
   have m:=(Nr.1 (Nr.1 j).2).1
   have f:val l=y*4294967296+x:=by rw[←e];simp[val];omega
   dsimp only
   rw[Ei];unfold Gf
   rw[i64 (by simp),show((([x,y]:List Nat).length:Nat):Int) - 1=((1:Nat):Int) by rfl,show decide (((1:Nat):Int)≥0)=true by rfl,ct,Ab (by simp),ct,f8 (by simp)]
   rw[Ei];unfold Gf
   rw[i64 (by simp),show(((1:Nat):Int) - 1)=((0:Nat):Int) by rfl,show decide (((0:Nat):Int)≥0)=true by rfl,ct,Ab (by simp),ct,f8 (by simp)]
   rw[Ei];unfold Gf
   rw[i64 (by simp),show decide ((((0:Nat):Int) - 1)≥0)=false by rfl,cf]
   have o1:=Acg (a:=0) (b:=y) (by omega) m
   have o2:=Acg (a:=y) (b:=x) m hx
   simp only[Ahl,Ahk]
   rw[oc (show y<18446744073709551616 by omega),oc (show x<18446744073709551616 by omega),show(0:Int)=((0:Nat):Int) by rfl,o1,Nat.zero_mul,Aec,o2,f]
 ·have:¬ (C2 (val l)).length≤2:=fun u=>h (xM u)
  rw[if_neg h,show decide ((((C2 (val l)).length:Nat):Int)>2)=true by simp;omega,ct]
theorem kN {N:Nat} {x y:List Nat} {K:Int→O R} (hx:Cw x) (f:Cw y) (hs:x.length≤1000000000000) (k:x.length=y.length):∀ (i fuel:Nat),i≤x.length→i<fuel →
  Hs N K x.length y.length (Bj x) (Bj y) fuel ((i:Int) - 1)=K (YC (val (x.take i)) (val (y.take i)))
 | 0,fuel+1,_,_=>by
  rw[Hs];unfold Qi
  rw[show decide ((((0:Nat):Int) - 1)≥0)=false by simp,cf]
  simp[u7]
 | i+1,fuel+1,hi,l=>by
  rw[Hs];unfold Qi
  rw[show(((i+1:Nat):Int) - 1)=(i:Int) by omega,show decide ((i:Int)≥0)=true by simp,ct,Ab (by omega),ct,f8 (by omega),Ab (by omega),ct,f8 (by omega),ct,f8 (by omega),ct,f8 (by omega),i64 (by omega),
   kN hx f hs k i fuel (by omega) (by omega),Mj (by omega),Mj (by omega)]
  have d:=R2 (Tu hx i)
  have e:=R2 (Tu f i)
  rw[Afc,Ae9 (by omega)] at d e
  by_cases c1:x[i]<y[i]
  ·have:=tN d e c1
   rw[show decide (((x[i]:Nat):Int)<((y[i]:Nat):Int))=true by simp;exact c1,ct]
   unfold YC;rw[if_pos this]
  ·by_cases j:y[i]<x[i]
   ·have:=tN e d j
    rw[show decide (((x[i]:Nat):Int)<((y[i]:Nat):Int))=false by simp;omega,cf,show decide (((x[i]:Nat):Int)>((y[i]:Nat):Int))=true by simp;exact j,ct]
    unfold YC;rw[if_neg (by omega),if_pos this]
   ·have:x[i]=y[i]:=by omega
    rw[show decide (((x[i]:Nat):Int)<((y[i]:Nat):Int))=false by simp;omega,cf,show decide (((x[i]:Nat):Int)>((y[i]:Nat):Int))=false by simp;omega,cf,this]
    unfold YC
    congr 1
    by_cases a1:val (x.take i)<val (y.take i)
    ·rw[if_pos a1,if_pos (by omega)]
    ·by_cases a2:val (y.take i)<val (x.take i)
     ·rw[if_neg a1,if_pos a2,if_neg (by omega),if_pos (by omega)]
     ·rw[if_neg a1,if_neg a2,if_neg (by omega),if_neg (by omega)]
theorem u9 {N:Nat} {a b:List Nat} {n m:Nat} {t o t' o':Bool} {K:Int→O R} (hn:n=a.length) (l:m=b.length) (e:Cw a) (f:Cw b) (d:fit (a.length+b.length) N) :
  V3 N (Bj a) n t o (Bj b) m t' o' K=K (YC (val a) (val b)):=by
 subst hn l
 have q:=d.1;have s:=d.2
 rw[IS];unfold Yf
 dsimp only
 rw[Fw rfl e (d.le (by omega)),Fw rfl f (d.le (by omega))]
 have la:=(Xp e).2
 have lb:=(Xp f).2
 by_cases j:(C2 (val a)).length=(C2 (val b)).length
 ·rw[show((((C2 (val a)).length:Nat):Int) != (((C2 (val b)).length:Nat):Int))=false by simp;omega,cf,i64 (by omega),kN (Bw _) (Bw _) (by omega) j _ N (Ad4 _) (by omega),Aga,j,Aga,Dn,Dn]
 ·rw[show((((C2 (val a)).length:Nat):Int) != (((C2 (val b)).length:Nat):Int))=true by simp;omega,ct]
  by_cases k:(C2 (val a)).length<(C2 (val b)).length
  ·have:=iA k
   rw[Fn k,ct]
   unfold YC;rw[if_pos this]
  ·have:=iA (show(C2 (val b)).length<(C2 (val a)).length by omega)
   rw[F9 (by omega),cf]
   unfold YC;rw[if_neg (by omega),if_pos this]
theorem zx (a b:Nat):QG (a:Int) (b:Int)=((max a b:Nat):Int):=by
 unfold QG
 by_cases h:(b:Int)>(a:Int)
 ·rw[decide_eq_true h];show(b:Int)=_;omega
 ·rw[decide_eq_false h];show(a:Int)=_;omega
theorem kO {N:Nat} {a b:List Nat} {t o t' o':Bool} {n:Nat} (u:Cw a) (v:Cw b) (x:a.length<n) (y:b.length<n) (hn:n≤max a.length b.length+1) (l:fit n N):∀ (m d fuel:Nat) (S:List Nat) (c:Nat),d+m=n→m<fuel→Cw S→S.length=n→yi S d→c≤1 →
  val S+4294967296 ^ d*c=val (a.take d)+val (b.take d) →
  ∀ K:Nat→LA→O R,Jc N K (Bj a) a.length t o (Bj b) b.length t' o' fuel n (c:Int) (d:Int) (Bj S)=K (C2 (val a+val b)).length (Bj (C2 (val a+val b)))
 | 0,d,fuel+1,S,c,I,_,hS,q,z,L,A=>by
  intro K
  have B:d=n:=by omega
  subst B
  rw[Ad0 (by omega),Ad0 (by omega)] at A
  have C:c=0:=by
   rcases Age c with h | h
   ·exact h
   ·exfalso
    have D:c=1:=by omega
    subst D
    obtain⟨e,rfl⟩:∃ e,d=e+1:=⟨d - 1,by omega⟩
    have x1:=R2 u
    have x2:=R2 v
    have y1:4294967296 ^ a.length≤4294967296 ^ e:=Afq (by omega) (by omega)
    have y2:4294967296 ^ b.length≤4294967296 ^ e:=Afq (by omega) (by omega)
    rw[Ae1] at A
    omega
  subst C
  have F:val S=val a+val b:=by omega
  rw[Jc];unfold BT
  rw[F9 (Ad4 _),cf,Aeh,Ad0 (by rw[G8];omega),Fw q.symm hS (by rw[q];exact l),F]
 | m+1,d,fuel+1,S,c,I,M,hS,q,z,L,A=>by
  intro K
  have T:=l.1;have U:=l.2
  have ga:=YE u d
  have gb:=YE v d
  have step:∀ s:Nat,s=c+a.getD d 0+b.getD d 0→val (S.set d (s%4294967296))+4294967296 ^ (d+1)*(s/4294967296)=val (a.take (d+1))+val (b.take (d+1)):=by
   intro s hs
   rw[tP z (by omega),YD a d,YD b d,Ae1]
   have e:=qK (4294967296 ^ d) s
   have V:4294967296 ^ d*s=4294967296 ^ d*c+4294967296 ^ d*a.getD d 0+4294967296 ^ d*b.getD d 0:=by rw[hs,Af5,Af5]
   omega
  have next:∀ s:Nat,s=c+a.getD d 0+b.getD d 0→Jc N K (Bj a) a.length t o (Bj b) b.length t' o' fuel n ((s/4294967296:Nat):Int) ((d+1:Nat):Int) (Bj (S.set d (s%4294967296)))=K (C2 (val a+val b)).length (Bj (C2 (val a+val b))):=by
   intro s hs
   exact kO u v x y hn l m (d+1) fuel (S.set d (s%4294967296)) (s/4294967296) (by omega) (by omega) (WW hS (by omega) d) (by simpa using q) (tO z) (by omega) (step s hs) K
  have second:∀ w:Nat,w=c+a.getD d 0→Z3 N (Jc N K (Bj a) a.length t o (Bj b) b.length t' o' fuel) K (Bj a) a.length t o (Bj b) b.length t' o' n (Bj S) (w:Int) (d:Int)=K (C2 (val a+val b)).length (Bj (C2 (val a+val b))):=by
   intro w G
   unfold Z3
   by_cases f:d<b.length
   ·have k:b.getD d 0=b[d]:=by rw[Aee,Ad1 f];rfl
    rw[Fn f,ct,Ab f,ct,yt f,Ab (by omega),ct,x6 (by omega),ct,oc (show b[d]<18446744073709551616 by omega),yE,oc (show w+b[d]<18446744073709551616 by omega),yG,yF,vf,wS (by omega)]
    exact next _ (by rw[G,k])
   ·have k:b.getD d 0=0:=by rw[Aee,Afo (by omega)];rfl
    rw[F9 (by omega),cf,Ab (by omega),ct,x6 (by omega),ct,yG,yF,vf,wS (by omega)]
    exact next _ (by rw[G,k];rfl)
  rw[Jc];unfold BT
  rw[Fn (by omega),ct]
  by_cases j:d<a.length
  ·have k:a.getD d 0=a[d]:=by rw[Aee,Ad1 j];rfl
   rw[Fn j,ct,Ab j,ct,yt j,oc (show a[d]<18446744073709551616 by omega),yE,oc (show c+a[d]<18446744073709551616 by omega)]
   exact second _ (by rw[k])
  ·have k:a.getD d 0=0:=by rw[Aee,Afo (by omega)];rfl
   rw[F9 (by omega),cf]
   exact second _ (by rw[k];rfl)
theorem kP {N:Nat} {a b:List Nat} {n m:Nat} {t o t' o':Bool} {K:Nat→LA→O R} (hn:n=a.length) (e:m=b.length) (f:Cw a) (j:Cw b) (d:fit (a.length+b.length+1) N) :
  NM N (Bj a) n t o (Bj b) m t' o' K=K (C2 (val a+val b)).length (Bj (C2 (val a+val b))):=by
 subst hn e
 have k:=d.1;have l:=d.2
 rw[aT];unfold UT
 rw[zx,wS (by omega),Aa4 (by omega),ct,Ad2,Zi]
 exact kO f j (n:=max a.length b.length+1) (by omega) (by omega) (Ad4 _) (d.le (by omega)) (max a.length b.length+1) 0 N (replicate (max a.length b.length+1) 0) 0 (by omega) (by omega) (Wi _) (by simp) (P' _) (by omega) (by rw[Ul];simp[val]) K
theorem kQ {N:Nat} {a b:List Nat} (D:Cw a) (F:Cw b) (u:fit a.length N) (s:b.length≤a.length) (v:val b≤val a):∀ (m d fuel:Nat) (S:List Nat) (c:Nat),d+m=a.length→m<fuel→Cw S→S.length=a.length→yi S d→c≤1 →
  val S+val (b.take d)=val (a.take d)+4294967296 ^ d*c →
  ∀ K:Nat→Bool→LA→O R,Jd N K a.length b.length (Bj a) (Bj b) fuel (c:Int) (d:Int) (Bj S)=K (C2 (val a - val b)).length true (Bj (C2 (val a - val b)))
 | 0,d,fuel+1,S,c,I,_,hS,t,x,L,G=>by
  intro K
  have z:d=a.length:=by omega
  subst z
  rw[Aga,Ad0 s] at G
  have l:=R2 hS
  rw[t] at l
  have A:c=0:=by
   rcases Ahp 0 c with h | h
   ·exfalso
    have:c=1:=by omega
    subst this
    omega
   ·omega
  subst A
  have B:val S=val a - val b:=by omega
  rw[Jd];unfold BU
  rw[F9 (Ad4 _),cf,Aeh,Ad0 (by rw[G8];omega),Fw t.symm hS (by rw[t];exact u),B]
 | m+1,d,fuel+1,S,c,I,M,hS,t,x,L,G=>by
  intro K
  have U:=u.1;have V:=u.2
  have f:d<a.length:=by omega
  have ad:=ED D f
  have gb:=YE F d
  have step:∀ y g j:Nat,y=c+b.getD d 0→a[d]+4294967296*j=g+y→val (S.set d g)+val (b.take (d+1))=val (a.take (d+1))+4294967296 ^ (d+1)*j:=by
   intro y g j q n
   rw[tP x (by omega),Mj f,YD b d,Ae1,Af8]
   have e:4294967296 ^ d*(a[d]+4294967296*j)=4294967296 ^ d*(g+(c+b.getD d 0)):=by rw[n,q]
   rw[Af5,Af5,Af5] at e
   omega
  have next:∀ y g j:Nat,g<4294967296→j≤1→y=c+b.getD d 0→a[d]+4294967296*j=g+y→Jd N K a.length b.length (Bj a) (Bj b) fuel (j:Int) ((d+1:Nat):Int) (Bj (S.set d g))=K (C2 (val a - val b)).length true (Bj (C2 (val a - val b))):=by
   intro y g j n C q T
   exact kQ D F u s v m (d+1) fuel (S.set d g) j (by omega) (by omega) (WW hS n d) (by simpa using t) (tO x) C (step y g j q T) K
  have second:∀ y:Nat,y=c+b.getD d 0→Z4 N (Jd N K a.length b.length (Bj a) (Bj b) fuel) K a.length b.length (Bj a) (Bj b) (Bj S) (d:Int) (y:Int)=K (C2 (val a - val b)).length true (Bj (C2 (val a - val b))):=by
   intro y q
   unfold Z4
   rw[Ab f,ct,f8 f,oc (show a[d]<18446744073709551616 by omega)]
   by_cases l:a[d]<y
   ·rw[Fn l,ct,ct,x6 (by omega),ct,show((a[d]:Nat):Int)+4294967296=((a[d]+4294967296:Nat):Int) by omega,oc (show a[d]+4294967296<18446744073709551616 by omega),vd (by omega) (by omega),Aam (by omega),vf,wS (by omega)]
    exact next y (a[d]+4294967296 - y) 1 (by omega) (by omega) q (by omega)
   ·rw[F9 (by omega),cf,ct,x6 (by omega),ct,vd (by omega) (by omega),Aam (by omega),vf,wS (by omega)]
    exact next y (a[d] - y) 0 (by omega) (by omega) q (by omega)
  rw[Jd];unfold BU
  rw[Fn f,ct]
  by_cases k:d<b.length
  ·have n:b.getD d 0=b[d]:=by rw[Aee,Ad1 k];rfl
   rw[Fn k,ct,Ab k,ct,f8 k,oc (show b[d]<18446744073709551616 by omega),yE,oc (show c+b[d]<18446744073709551616 by omega)]
   exact second _ (by rw[n])
  ·have n:b.getD d 0=0:=by rw[Aee,Afo (by omega)];rfl
   rw[F9 (by omega),cf]
   exact second _ (by rw[n];rfl)
theorem u_ {N:Nat} {a b:List Nat} {n m:Nat} {t o t' o':Bool} {K:Nat→Bool→LA→O R} (hn:n=a.length) (l:m=b.length) (f:Cw a) (j:Cw b) (e:fit (a.length+b.length) N) :
  UW N (Bj a) n t o (Bj b) m t' o' K=if val b≤val a then K (C2 (val a - val b)).length true (Bj (C2 (val a - val b))) else K 0 false []:=by
 subst hn l
 have q:=e.1;have s:=e.2
 have la:=(Xp f).2
 have lb:=(Xp j).2
 rw[aV];unfold UV
 dsimp only
 rw[u9 rfl rfl f j e]
 by_cases d:val b≤val a
 ·have k:=Mi d
  rw[if_pos d,show decide (YC (val a) (val b)<0)=false by (unfold YC;rw[if_neg (by omega)];split<;>rfl),cf,Fw rfl f (e.le (by omega)),Fw rfl j (e.le (by omega)),Aa4 (by omega),ct,Zi]
  have:=kQ (R:=R) (N:=N) (a:=C2 (val a)) (b:=C2 (val b)) (Bw _) (Bw _) (e.le (by omega)) k (by rw[Dn,Dn];exact d) (C2 (val a)).length 0 N (replicate (C2 (val a)).length 0) 0 (by omega) (by omega) (Wi _) (by simp) (P' _) (by omega) (by rw[Ul];simp[val]) K
  rw[Dn,Dn] at this
  exact this
 ·rw[if_neg d,show decide (YC (val a) (val b)<0)=true by (unfold YC;rw[if_pos (by omega)];rfl),ct]
theorem iB {N:Nat}:∀ (k fuel n v:Nat),v<2 ^ k→k<fuel→n+k≤1000000000000→∃ b:Nat,b≤k∧v<2 ^ b∧(v≠0→2 ^ b≤2*v)∧(v=0→b=0)∧∀ K:Int→O R,Km N K fuel (n:Int) (v:Int)=K ((n+b:Nat):Int)
 | 0,fuel+1,n,v,e,_,_=>by
  have d:v=0:=by simpa using e
  subst d
  refine⟨0,by omega,by simp,fun h=>absurd rfl h,fun _=>rfl,fun K=>?_⟩
  rw[Km];unfold Sg
  rw[show decide (((0:Nat):Int)>0)=false by rfl,cf];rfl
 | k+1,fuel+1,n,v,e,q,hn=>by
  by_cases d:v=0
  ·subst d
   refine⟨0,by omega,by simp,fun h=>absurd rfl h,fun _=>rfl,fun K=>?_⟩
   rw[Km];unfold Sg
   rw[show decide (((0:Nat):Int)>0)=false by rfl,cf];rfl
  ·obtain⟨b,s,t,j,l,m⟩:=iB (N:=N) k fuel (n+1) (v/2) (by rw[Ae1] at e;omega) (by omega) (by omega)
   refine⟨b+1,by omega,by rw[Ae1];omega,fun _=>?_,fun h=>absurd h d,fun K=>?_⟩
   ·by_cases f:v/2=0
    ·rw[l f];simp;omega
    ·have:=j f;rw[Ae1];omega
   ·rw[Km];unfold Sg
    rw[show decide ((v:Int)>0)=true by rw[decide_eq_true_eq];omega,ct,wS (by omega),fF v 1,show v/2 ^ 1=v/2 by rfl,m]
    congr 2;omega
theorem sH {N:Nat} {a:List Nat} {n:Nat} {t o:Bool} (hn:n=a.length) (j:Cw a) (f:fit a.length N):∃ nb:Nat,nb≤32*a.length∧val a<2 ^ nb∧(val a≠0→2 ^ nb≤2*val a)∧(val a=0→nb=0)∧∀ K:Int→O R,LZ N (Bj a) n t o K=K (nb:Int):=by
 have z:=f.1;have A:=f.2
 have la:=(Xp j).2
 by_cases e:val a=0
 ·refine⟨0,by omega,by rw[e];simp,fun h=>absurd e h,fun _=>rfl,fun K=>?_⟩
  rw[HH];unfold EX
  rw[Fw hn j f,e,Nq];rfl
 ·have q:(C2 (val a)).length≠0:=fun h=>e (Ly.1 h)
  obtain⟨k,l⟩:∃ k,(C2 (val a)).length=k+1:=⟨(C2 (val a)).length - 1,by omega⟩
  have top:=ED (Bw (val a)) (show k<(C2 (val a)).length by omega)
  have d:(C2 (val a))[k]'(by omega)≠0:=by
   have:=v8 (val a) (QY e)
   rw[Ahi] at this
   simp only[l,Ah5] at this
   exact this
  have tf:=kM l
  have tl:=sG (Bw (val a)) l
  rw[Dn] at tf tl
  obtain⟨b,B,s,u,C,v⟩:=iB (R:=R) (N:=N) 32 N (32*k) ((C2 (val a))[k]'(by omega)) (by exact top) (by omega) (by omega)
  have m:(2:Nat) ^ (32*k+b)=4294967296 ^ k*2 ^ b:=by rw[Ahf,Aih]
  refine⟨32*k+b,by omega,?_,fun _=>?_,fun h=>absurd h e,fun K=>?_⟩
  ·rw[m]
   have:((C2 (val a))[k]'(by omega)+1)*4294967296 ^ k≤2 ^ b*4294967296 ^ k:=Aet _ s
   rw[Afu (2 ^ b)] at this;omega
  ·rw[m]
   have:=Ag8 (4294967296 ^ k) (u d)
   rw[Nat.mul_left_comm] at this
   omega
  ·rw[HH];unfold EX
   have x:wrap .i64 ((((C2 (val a)).length:Nat):Int) - 1)=(k:Int):=by rw[i64 (by omega)];omega
   have y:wrap .i64 ((32:Int)*(k:Int))=((32*k:Nat):Int):=by rw[i64 (by omega)];omega
   rw[Fw hn j f,yj q,cf,x,Ab (by omega),ct,f8 (by omega),y]
   exact v K
theorem qL {a:List Nat} {j:Nat} (h:j<a.length):val a=val (a.take j)+4294967296 ^ j*(a[j]+4294967296*val (a.drop (j+1))):=by
 have:=QX (a.take j) (a.drop j)
 rw[List.take_append_drop,Afc,Ae9 (by omega),wV h] at this
 exact this
theorem YF (j k:Nat):(2:Nat) ^ (32*j+k)=4294967296 ^ j*2 ^ k:=by rw[Ahf,Aih]
theorem xN {a:List Nat} {j k:Nat} (d:Cw a) (h:j<a.length) (m:k<32):val a/2 ^ (32*j+k)%2=a[j]/2 ^ k%2:=by
 have tl:=R2 (Tu d j)
 rw[Afc,Ae9 (by omega)] at tl
 have hP:0<4294967296 ^ j:=Ahz (by omega)
 have f:0<2 ^ k:=Ahz (by omega)
 rw[YF,←Aho,qL h,Ahy _ _ hP,Agb tl,Aec]
 have e:4294967296=2 ^ k*(2*2 ^ (31 - k)):=by rw[←Nat.pow_succ',←Ahf,show k+(31 - k+1)=32 by omega]
 have l:4294967296*val (a.drop (j+1))=2 ^ k*(2*(2 ^ (31 - k)*val (a.drop (j+1)))):=by
  rw[←Af8 2,←Af8,←e]
 rw[l,Ahy _ _ f,Nat.add_mul_mod_self_left]
theorem ua {N:Nat} {a:List Nat} {n:Nat} {t o:Bool} {i:Nat} {K:Int→O R} (hn:n=a.length) (j:Cw a) (hi:i<32*a.length) (hs:a.length≤1000000000):dR N (Bj a) n t o (i:Int) K=K ((val a/2 ^ i%2:Nat):Int):=by
 subst hn
 have d:i/32<a.length:=by omega
 have aj:=ED j d
 rw[aU];unfold ge
 have l:wrap .i64 (Int.tdiv (i:Int) 32)=((i/32:Nat):Int):=by rw[show(32:Int)=((32:Nat):Int) by rfl,wT,i64 (by omega)]
 have m:wrap .u64 (Int.tmod (i:Int) 32)=((i%32:Nat):Int):=by rw[show(32:Int)=((32:Nat):Int) by rfl,wU,oc (by omega)]
 rw[l,m,show decide (((i/32:Nat):Int)≥(a.length:Int))=false by rw[decide_eq_false_iff_not];omega,cf,Ab d,ct,yt d,show decide (((i%32:Nat):Int)<0)=false by rw[decide_eq_false_iff_not];omega,cf,Ad2,Ae9 (by omega),fF]
 have f:a[i/32]/2 ^ (i%32)<4294967296:=Afp (Ag4 _ _) aj
 have e:=rC (k:=.u32) rfl (a:=a[i/32]/2 ^ (i%32)) (b:=1) f (by decide)
 rw[show(1:Int)=((1:Nat):Int) by rfl,e,Nat.and_one_is_mod]
 have:=xN j d (k:=i%32) (by omega)
 rw[Af7] at this
 rw[this]
theorem wW {Q:List Nat} {j k:Nat} (hQ:Cw Q) (h:j<Q.length) (f:k<32) (d:2 ^ (32*j+k+1)∣val Q):2 ^ (k+1)∣Q[j]:=by
 have tl:=R2 (Tu hQ j)
 rw[Afc,Ae9 (by omega)] at tl
 have hP:0<4294967296 ^ j:=Ahz (by omega)
 rw[Afl,YF,qL h] at d
 have e:val (Q.take j)=0:=by
  have x1:4294967296 ^ j∣val (Q.take j):=(Nat.dvd_add_left (Ahe _ _)).1 (Nat.dvd_trans (Ahe _ _) d)
  exact Nat.eq_zero_of_dvd_of_lt x1 tl
 rw[e,Aec] at d
 have x2:=Nat.dvd_of_mul_dvd_mul_left hP d
 have x3:2 ^ (k+1)∣4294967296*val (Q.drop (j+1)):=Nat.dvd_trans ⟨2 ^ (31 - k),by rw[←Ahf,show k+1+(31 - k)=32 by omega]⟩ (Ahe _ _)
 exact(Nat.dvd_add_left x3).1 x2
theorem YG {N:Nat} {a b:List Nat} {t o:Bool} {B:Nat} (L:Cw a) (l:b=C2 B) (hB:0<B) (j:fit (a.length+2*b.length+4) N):∀ (i fuel:Nat) (Q:List Nat) (r:Nat),i<fuel→i≤32*a.length→Cw Q→Q.length=a.length→r=val a/2 ^ i%B→val Q=val a/2 ^ i/B*2 ^ i →
  ∀ K:Nat→Nat→Bool→LA→LA→O R,F8 N K (Bj a) a.length t o b.length (Bj b) fuel (C2 r).length ((i:Int) - 1) (Bj Q) (Bj (C2 r))=K (C2 (val a/B)).length (C2 (val a%B)).length true (Bj (C2 (val a/B))) (Bj (C2 (val a%B)))
 | 0,fuel+1,Q,r,_,_,hQ,z,hr,q=>by
  intro K
  rw[Nat.pow_zero,Nat.div_one] at hr q
  rw[Aeh] at q
  have lr:(C2 r).length≤b.length:=by
   rw[l];apply Mi;rw[hr];exact Nat.le_of_lt (Ago _ hB)
  rw[F8];unfold Sh
  rw[show decide ((((0:Nat):Int) - 1)≥0)=false by rfl,cf,Aeh,Ad0 (by rw[G8];omega),Fw z.symm hQ (by rw[z];exact j.le (by omega)),Aeh,Ad0 (by rw[G8];omega),Fw rfl (Bw _) (j.le (by omega)),Dn,q,hr]
 | i+1,fuel+1,Q,r,Y,hi,hQ,z,hr,q=>by
  intro K
  have h1:=j.1;have h2:=j.2
  have hrB:r<B:=by rw[hr];exact Ago _ hB
  have lr:(C2 r).length≤b.length:=by rw[l];exact Mi (Nat.le_of_lt hrB)
  have f:val a/2 ^ i=2*(val a/2 ^ (i+1))+val a/2 ^ i%2:=by
   have:=Af7 (val a/2 ^ i) 2
   rw[Aho,←Ae1] at this
   exact this.symm
  have M:=Af7 (val a/2 ^ (i+1)) B
  have hb2:val a/2 ^ i%2<2:=Ago _ (by omega)
  generalize hH:val a/2 ^ (i+1)=H at *
  generalize A:val a/2 ^ i%2=bt at *
  have d:val a/2 ^ i=B*(2*(H/B))+(2*r+bt):=by
   rw[f,hr,Nat.mul_left_comm];omega
  clear hr M f
  have C:i/32<Q.length:=by omega
  have qj:=ED hQ C
  have D:2 ^ (32*(i/32)+i%32+1)∣val Q:=by rw[Af7,q];exact Nat.dvd_mul_left _ _
  have s:=wW hQ C (Ago _ (by omega)) D
  have S:2 ^ i=4294967296 ^ (i/32)*2 ^ (i%32):=by rw[←YF,Af7]
  have F:2 ^ (i%32+1)≤4294967296:=(Afq (by omega) (show i%32+1≤32 by omega):2 ^ (i%32+1)≤2 ^ 32)
  have G:fB .u32 ((Q[i/32]:Nat):Int) (wrap .u32 ((1:Int)*2 ^ (min (Int.toNat ((i%32:Nat):Int)) 32)))=((Q[i/32]+2 ^ (i%32):Nat):Int)∧Q[i/32]+2 ^ (i%32)<4294967296:=by
   obtain⟨c,T⟩:=s
   have V:0<2 ^ (i%32):=Ahz (by omega)
   have U:Q[i/32]+2 ^ (i%32)<4294967296:=by
    obtain⟨w,X⟩:∃ w,4294967296=2 ^ (i%32+1)*w:=⟨2 ^ (31 - i%32),by rw[←Ahf,show i%32+1+(31 - i%32)=32 by omega]⟩
    have x1:c<w:=by rw[T,X] at qj;exact Nat.lt_of_mul_lt_mul_left qj
    have x2:=Ag8 (2 ^ (i%32+1)) (show c+1≤w from x1)
    rw[Af5,←X,←T,Aeh,Ae1] at x2
    omega
   refine⟨?_,U⟩
   rw[Ad2,Ae9 (by omega),Int.one_mul,show(2:Int) ^ (i%32)=((2 ^ (i%32):Nat):Int) by simp,Aam (by rw[Ae1] at F;omega),je (k:=.u32) rfl qj (by show 2 ^ (i%32)<4294967296;rw[Ae1] at F;omega)]
   congr 1
   have e:Q[i/32]=c*2 ^ (i%32+1):=by rw[T,Afu]
   rw[e];exact ve (by rw[Ae1];omega)
  have w1:wrap .i64 (Int.tdiv (i:Int) 32)=((i/32:Nat):Int):=by rw[show(32:Int)=((32:Nat):Int) by rfl,wT,i64 (by omega)]
  have w2:wrap .u64 (Int.tmod (i:Int) 32)=((i%32:Nat):Int):=by rw[show(32:Int)=((32:Nat):Int) by rfl,wU,oc (by omega)]
  have l2:(C2 (2*r+bt)).length≤b.length+1:=by
   apply f7
   have x1:=R2 (Bw B)
   rw[Dn,←l] at x1
   rw[Ae1];omega
  have second:Ml N (F8 N K (Bj a) a.length t o b.length (Bj b) fuel) K (Bj a) a.length t o b.length (i:Int) (Bj b) (Bj Q) (C2 (2*r+bt)).length (Bj (C2 (2*r+bt)))=K (C2 (val a/B)).length (C2 (val a%B)).length true (Bj (C2 (val a/B))) (Bj (C2 (val a%B))):=by
   unfold Ml
   have lb:Cw b:=by rw[l];exact Bw _
   have vb:val b=B:=by rw[l,Dn]
   rw[Aeh,Aeh,Ad0 (by rw[G8];omega),Ad0 (by rw[G8];omega),u_ rfl rfl (Bw _) lb (j.le (by omega)),Dn,vb]
   by_cases I:B≤2*r+bt
   ·have u:val a/2 ^ i/B=2*(H/B)+1:=by
     rw[d,show B*(2*(H/B))+(2*r+bt)=B*(2*(H/B)+1)+(2*r+bt - B) by rw[Af5];omega,Nat.mul_add_div hB,Agb (show 2*r+bt - B<B by omega),Afh]
    have y:val a/2 ^ i%B=2*r+bt - B:=by
     rw[d,show B*(2*(H/B))+(2*r+bt)=B*(2*(H/B)+1)+(2*r+bt - B) by rw[Af5];omega,Nat.mul_add_mod,Ae7 (by omega)]
    rw[if_pos I,ct,w1,w2,Ab (by omega),ct,f8 C,show decide (((i%32:Nat):Int)<0)=false by rw[decide_eq_false_iff_not];omega,cf,ct,x6 C,ct,G.1,vf,i64 (by omega)]
    refine YG L l hB j i fuel (Q.set (i/32) (Q[i/32]+2 ^ (i%32))) (2*r+bt - B) (by omega) (by omega) (WW hQ G.2 _) (by simpa using z) y.symm ?_ K
    have x1:=nA (v:=Q[i/32]+2 ^ (i%32)) C
    rw[Af5,←S] at x1
    rw[u,Afn,Aig,Afu 2,Af8,Afu 2,←Ae1,←q]
    omega
   ·have u:val a/2 ^ i/B=2*(H/B):=by rw[d,Nat.mul_add_div hB,Agb (show 2*r+bt<B by omega),Afh]
    have y:val a/2 ^ i%B=2*r+bt:=by rw[d,Nat.mul_add_mod,Ae7 (by omega)]
    rw[if_neg I,cf,i64 (by omega)]
    refine YG L l hB j i fuel Q (2*r+bt) (by omega) (by omega) hQ z y.symm ?_ K
    rw[u,Afu 2,Af8,Afu 2,←Ae1,←q]
  rw[F8];unfold Sh
  rw[show(((i+1:Nat):Int) - 1)=(i:Int) by omega,show decide ((i:Int)≥0)=true by rw[decide_eq_true_eq];omega,ct,Aeh,Ad0 (by rw[G8];omega),kP rfl rfl (Bw _) (Bw _) (j.le (by omega)),Dn,ua rfl L (by omega) (by omega),A]
  have l3:(C2 (r+r)).length≤b.length+1:=by
   apply f7
   have x1:=R2 (Bw B)
   rw[Dn,←l] at x1
   rw[Ae1];omega
  rcases(show bt=0∨bt=1 by omega) with rfl | rfl
  ·rw[show(((0:Nat):Int)==1)=false by rfl,cf]
   rw[show 2*r+0=r+r by omega] at second
   exact second
  ·rw[show(((1:Nat):Int)==1)=true by rfl,ct,Aeh,Ad0 (by rw[G8];omega)]
   have:=kP (R:=R) (N:=N) (a:=C2 (r+r)) (b:=[1]) (n:=(C2 (r+r)).length) (m:=1) (t:=false) (o:=true) (t':=false) (o':=true) (K:=fun af ag=>Ml N (F8 N K (Bj a) a.length t o b.length (Bj b) fuel) K (Bj a) a.length t o b.length (i:Int) (Bj b) (Bj Q) af ag) rfl rfl (Bw _) (by intro x hx;simp at hx;omega) (j.le (by simp;omega))
   rw[Dn,show val [1]=1 by rfl,show r+r+1=2*r+1 by omega] at this
   exact this.trans second
theorem nD {N:Nat} {a b:List Nat} {n m:Nat} {t o t' o':Bool} {K:Nat→Nat→Bool→LA→LA→O R} (hn:n=a.length) (x:m=b.length) (l:Cw a) (u:Cw b) (j:val b≠0) (f:fit (a.length+2*b.length+4) N) :
  Qt N (Bj a) n t o (Bj b) m t' o' K=K (C2 (val a/val b)).length (C2 (val a%val b)).length true (Bj (C2 (val a/val b))) (Bj (C2 (val a%val b))):=by
 have y:=f.1;have z:=f.2
 have lb:=(Xp u).2
 have q:(C2 (val b)).length≠0:=fun h=>j (Ly.1 h)
 rw[MA];unfold BV
 dsimp only
 have long:P0 N K (Bj a) n t o (C2 (val b)).length (Bj (C2 (val b)))=K (C2 (val a/val b)).length (C2 (val a%val b)).length true (Bj (C2 (val a/val b))) (Bj (C2 (val a%val b))):=by
  obtain⟨nb,n1,n2,n3,n4,n5⟩:=sH (R:=R) (N:=N) (a:=a) (n:=n) (t:=false) (o:=o) hn l (f.le (by omega))
  unfold P0 Z6
  rw[n5,hn,Aa4 (by omega),ct,Zi,i64 (by omega)]
  have v:val a/2 ^ nb=0:=Agb n2
  have:=YG (R:=R) (N:=N) (a:=a) (b:=C2 (val b)) (t:=t) (o:=o) (B:=val b) l rfl (by omega) (f.le (by omega)) nb N (replicate a.length 0) 0 (by omega) n1 (Wi _) (by simp) (by rw[v];simp) (by rw[v,Ul];simp) K
  exact this
 rw[Fw x u (f.le (by omega)),yj q,cf,Yj hn l (f.le (by omega)),Aeh,Ad0 (by rw[G8];exact Ad4 _)]
 by_cases e:val a<18446744073709551616
 ·rw[if_pos e,Yj rfl (Bw _) (f.le (by omega)),Dn]
  by_cases d:val b<18446744073709551616
  ·have k:val a/val b<18446744073709551616:=Afp (Ag4 _ _) e
   have s:val a%val b<18446744073709551616:=Afp (Nat.mod_le _ _) e
   rw[if_pos d,show((true:Bool)==true)=true by rfl,ct,Aan,ct,yj j,cf,wT,oc k,CB k (by omega),cf,wU,CB s (by omega)]
  ·rw[if_neg d,show((true:Bool)==true)=true by rfl,ct,Aan,cf,long]
 ·rw[if_neg e,Yj rfl (Bw _) (f.le (by omega)),Dn]
  by_cases d:val b<18446744073709551616
  ·rw[if_pos d,show((false:Bool)==true)=false by rfl,cf,long]
  ·rw[if_neg d,show((false:Bool)==true)=false by rfl,cf,long]
inductive LS where
 | nil
 | of (l:List Nat) (t o:Bool)
def LS.l:LS→List Nat
 | .nil=>[]
 | .of l _ _=>l
def LS.av:LS→AV
 | .nil=>.nsl
 | .of l t o=>.imm (Bj l) l.length 1 t o
theorem yY {s:LS} {r:LA} {f:LA→Nat→O R}:A6 1 (s.av::r) f=f (Bj s.l) s.l.length:=by
 cases s<;>simp[A6,LS.av,LS.l,uj,Bj]
theorem zy {b:Bool} {r:LA} {f:Bool→O R}:qS (.bool b::r) f=f b:=by simp[qS,asBool]
def sI (neg:Bool) (s:LS):LA:=[.bool neg,s.av]
def yZ (neg:Bool) (s:LS):Int:=if neg then -(val s.l:Int) else (val s.l:Int)
theorem Aaa {neg:Bool} {s:LS} {f:Bool→O R}:qS (sI neg s) f=f neg:=zy
theorem Aab {neg:Bool} {s:LS} {f:LA→Nat→O R}:A6 1 (drop 1 (sI neg s)) f=f (Bj s.l) s.l.length:=by rw[sI,Afm,Aeg,yY]
theorem ud {z:Int} {c:Bool} {m:Nat} (h:z=if c then -(m:Int) else (m:Int)):(c&&decide (0<(C2 m).length))=decide (z<0)∧z.natAbs=m:=by
 have f:z.natAbs=m:=by rw[h];cases c<;>simp
 refine⟨?_,f⟩
 by_cases e:m=0
 ·subst e;rw[h,Nq];cases c<;>simp
 ·have:0<(C2 m).length:=by
   rcases Age (C2 m).length with d | d
   ·exact absurd (Ly.1 d) e
   ·exact d
  rw[h];cases c<;>simp[this]<;>omega
theorem wX {v:Nat} {S:List Nat} (d:Cw S) (e:val S=v):take ((C2 v).length*1) (Bj S)=Bj (C2 v):=by rw[←e,uD d]
theorem xO {z:Int} {t o:Bool}:yZ (decide (z<0)) (.of (C2 z.natAbs) t o)=z:=by
 unfold yZ LS.l;rw[Dn]
 by_cases h:z<0
 ·rw[if_pos (by simpa using h)];omega
 ·rw[if_neg (by simpa using h)];omega
theorem wY {k l:Nat} (h:k≤l):4294967296 ^ k≤4294967296 ^ l:=Afq (by omega) h
theorem y3 {v k:Nat} (h:(C2 v).length≤k):v<4294967296 ^ k:=by
 have:=R2 (Bw v);rw[Dn] at this
 exact Afj this (wY h)
def HT (z:Int):LA:=sI (decide (z<0)) (.of (C2 z.natAbs) false false)
theorem wZ (z:Int) (K:LA→O R):(cond ((beq 0 0)&&((beq (List.length (HT z)) 2)&&(beq 2 2))) (cond (ble 2 (List.length (HT z))) (K (take 2 (HT z))) none) none)=K (HT z):=rfl
theorem Ach (z w:Int):setCells (HT z) 0 (HT w)=HT w:=rfl
theorem Adq (z:Int):take 2 (HT z)=HT z:=rfl
theorem Aci (z:Int):ble 2 (List.length (HT z))=true:=rfl
theorem Aac (v:Nat):take ((C2 v).length*1) (Bj (C2 v))=Bj (C2 v):=wX (Bw _) (Dn v)
theorem RW {N:Nat} {neg:Bool} {l:List Nat} {n:Nat} {t o:Bool} {K:LA→O R} (hn:n=l.length) (d:Cw l) (e:fit l.length N):EW N neg (Bj l) n t o K=K (HT (if neg then -(val l:Int) else (val l:Int))):=by
 obtain⟨c1,f⟩:=ud (z:=if neg then -(val l:Int) else (val l:Int)) (c:=neg) (m:=val l) rfl
 rw[UO];unfold XP
 rw[Fw hn d e,Aac]
 unfold HT
 rw[←c1,f]
 cases neg
 ·rfl
 ·rw[show((true:Bool)==true)=true by rfl,ct,Aan];simp[sI,LS.av]
theorem jR {N:Nat} {v:Int} {K:LA→O R} (f:-9223372036854775808≤v∧v≤9223372036854775807) (hN:2000≤N):V2 N v K=K (HT v):=by
 have d:v.natAbs<18446744073709551616:=by omega
 have j:=nC d
 rw[IR];unfold HG
 by_cases h:v<0
 ·have e:wrap .u64 (wrap .u64 (wrap .i64 ((0:Int) - wrap .i64 (v+1)))+1)=(v.natAbs:Int):=by
   rw[i64 (a:=v+1) (by omega),i64 (by omega),wq,wq];omega
  rw[decide_eq_true h,ct,e,CB d (by omega),Aac,RW rfl (Bw _) ⟨by omega,by omega⟩,Dn]
  have:(if true=true then -(v.natAbs:Int) else (v.natAbs:Int))=v:=by rw[if_pos rfl];omega
  rw[this];exact wZ _ _
 ·have e:wrap .u64 v=(v.natAbs:Int):=by rw[wq];omega
  rw[decide_eq_false h,cf,e,CB d (by omega),Aac,RW rfl (Bw _) ⟨by omega,by omega⟩,Dn]
  have:(if false=true then -(v.natAbs:Int) else (v.natAbs:Int))=v:=by rw[if_neg (by decide)];omega
  rw[this];exact wZ _ _
theorem sJ {N:Nat} {n:Bool} {s:LS} {o:Bool} {K:LA→O R} (hs:Cw s.l) (d:fit s.l.length N):UP N (sI n s) o K=K (HT (yZ n s)):=by
 rw[UQ];unfold XQ
 rw[Aaa,Aab,RW rfl hs d];exact wZ _ _
end
end Gx
namespace Gx
open Go
def iC (c:UInt8):Bool:=decide (48≤c.toNat)&&decide (c.toNat≤57)
def MN (s:Lu):Nat:=s.foldl (fun a c=>10*a+(c.toNat - 48)) 0
abbrev dec:=Lib.decDigits
theorem ue (s:Lu):∀ a,s.foldl (fun a c=>10*a+(c.toNat - 48)) a=a*10 ^ s.length+MN s:=by
 unfold MN
 induction s with
 | nil=>intro a;simp
 | cons c r d =>
  intro a
  rw[Aeq,Aeq,d,d (10*0+_),Adx,Ae1,Afn,Afn]
  have:10*a*10 ^ r.length=a*(10 ^ r.length*10):=by rw[Afu 10 a,Af8,Afu 10]
  rw[this];omega
theorem bD (a b:Lu):MN (a++b)=MN a*10 ^ b.length+MN b:=by
 have:=ue b (MN a)
 unfold MN at *
 rw[Ae0];exact this
theorem uf (a:Lu) (c:UInt8):MN (a++[c])=10*MN a+(c.toNat - 48):=by rw[bD];simp[MN];omega
theorem kR (c:UInt8) (r:Lu):MN (c::r)=(c.toNat - 48)*10 ^ r.length+MN r:=by
 have:=bD [c] r
 simpa[MN] using this
theorem xP {s:Lu} (h:s.all iC=true):MN s<10 ^ s.length:=by
 induction s with
 | nil=>simp[MN]
 | cons c r d =>
  simp only[Aek,Ad3] at h
  have e:=d h.2
  have f:c.toNat≤57:=by have:=h.1;simp[iC] at this;omega
  rw[kR,Adx,Ae1]
  have:(c.toNat - 48)*10 ^ r.length≤9*10 ^ r.length:=Aet _ (by omega)
  omega
theorem T5 {u:Nat} (h:u<10):dec u=[UInt8.ofNat (48+u)]:=by rw[dec,Lib.decDigits,dif_pos h]
theorem HU {u:Nat} (h:10≤u):dec u=dec (u/10)++[UInt8.ofNat (48+u%10)]:=by
 rw[dec,Lib.decDigits,dif_neg (by omega)]
theorem NO {k:Nat} (h:k<10):iC (UInt8.ofNat (48+k))=true∧(UInt8.ofNat (48+k)).toNat=48+k:=by
 have:(UInt8.ofNat (48+k)).toNat=48+k:=by simp;omega
 exact⟨by simp[iC,this];omega,this⟩
theorem qM:∀ u,(dec u).all iC=true:=by
 intro u
 induction u using Nat.strongRecOn with
 | ind u d =>
  by_cases h:u<10
  ·rw[T5 h];simpa using(NO h).1
  ·rw[HU (by omega),List.all_append,d (u/10) (by omega)]
   simpa using(NO (k:=u%10) (by omega)).1
theorem sK (u:Nat):dec u≠[]:=by
 by_cases h:u<10
 ·rw[T5 h];simp
 ·rw[HU (by omega)];simp
theorem qN:∀ u,MN (dec u)=u:=by
 intro u
 induction u using Nat.strongRecOn with
 | ind u d =>
  by_cases h:u<10
  ·rw[T5 h];simp only[MN,Aeq,Afx,(NO h).2];omega
  ·rw[HU (by omega),uf,d (u/10) (by omega),(NO (k:=u%10) (by omega)).2];omega
theorem w8:∀ u,0<u→(dec u).head?≠some 48:=by
 intro u
 induction u using Nat.strongRecOn with
 | ind u f =>
  intro j
  by_cases h:u<10
  ·rw[T5 h]
   intro e
   simp at e
   have:=congrArg UInt8.toNat e
   simp at this;omega
  ·rw[HU (by omega)]
   have:=f (u/10) (by omega) (by omega)
   cases d:dec (u/10) with
   | nil=>exact absurd d (sK _)
   | cons c r=>rw[d] at this;simpa using this
theorem xQ {u k:Nat} (t:0<k):(dec u).length≤k↔u<10 ^ k:=by
 constructor
 ·intro h
  have:=xP (qM u)
  rw[qN] at this
  exact Afj this (Afq (by omega) h)
 ·intro h
  apply Classical.byContradiction
  intro hn
  have d:k<(dec u).length:=by omega
  have m:0<u:=by
   rcases Age u with e | e
   ·subst e;rw[T5 (by omega)] at d;simp at d;omega
   ·exact e
  have l:=w8 u m
  cases f:dec u with
  | nil=>exact sK u f
  | cons c r =>
   rw[f] at l d
   have n:iC c=true:=by have:=qM u;rw[f] at this;simp at this;exact this.1
   have j:c≠48:=by simpa using l
   have q:1≤c.toNat - 48:=by
    simp[iC] at n
    have:c.toNat≠48:=fun e=>j (UInt8.toNat_inj.1 (by simpa using e))
    omega
   have s:=qN u
   rw[f,kR] at s
   simp at d
   have v:10 ^ k≤10 ^ r.length:=Afq (by omega) (by omega)
   have x:1*10 ^ r.length≤(c.toNat - 48)*10 ^ r.length:=Aet _ q
   omega
end Gx
namespace Gx
open Go Go.Proofs
section
variable {R:Type}
theorem Acj (z:Int):((beq (List.length (HT z)) 2)&&(true&&(!false)))=true:=rfl
theorem Adr (z:Int) (f:Bool→O R):qS (HT z) f=f (decide (z<0)):=Aaa
theorem Ac3 (z:Int) (f:LA→Nat→O R):A6 1 (drop 1 (HT z)) f=f (Bj (C2 z.natAbs)) (C2 z.natAbs).length:=Aab
theorem xn (z:Int):HT z=sI (decide (z<0)) (.of (C2 z.natAbs) false false):=rfl
theorem w9 (v:Nat) (a b:Bool):Cw (LS.of (C2 v) a b).l:=Bw v
theorem sL {v k:Nat} (h:v<10 ^ k):(dec v).length≤k+1:=by
 have:=(xQ (u:=v) (k:=k+1) (by omega)).2 (Afj h (Afq (by omega) (by omega)))
 exact this
theorem xR (k:Nat):4294967296 ^ k≤10 ^ (10*k):=by
 rw[Aih];exact Nat.pow_le_pow_left (by decide) _
theorem iD (v:Nat):(dec v).length≤10*(C2 v).length+1:=sL (Afj (y3 (Ad4 _)) (xR _))
def y5 (z:Int) (s:Lu):Lu:=if z<0 then 45::s else s
theorem y7 {a b:Nat} (h:a≤b):ble a b=true:=by simpa using h
def xS (z:Int):Lu:=y5 z (dec z.natAbs)
theorem iE {v:Nat} (d:v<10):(take ((wrap .u64 ((v:Int)+1)).toNat - (v:Int).toNat) (drop (v:Int).toNat ([48,49,50,51,52,53,54,55,56,57]:Lu)))=[UInt8.ofNat (48+v)]:=by
 rw[show(v:Int)+1=((v+1:Nat):Int) by omega,oc (by omega),Ad2,Ad2]
 rcases v with _ | _ | _ | _ | _ | _ | _ | _ | _ | _ | v<;>first | rfl | omega
theorem qO {v:Nat} (d:v<10):((decide (0≤(v:Int)))&&((decide ((v:Int)≤(wrap .u64 ((v:Int)+1))))&&((decide ((wrap .u64 ((v:Int)+1))≤10))&&(decide ((10:Int)≤(10:Int))))))=true:=by
 rw[show(v:Int)+1=((v+1:Nat):Int) by omega,oc (by omega)]
 simp;omega
theorem Aad {N v:Nat} {t o:Bool} {K:Nat→Nat→Bool→LA→LA→O R} (d:fit ((C2 v).length+6) N):Qt N (Bj (C2 v)) (C2 v).length t o [(.int .u32 10)] 1 false true K=K (C2 (v/10)).length (C2 (v%10)).length true (Bj (C2 (v/10))) (Bj (C2 (v%10))):=by
 have:=nD (R:=R) (N:=N) (a:=C2 v) (b:=[10]) (t:=t) (o:=o) (t':=false) (o':=true) (K:=K) rfl rfl (Bw _) (by intro x hx;simp at hx;omega) (by decide) (d.le (by simp))
 rw[Dn] at this
 exact this
theorem w_ {N v:Nat} {K:Int→Bool→O R} (e:v<10) (d:fit 1 N):Lm N (take ((C2 v).length*1) (Bj (C2 v))) (C2 v).length false true K=K (v:Int) true:=by
 have:(C2 v).length≤1:=f7 (by omega)
 rw[Aac,Yj rfl (Bw _) (d.le (by omega)),Dn,if_pos (by omega)]
theorem nE {N:Nat} {l:LA} {c:Nat} {e d:Bool} {K:Lu→O R}:∀ (fuel v:Nat) (f:Lu),0<v→(dec v).length≤fuel→(dec v).length+f.length≤100000000000→fit ((C2 v).length+6) N→P1 N K l c e d fuel (C2 v).length f (Bj (C2 v))=K (dec v++f):=by
 intro fuel
 induction fuel with
 | zero=>intro v f _ h;exact absurd (Agv.1 (by omega)) (sK v)
 | succ fuel m =>
  intro v f t n q j
  have k:v%10<10:=Ago _ (by omega)
  have hs:(([UInt8.ofNat (48+v%10)]:Lu).length)=1:=rfl
  rw[P1];unfold Z7
  rw[Aac,Aad j,w_ k (j.le (by omega)),qO k,ct,iE k,y7 (by rw[hs];omega),ct]
  by_cases h:v<10
  ·rw[Agb h,Nq,show(((([]:List Nat).length:Nat):Int)==0)=true by rfl,ct,T5 h,Ae7 h]
  ·have s:0<v/10:=Nat.div_pos (by omega) (by omega)
   rw[yj (fun e=>by have:=Ly.1 e;omega),cf]
   rw[HU (by omega),Adw,Aer] at n q
   rw[m (v/10) _ s (by omega) (by rw[Adw,hs];omega) (j.le (by have:=Mi (Ag4 v 10);omega)),HU (u:=v) (by omega),Aea]
theorem VG {N v:Nat} {e d:Bool} {K:Lu→O R} (f:fit ((C2 v).length+6) N):T3 N (Bj (C2 v)) (C2 v).length e d K=K (dec v):=by
 have q:=f.1;have s:=f.2
 have t:=iD v
 rw[MB];unfold BW
 obtain⟨n,rfl⟩:∃ n,N=n+1:=⟨N - 1,by omega⟩
 have j:v%10<10:=Ago _ (by omega)
 have hs:(([UInt8.ofNat (48+v%10)]:Lu).length)=1:=rfl
 rw[P2];unfold Z8
 rw[Aad f,w_ j (f.le (by omega)),qO j,ct,iE j,y7 (by rw[hs];omega),ct]
 by_cases h:v<10
 ·rw[Agb h,Nq,show(((([]:List Nat).length:Nat):Int)==0)=true by rfl,ct,T5 h,Ae7 h];rfl
 ·have k:0<v/10:=Nat.div_pos (by omega) (by omega)
  have l:=iD (v/10)
  have m:=Mi (Ag4 v 10)
  rw[yj (fun e=>by have:=Ly.1 e;omega),cf,Aej]
  exact(nE (R:=R) n (v/10) _ k (by omega) (by rw[hs];omega) (f.le (by omega))).trans (by rw[HU (u:=v) (by omega)])
theorem wa {N:Nat} {z:Int} {u:Bool} {K:Lu→O R} (d:fit ((C2 z.natAbs).length+6) N):P3 N (HT z) u K=K (xS z):=by
 have e:=d.2
 have f:=iD z.natAbs
 rw[BX];unfold Z9
 rw[Aci,ct,Adq,xn,sJ (w9 _ _ _) (d.le (by show(C2 z.natAbs).length≤_;omega)),xO,←xn,Acj,ct,Ach,Adr]
 unfold xS y5
 by_cases h:z<0
 ·rw[decide_eq_true h,ct,Ac3,VG d,y7 (by omega),ct,if_pos h];rfl
 ·rw[decide_eq_false h,cf,Ac3,VG d,if_neg h]
end
end Gx
namespace Gx.Ct
open Go Go.Proofs Gx.Cf
theorem qP:Bp:=fun z h=>Afi (Lib.itoa_length_le z h.1 h.2) (by decide)
theorem xT (z:Int):tx z=xS z:=by
 unfold tx Lib.itoa xS y5
 by_cases d:z<0
 ·rw[if_pos d,if_pos d]
 ·rw[if_neg d,if_neg d];unfold dec
  first | rfl | (rw[show z.toNat=z.natAbs by omega])
theorem wb (u:Nat):Lib.decDigits u≠[]∧(Lib.decDigits u).getLast?≠some 10:=by
 have d:(Lib.decDigits u).length≠0:=by rw[Lib.decDigits_length];rw[Lib.nDigits];split<;>omega
 refine⟨fun e=>d (by rw[e];rfl),fun e=>?_⟩
 rw[Lib.decDigits] at e
 split at e
 ·simp at e
  rename_i h
  have:u=0∨u=1∨u=2∨u=3∨u=4∨u=5∨u=6∨u=7∨u=8∨u=9:=by omega
  rcases this with rfl | rfl | rfl | rfl | rfl | rfl | rfl | rfl | rfl | rfl<;>revert e<;>decide
 ·rw[Ag0] at e
  simp at e
  generalize f:u%10=v at e
  have:v=0∨v=1∨v=2∨v=3∨v=4∨v=5∨v=6∨v=7∨v=8∨v=9:=by omega
  rcases this with rfl | rfl | rfl | rfl | rfl | rfl | rfl | rfl | rfl | rfl<;>revert e<;>decide
theorem Aae (z:Int):i8 (tx z):=by
 unfold tx Lib.itoa
 split
 ·obtain⟨d,e⟩:=wb z.natAbs
  refine⟨by simp,?_⟩
  rw[show(45::Lib.decDigits z.natAbs)=[45]++Lib.decDigits z.natAbs from rfl,Vm d]
  exact e
 ·exact wb _
theorem Aaf {R:Type} {N:Nat} (hN:1000000000<N):FI R N:=fun z d K=>by
 rw[jR d (by omega),wa,xT]
 have:=nC (v:=z.natAbs) (by unfold Rh at d;omega)
 exact⟨by omega,by omega⟩
theorem G5 {lo hi v:Int} (h:Fa lo hi v=true) (d:-1000000000000000000≤lo) (e:hi≤1000000000000000000):Rh v:=by
 unfold Fa at h;simp only[Ad3,decide_eq_true_eq] at h;unfold Rh;omega
theorem Xc {v:Int} (h:-1000000000000000000≤v∧v≤1000000000000000000):Rh v:=by unfold Rh;omega
theorem iF {f:FracD} (h:No f=true):Rh f.num∧Rh f.den:=by
 unfold No at h;simp only[Ad3] at h
 exact⟨G5 h.2 (by decide) (by decide),G5 h.1 (by decide) (by decide)⟩
theorem uh {c:CaseD} (g:LX c):CaseI c∧ListsOk c:=by
 obtain⟨H,res,bs,ls,us,ss,ts,os,b,og,t,rfl⟩:=g
 have h:=b.h;have bl:=b.bl;have ll:=b.ll;have ul:=b.ul;have sl:=b.sl;have tl:=b.tl;have ol:=og.l
 refine⟨⟨Xc (by simp only[OI];omega),⟨fun z d=>Xc (by have:=b.rr z d;omega),by have:=b.rl;simp only[OI,Sl.l];omega⟩,fun x hx=>?_,fun x hx=>?_,fun x hx=>?_,fun x hx=>?_,fun x hx=>?_,fun x hx=>?_⟩,
  ⟨by simp only[OI,Sl.l];omega,by simp only[OI,Sl.l];omega,by simp only[OI,Sl.l];omega,by simp only[OI,Sl.l];omega,by simp only[OI,Sl.l];omega,by simp only[OI,Sl.l];omega⟩⟩
 all_goals simp only[OI,Sl.l] at hx
 ·obtain⟨i,hi,rfl⟩:=Aep hx
  have g:=b.bg i hi
  exact⟨⟨fun z d=>Xc (by have:=g.dr z d;omega),by have:=g.dl;omega⟩,Xc (by have:=g.shed;omega)⟩
 ·obtain⟨i,hi,rfl⟩:=Aep hx
  have g:=(b.lg i hi).g
  have f:=g.re;have j:=g.smin;have e:=g.smax;have n:=g.lim;have k:=g.em
  simp only[Ad3] at f j e
  refine⟨iF f.1,iF j.1,iF e.1,⟨G5 n (by decide) (by decide),?_⟩,fun z d=>Xc (by have:=g.awr z d;omega),by have:=g.aw;omega⟩
  unfold Fa at n k
  simp only[Ad3,decide_eq_true_eq] at n k
  exact Xc (by omega)
 ·obtain⟨i,hi,rfl⟩:=Aep hx
  have g:=b.ug i hi
  have so:=Ae3.1 g.sok
  refine⟨?_,⟨fun s hs=>?_,by have:=g.sl;omega⟩,fun z d=>Xc (by have:=g.awr z d;omega),by have:=g.aw;omega⟩
  ·have f:=g.min;have j:=g.max;have e:=g.startRamp;have n:=g.stopRamp;have k:=g.output
   unfold Fa at f j e n k
   simp only[Ad3,decide_eq_true_eq] at f j e n k
   intro z d
   simp only[Ad6,Aei,or_false] at d
   rcases d with rfl | rfl | rfl | rfl | rfl | rfl | rfl | rfl | rfl | rfl | rfl | rfl | rfl | rfl | rfl | rfl | rfl
   ·exact Xc (by omega)
   ·exact Xc (by omega)
   ·exact G5 g.noLoad (by decide) (by decide)
   ·exact G5 g.rampUp (by decide) (by decide)
   ·exact G5 g.rampDown (by decide) (by decide)
   ·exact Xc (by omega)
   ·exact Xc (by omega)
   ·exact G5 g.upTime (by decide) (by decide)
   ·exact G5 g.downTime (by decide) (by decide)
   ·exact G5 g.startTime (by decide) (by decide)
   ·exact G5 g.hotCost (by decide) (by decide)
   ·exact G5 g.coldCost (by decide) (by decide)
   ·exact G5 g.hotHours (by decide) (by decide)
   ·exact G5 g.reserve (by decide) (by decide)
   ·exact G5 g.reservePrice (by decide) (by decide)
   ·exact G5 g.hours (by decide) (by decide)
   ·refine Xc ?_
    cases hs:us[i].state==2<;>rw[hs] at k<;>simp at k<;>omega
  ·have:=so s hs
   unfold ZP at this
   simp only[Ad3] at this
   exact⟨G5 this.1 (by decide) (by decide),G5 this.2 (by decide) (by decide)⟩
 ·have g:=b.sg x hx
  have f:=g.cap;have j:=g.ini;have e:=g.fin;have n:=g.ch;have k:=g.dis;have u:=g.eff
  refine⟨fun z d=>?_⟩
  simp only[Ad6,Aei,or_false] at d
  rcases d with rfl | rfl | rfl | rfl | rfl | rfl | rfl<;>exact Xc (by omega)
 ·have g:=b.tg x hx
  have f:=g.il;have j:=g.el;have e:=g.pl
  exact⟨⟨fun z d=>Xc (by have:=g.ir z d;omega),by omega⟩,⟨fun z d=>Xc (by have:=g.er z d;omega),by omega⟩,⟨fun z d=>Xc (by have:=g.pr z d;omega),by omega⟩⟩
 ·obtain⟨i,hi,rfl⟩:=Aep hx
  have g:=og.g i hi
  have f:=g.ll;have j:=g.ml;have e:=Ae3.1 g.mi
  refine⟨by omega,fun m q=>?_,by omega⟩
  have:=e m q
  unfold rM at this
  simp only[Ad3] at this
  exact⟨G5 this.1 (by decide) (by decide),G5 this.2 (by decide) (by decide)⟩
end Gx.Ct
namespace Gx.Ct
open Go Go.Proofs Gx.Cf
section
variable {R:Type} {N:Nat}
structure Few0 (c:CaseD):Prop where
 b:1≤c.buses.l.length∧c.buses.l.length≤1000
 u:1≤c.units.l.length∧c.units.l.length≤1000
structure Few (c:CaseD):Prop extends Few0 c where
 s:c.stores.l.length≤1000
 t:c.ties.l.length≤1000
 o:c.outs.l.length≤1000
 d:∀ b ∈ c.buses.l,b.demand.l.length≤1000
theorem xU {c:CaseD} (g:LX c):Few c:=by
 obtain⟨H,res,bs,ls,us,ss,ts,os,b,og,d,rfl⟩:=g
 have h:=b.h;have bl:=b.bl;have ul:=b.ul;have sl:=b.sl;have tl:=b.tl;have ol:=og.l
 refine⟨⟨⟨bl.1,by simp only[OI,Sl.l];omega⟩,⟨ul.1,by simp only[OI,Sl.l];omega⟩⟩,by simp only[OI,Sl.l];omega,by simp only[OI,Sl.l];omega,by simp only[OI,Sl.l];omega,fun x hx=>?_⟩
 simp only[OI,Sl.l] at hx
 obtain⟨i,hi,rfl⟩:=Aep hx
 have:=(b.bg i hi).dl;omega
def Ack (c:CaseD) (b:BusD) (u:UnitD) (f1 f2:Bool):CaseD:={ c with buses:=.of (b::c.buses.l.tail) false f1,units:=.of (u::c.units.l.tail) false f2 }
theorem kS {α:Type} {e:α→LA} {sz:Nat} (d:∀ a,(e a).length=sz) {l:List α} (h:1≤l.length) (x:α):take ((1+(l.length - 1))*sz) (e x++(take ((l.length - 1)*sz) (drop sz (l.flatMap e))))=(x::l.tail).flatMap e∧1+(l.length - 1)=(x::l.tail).length:=by
 cases l with
 | nil=>simp at h
 | cons a r =>
  have e1:(a::r).length - 1=r.length:=rfl
  have f:drop sz ((a::r).flatMap e)=r.flatMap e:=by rw[Aen,List.drop_left' (d a)]
  rw[e1,f,List.tail_cons,Ad0 (l:=r.flatMap e) (by rw[LV d];exact Ad4 _),Aen,Ad0]
  ·exact⟨rfl,by rw[Adx];omega⟩
  ·rw[Adw,d,LV d,Afn,Aig];exact Ad4 _
theorem Aag {n:Nat} (h:1≤n):((decide ((0:Int)≤(1:Int)))&&((decide (1≤(n:Int)))&&((decide ((n:Int)≤(n:Int)))&&(decide ((n:Int)≤(n:Int))))))=true:=by simp;omega
theorem QA {n k:Nat} (h:n≤2000) (d:k≤300):((ble n 140737488355328)&&(ble (n*k) 140737488355328))=true:=by
 have:n*k≤2000*300:=Nat.mul_le_mul h d
 simp;omega
theorem Aah {c:CaseD} {b:BusD} {u:UnitD} {K:LA→Bool→O R} {d i q:Bool} (h:Few0 c):∃ f1 f2 j:Bool,Hd N K d c.av i b.av q u.av=K (Ack c b u f1 f2).av j:=by
 obtain⟨e,f⟩:=h
 obtain⟨e1,k⟩:=kS Kb e.1 b
 obtain⟨e3,e4⟩:=kS H7 f.1 u
 unfold Hd
 refine⟨((i||false)||d),((q||false)||(d||(((i||false)||d)||false))),((d||(((i||false)||d)||false))||(((q||false)||(d||(((i||false)||d)||false)))||false)),?_⟩
 rw[show ble 3 b.av.length=true from rfl,ct,show((beq ((b.av.take 3).length) 3)&&(ble 3 3))=true from rfl,ct,Bi,Aag e.1,ct,QA (by omega) (by decide),ct,show((beq 1 1)&&((ble 3 (c.av.length))&&(!false)))=true from rfl,ct,show ble 22 u.av.length=true from rfl,ct,show((beq ((u.av.take 22).length) 22)&&(ble 22 22))=true from rfl,ct]
 show A6 22 (c.units.av 22 UnitD.av::_) _=_
 rw[Bn,Aag f.1,ct,QA (by omega) (by decide),ct]
 rw[show(take 3 (setCells [(.str ([]:Lu)),.nsl,(.int .i64 0)] 0 (b.av.take 3)))=b.av from rfl,show(take 22 (setCells [(.str ([]:Lu)),(.int .i64 0),(.int .i64 0),(.int .i64 0),.nsl,(.int .i64 0),(.int .i64 0),(.int .i64 0),(.int .i64 0),(.int .i64 0),(.int .i64 0),(.int .i64 0),(.int .i64 0),(.int .i64 0),(.int .i64 0),(.int .i64 0),(.int .i64 0),(.int .i64 0),.nsl,(.int .i64 0),(.int .i64 0),(.int .i64 0)] 0 (u.av.take 22)))=u.av from rfl,e1,e3,k,e4]
 rfl
theorem nF (l:List Int):Ax (Az l)=true:=by
 induction l with
 | nil=>rfl
 | cons a r d=>exact d
theorem y9 {c:CaseD} {b:BusD} {u:UnitD} {f1 f2:Bool} (hI:CaseI c) (hL:ListsOk c) (h:Few0 c) (d:BusI b) (e:UnitI u):CaseI (Ack c b u f1 f2)∧ListsOk (Ack c b u f1 f2):=by
 refine⟨⟨hI.h,hI.r,fun x hx=>?_,hI.l,fun x hx=>?_,hI.s,hI.t,hI.o⟩,⟨?_,hL.l,?_,hL.s,hL.t,hL.o⟩⟩
 ·rcases Ad6.1 hx with rfl | hx
  ·exact d
  ·exact hI.b x (Ahv hx)
 ·rcases Ad6.1 hx with rfl | hx
  ·exact e
  ·exact hI.u x (Ahv hx)
 ·have:=h.b.2
  show(b::c.buses.l.tail).length≤_
  rw[Adx,List.length_tail];omega
 ·have:=h.u.2
  show(u::c.units.l.tail).length≤_
  rw[Adx,List.length_tail];omega
theorem kT {α:Type} {e:α→LA} {sz:Nat} (d:∀ a,(e a).length=sz) {l:List α} (h:0<l.length):take sz (l.flatMap e)=e l[0]∧ble sz (l.flatMap e).length=true:=by
 cases l with
 | nil=>simp at h
 | cons a r =>
  rw[Aen,Afs (d a),Adw,d]
  exact⟨rfl,by simp⟩
theorem VH {α:Type} {e:α→LA} {sz:Nat} (d:∀ a,(e a).length=sz) (l:List α) (x:α):take (((0+l.length)+1)*sz) ((take ((0+l.length)*sz) (l.flatMap e))++e x)=(l++[x]).flatMap e∧(0+l.length)+1=(l++[x]).length:=by
 rw[Aec,Ad0 (l:=l.flatMap e) (by rw[LV d];exact Ad4 _),Af3,List.flatMap_singleton,Ad0]
 ·exact⟨rfl,by simp⟩
 ·rw[Adw,d,LV d,Afn,Aig];exact Ad4 _
set_option maxHeartbeats 2000000 in
theorem nG {c:CaseD} {a:Bool} {o v:Int} {p:Lu} (hI:CaseI c) (hL:ListsOk c) (h:Few c) (G:Rh v) {K:LA→Bool→O R}:∃ (d:CaseD) (f:Bool),CaseI d∧ListsOk d∧Px N c.av a o v p K=K d.av f:=by
 have hb:=h.b;have hu:=h.u
 obtain⟨j,j0,j1,hj⟩:=h_ (R:=R) (N:=N) (v:=o) (n:=12) (by decide) (by decide)
 obtain⟨r1,r2⟩:=kT Kb (l:=c.buses.l) (by omega)
 obtain⟨r3,r4⟩:=kT H7 (l:=c.units.l) (by omega)
 have mb:c.buses.l[0] ∈ c.buses.l:=Ad9 _
 have mu:c.units.l[0] ∈ c.units.l:=Ad9 _
 generalize hB:c.buses.l[0]=B at *
 generalize hU:c.units.l[0]=U at *
 have BI:=hI.b _ mb
 have UI:=hI.u _ mu
 rw[BF];unfold R5
 rw[Bi,show Aj 0 c.buses.l.length=true by simp[Aj];omega,ct,r2,ct,Dd,show Aj 0 c.units.l.length=true by simp[Aj];omega,ct,r4,ct,r1,r3,show((beq 0 0)&&((beq (B.av.length) 3)&&(beq 3 3)))=true from rfl,ct,show((beq 0 0)&&((beq (U.av.length) 22)&&(beq 22 22)))=true from rfl,ct,hj]
 have fin:∀ (D:CaseD) (I:BusD) (k:UnitD) (d i q:Bool) (X:O R),CaseI D→ListsOk D→Few0 D→BusI I→UnitI k→X=Hd N K d D.av i I.av q k.av→∃ (d:CaseD) (f:Bool),CaseI d∧ListsOk d∧X=K d.av f:=fun D I k d i q X A h2 h3 h4 h5 e=>by
  obtain⟨f1,f2,f3,e1⟩:=Aah (R:=R) (N:=N) (c:=D) (b:=I) (u:=k) (K:=K) (d:=d) (i:=i) (q:=q) h3
  have:=y9 (f1:=f1) (f2:=f2) A h2 h3 h4 h5
  exact⟨_,f3,this.1,this.2,e.trans e1⟩
 have L:j=0∨j=1∨j=2∨j=3∨j=4∨j=5∨j=6∨j=7∨j=8∨j=9∨j=10∨j=11:=by omega
 have un:∀ k:UnitD,k.min=U.min∨k.min=v→k.max=U.max→k.segs=U.segs→k.noLoad=U.noLoad→k.rampUp=U.rampUp→k.rampDown=U.rampDown→k.startRamp=U.startRamp→k.stopRamp=U.stopRamp→k.upTime=U.upTime→k.downTime=U.downTime→k.startTime=U.startTime→k.hotCost=U.hotCost→k.coldCost=U.coldCost→k.hotHours=U.hotHours→k.reserve=U.reserve→k.reservePrice=U.reservePrice→k.hours=U.hours→k.output=U.output→((∀ z ∈ k.away.l,Rh z)∧k.away.l.length≤1000000000)→UnitI k:=by
  intro k q0 q1 q2 q3 q4 q5 q6 q7 q8 q9 M S T V Y q15 q16 q17 q18
  refine⟨fun z C=>?_,by rw[q2];exact UI.s,q18⟩
  rw[q1,q3,q4,q5,q6,q7,q8,q9,M,S,T,V,Y,q15,q16,q17] at C
  rcases Ad6.1 C with rfl | C
  ·rcases q0 with e | e
   ·rw[e];exact UI.n _ (by simp)
   ·rw[e];exact G
  ·exact UI.n z (Afz _ C)
 rcases L with rfl | rfl | rfl | rfl | rfl | rfl | rfl | rfl | rfl | rfl | rfl | rfl
 ·exact fin { c with hours:=v } B U _ _ _ _ ⟨G,hI.r,hI.b,hI.l,hI.u,hI.s,hI.t,hI.o⟩ ⟨hL.b,hL.l,hL.u,hL.s,hL.t,hL.o⟩ ⟨h.b,h.u⟩ BI UI rfl
 ·exact fin c { B with name:=p } U _ _ _ _ hI hL h.toFew0 ⟨BI.d,BI.s⟩ UI rfl
 ·exact fin c { B with shed:=v } U _ _ _ _ hI hL h.toFew0 ⟨BI.d,G⟩ UI rfl
 ·have hd:=h.d _ mb
  obtain⟨a1,a2⟩:=VH (e:=Fh) (sz:=1) (fun _=>rfl) B.demand.l 1
  rw[show((3:Int)==0)=false from rfl,cf,show((3:Int)==1)=false from rfl,cf,show((3:Int)==2)=false from rfl,cf,show((3:Int)==3)=true from rfl,ct,show ∀ F:LA→Nat→O R,A6 1 (drop 1 B.av) F=F (B.demand.l.flatMap Fh) B.demand.l.length from fun F=>by
   show A6 1 (B.demand.av 1 Fh::_) F=_
   rw[Bn],show(!a||Ax (B.demand.l.flatMap Fh))=true by rw[A4,nF];cases a<;>rfl,ct,QA (by omega) (by decide),ct,QA (by omega) (by decide),ct]
  rw[show([.int .i64 1]:LA)=Fh 1 from rfl,a1,a2]
  exact fin c { B with demand:=.of (B.demand.l++[1]) false false } U _ _ _ _ hI hL h.toFew0 ⟨⟨fun z C=>by
   rcases Ad7.1 C with A | A
   ·exact BI.d.1 z A
   ·rw[Ae6] at A;subst A;unfold Rh;omega,by show(B.demand.l++[1]).length≤_;simp;omega⟩,BI.s⟩ UI rfl
 ·exact fin c B { U with bus:=v } _ _ _ _ hI hL h.toFew0 BI (un _ (.inl rfl) rfl rfl rfl rfl rfl rfl rfl rfl rfl rfl rfl rfl rfl rfl rfl rfl rfl UI.a) rfl
 ·exact fin c B { U with state:=v } _ _ _ _ hI hL h.toFew0 BI (un _ (.inl rfl) rfl rfl rfl rfl rfl rfl rfl rfl rfl rfl rfl rfl rfl rfl rfl rfl rfl UI.a) rfl
 ·obtain⟨y,y0,y1,hy⟩:=h_ (R:=R) (N:=N) (v:=v) (n:=5) (by decide) (by decide)
  rw[show((6:Int)==0)=false from rfl,cf,show((6:Int)==1)=false from rfl,cf,show((6:Int)==2)=false from rfl,cf,show((6:Int)==3)=false from rfl,cf,show((6:Int)==4)=false from rfl,cf,show((6:Int)==5)=false from rfl,cf,show((6:Int)==6)=true from rfl,ct,hy]
  have hy':y=0∨y=1∨y=2∨y=3∨y=4:=by omega
  have nm:∀ s:Lu,UnitI { U with name:=s }:=fun s=>un _ (.inl rfl) rfl rfl rfl rfl rfl rfl rfl rfl rfl rfl rfl rfl rfl rfl rfl rfl rfl UI.a
  rcases hy' with rfl | rfl | rfl | rfl | rfl
  ·exact fin c B { U with name:=[99,111,114,114,101,99,116,105,118,101] } _ _ _ _ hI hL h.toFew0 BI (nm _) rfl
  ·exact fin c B { U with name:=[117,49] } _ _ _ _ hI hL h.toFew0 BI (nm _) rfl
  ·exact fin c B { U with name:=[85] } _ _ _ _ hI hL h.toFew0 BI (nm _) rfl
  ·exact fin c B { U with name:=[] } _ _ _ _ hI hL h.toFew0 BI (nm _) rfl
  ·exact fin c B { U with name:=[97,95,49] } _ _ _ _ hI hL h.toFew0 BI (nm _) rfl
 ·exact fin c B { U with min:=v } _ _ _ _ hI hL h.toFew0 BI (un _ (.inr rfl) rfl rfl rfl rfl rfl rfl rfl rfl rfl rfl rfl rfl rfl rfl rfl rfl rfl UI.a) rfl
 ·exact fin c B { U with away:=.of [v] false false } _ _ _ _ hI hL h.toFew0 BI (un _ (.inl rfl) rfl rfl rfl rfl rfl rfl rfl rfl rfl rfl rfl rfl rfl rfl rfl rfl rfl ⟨fun z C=>by simp[Sl.l] at C;subst C;exact G,by simp[Sl.l]⟩) rfl
 ·have ho:=h.o
  obtain⟨y,y0,y1,hy⟩:=h_ (R:=R) (N:=N) (v:=v) (n:=4) (by decide) (by decide)
  obtain⟨a1,a2⟩:=VH (e:=OutD.av) (sz:=4) (fun _=>rfl) c.outs.l ⟨[101,120,116,114,97],.of [y] false false,false,.of [⟨0,0,0⟩] false false⟩
  rw[show((9:Int)==0)=false from rfl,cf,show((9:Int)==1)=false from rfl,cf,show((9:Int)==2)=false from rfl,cf,show((9:Int)==3)=false from rfl,cf,show((9:Int)==4)=false from rfl,cf,show((9:Int)==5)=false from rfl,cf,show((9:Int)==6)=false from rfl,cf,show((9:Int)==7)=false from rfl,cf,show((9:Int)==8)=false from rfl,cf,show((9:Int)==9)=true from rfl,ct,Fb,QA (by omega) (by decide),ct,hy,QA (by omega) (by decide),ct]
  rw[show([.str [101,120,116,114,97],.imm [.int .i64 y] 1 1 false false,.bool false,.imm [.int .i64 0,.int .i64 0,.int .i64 0] 1 3 false false]:LA)=OutD.av ⟨[101,120,116,114,97],.of [y] false false,false,.of [⟨0,0,0⟩] false false⟩ from rfl,a1,a2]
  refine fin { c with outs:=.of (c.outs.l++[⟨[101,120,116,114,97],.of [y] false false,false,.of [⟨0,0,0⟩] false false⟩]) false (a||false) } B U _ _ _ _ ⟨hI.h,hI.r,hI.b,hI.l,hI.u,hI.s,hI.t,fun x hx=>?_⟩ ⟨hL.b,hL.l,hL.u,hL.s,hL.t,?_⟩ ⟨h.b,h.u⟩ BI UI rfl
  ·rcases Ad7.1 hx with A | A
   ·exact hI.o x A
   ·rw[Ae6] at A;subst A
    exact⟨by simp[Sl.l],fun m hm=>by simp[Sl.l] at hm;subst hm;exact⟨(by decide:(-9223372036854775808:Int)≤0∧(0:Int)≤9223372036854775807),(by decide:(-9223372036854775808:Int)≤0∧(0:Int)≤9223372036854775807)⟩,by simp[Sl.l]⟩
  ·show(c.outs.l++[_]).length≤_;simp;omega
 ·have ho:=h.s
  obtain⟨a1,a2⟩:=VH (e:=StoreD.av) (sz:=9) (fun _=>rfl) c.stores.l ⟨[109,111,114,101],0,0,0,0,0,0,⟨1,v⟩⟩
  rw[show((10:Int)==0)=false from rfl,cf,show((10:Int)==1)=false from rfl,cf,show((10:Int)==2)=false from rfl,cf,show((10:Int)==3)=false from rfl,cf,show((10:Int)==4)=false from rfl,cf,show((10:Int)==5)=false from rfl,cf,show((10:Int)==6)=false from rfl,cf,show((10:Int)==7)=false from rfl,cf,show((10:Int)==8)=false from rfl,cf,show((10:Int)==9)=false from rfl,cf,show((10:Int)==10)=true from rfl,ct,Eb,QA (by omega) (by decide),ct,QA (by omega) (by decide),ct]
  rw[show([.str [109,111,114,101],.int .i64 0,.int .i64 0,.int .i64 0,.int .i64 0,.int .i64 0,.int .i64 0,.int .i64 1,.int .i64 v]:LA)=StoreD.av ⟨[109,111,114,101],0,0,0,0,0,0,⟨1,v⟩⟩ from rfl,a1,a2]
  refine fin { c with stores:=.of (c.stores.l++[⟨[109,111,114,101],0,0,0,0,0,0,⟨1,v⟩⟩]) false (a||false) } B U _ _ _ _ ⟨hI.h,hI.r,hI.b,hI.l,hI.u,fun x hx=>?_,hI.t,hI.o⟩ ⟨hL.b,hL.l,hL.u,?_,hL.t,hL.o⟩ ⟨h.b,h.u⟩ BI UI rfl
  ·rcases Ad7.1 hx with A | A
   ·exact hI.s x A
   ·rw[Ae6] at A;subst A
    refine⟨fun z C=>?_⟩
    simp only[Ad6,Aei,or_false] at C
    rcases C with rfl | rfl | rfl | rfl | rfl | rfl | rfl
    all_goals first
     | exact G
     | (unfold Rh;omega)
  ·show(c.stores.l++[_]).length≤_;simp;omega
 ·have ho:=h.t
  obtain⟨a1,a2⟩:=VH (e:=TieD.av) (sz:=5) (fun _=>rfl) c.ties.l ⟨[109,111,114,101],0,.nil,.nil,.nil⟩
  rw[show((11:Int)==0)=false from rfl,cf,show((11:Int)==1)=false from rfl,cf,show((11:Int)==2)=false from rfl,cf,show((11:Int)==3)=false from rfl,cf,show((11:Int)==4)=false from rfl,cf,show((11:Int)==5)=false from rfl,cf,show((11:Int)==6)=false from rfl,cf,show((11:Int)==7)=false from rfl,cf,show((11:Int)==8)=false from rfl,cf,show((11:Int)==9)=false from rfl,cf,show((11:Int)==10)=false from rfl,cf,show((11:Int)==11)=true from rfl,ct,Gy,QA (by omega) (by decide),ct,QA (by omega) (by decide),ct]
  rw[show([.str [109,111,114,101],.int .i64 0,.nsl,.nsl,.nsl]:LA)=TieD.av ⟨[109,111,114,101],0,.nil,.nil,.nil⟩ from rfl,a1,a2]
  refine fin { c with ties:=.of (c.ties.l++[⟨[109,111,114,101],0,.nil,.nil,.nil⟩]) false (a||false) } B U _ _ _ _ ⟨hI.h,hI.r,hI.b,hI.l,hI.u,hI.s,fun x hx=>?_,hI.o⟩ ⟨hL.b,hL.l,hL.u,hL.s,?_,hL.o⟩ ⟨h.b,h.u⟩ BI UI rfl
  ·rcases Ad7.1 hx with A | A
   ·exact hI.t x A
   ·rw[Ae6] at A;subst A
    exact⟨⟨fun z C=>by simp[Sl.l] at C,by simp[Sl.l]⟩,⟨fun z C=>by simp[Sl.l] at C,by simp[Sl.l]⟩,⟨fun z C=>by simp[Sl.l] at C,by simp[Sl.l]⟩⟩
  ·show(c.ties.l++[_]).length≤_;simp;omega
end
end Gx.Ct
namespace Gx.Ct
open Go Go.Proofs Gx.Cf
def dG (H:Int) (res:List Int) (bs:List BusD) (ls:List LineD) (us:List UnitD) (ss:List StoreD) (ts:List TieD) (os:List OutD):CaseD:=⟨H,.of res false false,.of bs false false,.of ls false false,.of us false false,.of ss false false,.of ts false false,.of os false false⟩
section
variable {R:Type} {N:Nat} {H:Int} {res:List Int} {bs:List BusD} {ls:List LineD} {us:List UnitD} {ss:List StoreD} {ts:List TieD} {os:List OutD}
theorem xV {c:CaseD} {b:Bool} {K:Bool→O R} {Y:O R} (h:∀ x,K x=Y):AJ N c.av b K=Y:=by
 rw[ML];unfold MK
 rw[Bi,C1,Dd,Eb,Gy,Fb,Tp]
 cases (decide (wrap .i64 (wrap .i64 (wrap .i64 (wrap .i64 (wrap .i64 ((c.buses.l.length:Int)+(c.lines.l.length:Int))+(c.units.l.length:Int))+(c.stores.l.length:Int))+(c.ties.l.length:Int))+(c.outs.l.length:Int))>100))==false
 ·exact h _
 ·exact h _
theorem tQ {c:CaseD} {a b:Bool} {K1:Lu→Int→O R} {K2:Lu→Int→Lu→Int→O R} {Y:O R} (hN:1000000000<N) (hI:CaseI c) (hL:ListsOk c) (d:∀ t e,K1 t e=Qu N c.av b (K2 t e)) (f:∀ t e,K2 t e t e=Y):T0 N c.av a K1=Y:=by
 rw[ph qP Aae hN hI,d,mz (Aaf hN) qP hN hI hL,f]
theorem iG {K:Bool→O R} {c d:CaseD} {f:Bool} (hN:1000000000<N) (hr:CaseI (dG H res bs ls us ss ts os)) (hrL:ListsOk (dG H res bs ls us ss ts os)) (l:CaseI c) (hcL:ListsOk c) (n:CaseI d) (hdL:ListsOk d) :
  ∀ (m j fuel:Nat),j+m=2→m<fuel→Bm N K H (res.flatMap Fh) res.length false false (bs.flatMap BusD.av) bs.length false false (ls.flatMap LineD.av) ls.length false false (us.flatMap UnitD.av) us.length false false (ss.flatMap StoreD.av) ss.length false false (ts.flatMap TieD.av) ts.length false false (os.flatMap OutD.av) os.length false false fuel (j:Int) f (d.av++c.av)=K true
 | 0,j,fuel+1,q,_=>by
  obtain rfl:j=2:=by omega
  rw[Bm];unfold Fd
  rw[show(decide (((2:Nat):Int)<2))=false from rfl,cf]
  show AJ N (dG H res bs ls us ss ts os).av _ _=_
  refine xV fun x=>?_
  cases x with
  | true=>rw[ct,L9];rfl
  | false =>
   rw[cf]
   refine tQ (c:=dG H res bs ls us ss ts os) hN hr hrL (K2:=fun ba bb bc bd=>Ra N fun be=>cond (be==true) (cond ((cond true (ba==bc) false)==true) (K (cond true (bb==bd) false)) (K false)) (K false)) (fun t e=>rfl) (fun t e=>?_)
   show Ra N _=_
   rw[L9];unfold HM
   rw[beq_self_eq_true,beq_self_eq_true];rfl
 | m+1,j,fuel+1,q,A=>by
  have s:=iG (K:=K) (f:=f) hN hr hrL l hcL n hdL m (j+1) fuel (by omega) (by omega)
  have go:∀ (e:CaseD) (Y:O R),CaseI e→ListsOk e→(drop (0+(Int.toNat (j:Int))*8) (d.av++c.av)).take 8=e.av→ble 8 (drop (0+(Int.toNat (j:Int))*8) (d.av++c.av)).length=true→Bm N K H (res.flatMap Fh) res.length false false (bs.flatMap BusD.av) bs.length false false (ls.flatMap LineD.av) ls.length false false (us.flatMap UnitD.av) us.length false false (ss.flatMap StoreD.av) ss.length false false (ts.flatMap TieD.av) ts.length false false (os.flatMap OutD.av) os.length false false (fuel+1) (j:Int) f (d.av++c.av)=K true:=fun e Y u v y z=>by
   rw[Bm];unfold Fd
   rw[decide_eq_true (show(j:Int)<2 by omega),ct,show Aj (j:Int) 2=true by simp[Aj];omega,ct,z,ct,y,show((beq 0 0)&&((beq (e.av.length) 8)&&(beq 8 8)))=true from rfl,ct,Dx,ct,Bx,Oy (by omega),s]
   refine tQ (c:=e) hN u v (K2:=fun au av aw ax=>cond ((!(au==aw))==false) (cond (cond false true (av != ax)) (K false) (K true)) (K false)) (fun t e=>rfl) (fun t e=>?_)
   show cond ((!(t==t))==false) (cond (cond false true (e != e)) (K false) (K true)) (K false)=_
   rw[beq_self_eq_true,bne_self_eq_false];rfl
  have k:j=0∨j=1:=by omega
  rcases k with rfl | rfl
  ·exact go d none n hdL rfl rfl
  ·exact go c none l hcL rfl rfl
theorem nH {l:List Int} {kd v:Int} {nm:Lu} {K:Bool→O R} (hN:1000000000<N) (hr:CaseI (dG H res bs ls us ss ts os)) (hrL:ListsOk (dG H res bs ls us ss ts os)) (k:l.length≤9223372036854775807) (m:Rh v) :
  Hy N H (res.flatMap Fh) res.length false false (bs.flatMap BusD.av) bs.length false false (ls.flatMap LineD.av) ls.length false false (us.flatMap UnitD.av) us.length false false (ss.flatMap StoreD.av) ss.length false false (ts.flatMap TieD.av) ts.length false false (os.flatMap OutD.av) os.length false false (Az l) l.length false false kd v nm K=K true:=by
 rw[Pb];unfold G4
 obtain⟨c,g,j⟩:=mY (R:=R) (N:=N) (l:=l) (n:=l.length) (t:=false) (o:=false) rfl (by omega) k
 obtain⟨cI,cL⟩:=uh g
 rw[j]
 obtain⟨d,f,dI,dL,e⟩:=nG (R:=R) (N:=N) (c:=c) (a:=false) (o:=kd) (v:=v) (p:=nm) cI cL (xU g) m (K:=fun aq bg=>cond ((beq 0 0)&&((beq (aq.length) 8)&&(beq 8 8))) (cond (ble 8 (aq.length)) (BR N (Az l) l.length false false fun ar=>cond ((beq ((aq.take 8).length) 8)&&(ble 8 16)) (cond ((beq (ar.length) 8)&&(ble 16 ((setCells [(.int .i64 0),.nsl,.nsl,.nsl,.nsl,.nsl,.nsl,.nsl,(.int .i64 0),.nsl,.nsl,.nsl,.nsl,.nsl,.nsl,.nsl] 0 (aq.take 8)).length))) (Bm N K H (res.flatMap Fh) res.length false false (bs.flatMap BusD.av) bs.length false false (ls.flatMap LineD.av) ls.length false false (us.flatMap UnitD.av) us.length false false (ss.flatMap StoreD.av) ss.length false false (ts.flatMap TieD.av) ts.length false false (os.flatMap OutD.av) os.length false false N 0 (bg||false) (setCells (setCells [(.int .i64 0),.nsl,.nsl,.nsl,.nsl,.nsl,.nsl,.nsl,(.int .i64 0),.nsl,.nsl,.nsl,.nsl,.nsl,.nsl,.nsl] 0 (aq.take 8)) 8 ar)) none) none) none) none)
 refine e.trans ?_
 show BR N (Az l) l.length false false _=_
 rw[j]
 exact iG (f:=f||false) hN hr hrL cI cL dI dL 2 0 N (by omega) (by omega)
end
end Gx.Ct
namespace Gx
open Go Go.Proofs Go.RowKit Go.ChangeShapes
open Go.Proofs.YtpeocjkboabibaaGreatDoor (Rows.uptoBulk Rows.uptoBulkAll)
theorem y_ {H:Type} (d:DataW H):1≤Rows.uptoBulk d:=by
 cases d with
 | lit l=>cases l<;>simp[Rows.uptoBulk]
 | _=>simp[Rows.uptoBulk]
theorem sM {n:Int} (h:(Lit.int .i64 n).wf=true):-9223372036854775808≤n∧n≤9223372036854775807:=by
 simp only[Lit.wf,Ad3,decide_eq_true_eq,show IntKind.i64.min=-9223372036854775808 from rfl,show IntKind.i64.max=9223372036854775807 from rfl] at h;omega
structure OpensU (B:Nat) (P:Program) (t:TypeId) {α:Type} (e:α→List AV) (n:Nat):Prop where
 size:P.cellsOf t=n
 pos:0<n
 len:∀ a,(e a).length=n
 read:∀ {H:Type} (enc:TypeId×Value→H) (W:World) (fuel:Nat) (cs:List Value) (d:DataW H) (ps:List MemPlace),DataW.trod enc P W 0 (fun _=>true) true fuel t cs=some (d,ps)→Rows.uptoBulk d≤B →
  cs.length=n∧∃ a,RepCs (fun k=>k<W.heap.size) W (e a) (fun j=>cs[j]?) 0
theorem Opens.u {B:Nat} {P:Program} {t:TypeId} {α:Type} {e:α→LA} {n:Nat} (h:Opens P t e n):OpensU B P t e n:=⟨h.size,h.pos,h.len,fun enc W fuel cs d ps f _=>h.read enc W fuel cs d ps f⟩
theorem iH {H:Type}:∀ {l:List (DataW H)} {i:Nat} {x:DataW H},l[i]?=some x→Rows.uptoBulk x≤Rows.uptoBulkAll l
 | a::r,0,x,h=>by simp at h;subst h;simp only[Rows.uptoBulkAll];omega
 | a::r,i+1,x,h=>by
  have:=iH (l:=r) (i:=i) (x:=x) (by simpa using h)
  simp only[Rows.uptoBulkAll];omega
theorem kU {H:Type} {k:Nat}:∀ {l:List (DataW H)},(∀ x ∈ l,k≤Rows.uptoBulk x)→l.length*k≤Rows.uptoBulkAll l
 | [],_=>by simp
 | a::r,h=>by
  have d:=h a (by simp)
  have e:=kU (l:=r) fun x hx=>h x (Afz _ hx)
  simp only[Rows.uptoBulkAll,Adx,Ahq];omega
def tR (P:Program) (t:TypeId) (k:Nat):Prop:=∀ {H:Type} (enc:TypeId×Value→H) (W:World) (fuel:Nat) (cs:List Value) (d:DataW H) (ps:List MemPlace),DataW.trod enc P W 0 (fun _=>true) true fuel t cs=some (d,ps)→k≤Rows.uptoBulk d
theorem qQ {P:Program} {t:TypeId}:tR P t 1:=fun _ _ _ _ d _ _=>y_ d
theorem nI {B k:Nat} {P:Program} {t S:TypeId} {α:Type} {e:α→LA} {n:Nat} (hu:P.underlying t=some (.slice S)) (hc:P.cellsOf t=1) (A:OpensU B P S e n) (hk:tR P S k) :
  OpensU B P t (α:={ l:List α // l.length*k≤B }) (fun l=>[.imm (l.1.flatMap e) l.1.length n false false]) 1:=by
 refine⟨hc,by omega,fun _=>rfl,fun enc W fuel cs d ps h hb=>?_⟩
 rcases DataW.trod_slice hu h with⟨rfl,_⟩ | ⟨a,len,cap,HW,AM,m,_,rfl,hx,hb0,hlc,hcm,s,C,_⟩
 ·refine⟨rfl,⟨[],by simp⟩,?_⟩
  simp[RepCs,RepC]
 ·obtain rfl:d=.slice (HW.map (·.1)) (AM.map (·.1)):=(Prod.mk.inj hx).1
  simp only[Rows.uptoBulk] at hb
  rw[A.size] at C
  have each:∀ i:Nat,i<len→∃ x:α,∃ cs,W.cells? 0 (a.add (i*n)) n=some cs∧RepCs (fun k=>k<W.heap.size) W (e x) (fun j=>cs[j]?) 0:=by
   intro i hi
   have q:=C i hi
   have I:i<HW.length:=by omega
   rw[Ad1 I] at q
   cases f:W.cells? 0 (a.add (i*n)) n with
   | none=>rw[f] at q;simp at q
   | some cs =>
    rw[f] at q
    have hbi:=iH (l:=HW.map (·.1)) (i:=i) (x:=HW[i].1) (by rw[Afv,Ad1 I];rfl)
    obtain⟨_,x,hx⟩:=A.read enc W m cs HW[i].1 HW[i].2 q (by omega)
    exact⟨x,cs,rfl,hx⟩
  have T:len*k≤B:=by
   have:=kU (k:=k) (l:=HW.map (·.1)) (fun x hx=>by
    obtain⟨y,v,rfl⟩:=Aef.1 hx
    obtain⟨i,hi,rfl⟩:=Aep v
    have q:=C i (by omega)
    rw[Ad1 hi] at q
    cases f:W.cells? 0 (a.add (i*n)) n with
    | none=>rw[f] at q;simp at q
    | some cs=>rw[f] at q;exact hk enc W m cs HW[i].1 HW[i].2 q)
   rw[Af4,s] at this
   omega
  refine⟨rfl,?_⟩
  have build:∀ m,m≤len→∃ l:List α,l.length=m∧∀ i x,l[i]?=some x→∃ cs,W.cells? 0 (a.add (i*n)) n=some cs∧RepCs (fun k=>k<W.heap.size) W (e x) (fun j=>cs[j]?) 0:=by
   intro m
   induction m with
   | zero=>intro _;exact⟨[],rfl,by simp⟩
   | succ m ih =>
    intro hm
    obtain⟨l,L,D⟩:=ih (by omega)
    obtain⟨x,cs,U,V⟩:=each m (by omega)
    refine⟨l++[x],by simp[L],fun i y v=>?_⟩
    rw[Aev] at v
    split at v
    ·exact D i y v
    ·have:i=m:=by
      have:=(Aed.1 v).1
      simp at this;omega
     subst this
     simp[L] at v;subst v
     exact⟨cs,U,V⟩
  obtain⟨l,L,D⟩:=build len (Ad4 _)
  refine⟨⟨l,by rw[L];exact T⟩,?_⟩
  simp only[RepCs,RepC,and_true]
  refine⟨_,rfl,?_,some a,cap,by rw[L],by omega,by simp,?_⟩
  ·exact KJ A.len l
  ·by_cases h0:l.length=0
   ·exact .inl h0
   ·right
    refine⟨a,rfl,?_,?_⟩
    ·obtain⟨x,cs,hx,_⟩:=each 0 (by omega)
     have:=World.cells?_block hx A.pos
     rwa [Qw] at this
    ·rw[By]
     intro j x G
     rw[KI A.pos A.len] at G
     cases hq:l[j/n]? with
     | none=>rw[hq] at G;simp at G
     | some y =>
      rw[hq] at G
      simp at G
      obtain⟨cs,f,z⟩:=D (j/n) y hq
      rw[By] at z
      obtain⟨u,M,X⟩:=z (j%n) x G
      refine⟨u,?_,X⟩
      obtain⟨_,s,F⟩:=World.cells?_some f
      have Y:j%n<n:=Ago _ A.pos
      have:=F (j%n) Y
      rw[Addr.add_add,show j/n*n+j%n=j by rw[Afu];exact Af7 j n] at this
      simp only[Aec] at M ⊢
      rw[this];exact M
theorem OpensU.map {B:Nat} {P:Program} {t:TypeId} {α β:Type} {e:α→LA} {n:Nat} (h:OpensU B P t e n) (f:β→LA) (g:α→β) (j:∀ a,e a=f (g a)) (k:∀ b,(f b).length=n):OpensU B P t f n:=by
 refine⟨h.size,h.pos,k,fun enc W fuel cs d ps l m=>?_⟩
 obtain⟨q,a,s⟩:=h.read enc W fuel cs d ps l m
 exact⟨q,g a,by rw[←j];exact s⟩
structure OpensUF (B:Nat) (P:Program) (fs:List Field) (off:Nat) {α:Type} (e:α→List AV) (n:Nat):Prop where
 len:∀ a,(e a).length=n
 read:∀ {H:Type} (enc:TypeId×Value→H) (W:World) (fuel:Nat) (cs:List Value),(∀ (i:Nat) (f:Field),fs[i]?=some f→∃ d ps,DataW.trod enc P W 0 (fun _=>true) true fuel f.type ((cs.drop f.offset).take (P.cellsOf f.type))=some (d,ps)∧Rows.uptoBulk d≤B) →
  ∃ a,RepCs (fun k=>k<W.heap.size) W (e a) (fun j=>cs[j]?) off
theorem G9 {B:Nat} {P:Program} {off:Nat}:OpensUF B P [] off (α:=Unit) (fun _=>[]) 0:=⟨fun _=>rfl,fun _ _ _ _ _=>⟨(),by simp[RepCs]⟩⟩
theorem Ag {B:Nat} {P:Program} {f:Field} {fs:List Field} {off:Nat} {α β:Type} {e:α→LA} {n:Nat} {v:β→LA} {m:Nat} (A:f.offset=off) (k:OpensU B P f.type e n) (y:OpensUF B P fs (off+n) v m) :
  OpensUF B P (f::fs) off (α:=α×β) (fun p=>e p.1++v p.2) (n+m):=by
 refine⟨fun p=>by rw[Adw,k.len,y.len],fun enc W fuel cs h=>?_⟩
 obtain⟨d,ps,C,s⟩:=h 0 f rfl
 obtain⟨F,a,z⟩:=k.read enc W fuel _ _ _ C s
 obtain⟨b,s⟩:=y.read enc W fuel cs fun i g D=>h (i+1) g (by simpa using D)
 refine⟨(a,b),?_⟩
 rw[By] at z s ⊢
 intro j x t
 by_cases q:j<n
 ·rw[Ahb (by rw[k.len];exact q)] at t
  obtain⟨u,l,hr⟩:=z j x t
  refine⟨u,?_,hr⟩
  simp only[Aec] at l
  rw[k.size,List.getElem?_take_of_lt q,Ae8,A] at l
  exact l
 ·rw[Ag9 (by rw[k.len];omega),k.len] at t
  obtain⟨u,l,hr⟩:=s (j - n) x t
  refine⟨u,?_,hr⟩
  rw[show off+n+(j - n)=off+j by omega] at l
  exact l
theorem Ej {B:Nat} {P:Program} {t:TypeId} {fs:Array Field} {α:Type} {e:α→LA} {n:Nat} (s:P.underlying t=some (.struct fs)) (m:P.cellsOf t=n) (hn:0<n) (h:OpensUF B P fs.toList 0 e n):OpensU B P t e n:=by
 refine⟨m,hn,h.len,fun enc W fuel cs d ps u v=>?_⟩
 obtain⟨xs,g,_,hx,y,j,z⟩:=DataW.trod_struct s u
 obtain rfl:d=.agg (xs.map (·.1)):=(Prod.mk.inj hx).1
 simp only[Rows.uptoBulk] at v
 refine⟨by rw[y,m],?_⟩
 exact h.read enc W g cs fun i f hi=>by
  have q:fs[i]?=some f:=by simpa using hi
  have:=z i f q
  have k:i<xs.length:=by
   rw[j];exact(Afb.1 q).1
  rw[Ad1 k] at this
  have A:=iH (l:=xs.map (·.1)) (i:=i) (x:=xs[i].1) (by rw[Afv,Ad1 k];rfl)
  exact⟨xs[i].1,xs[i].2,this,by omega⟩
open Cf Ct
section
abbrev BK:Nat:=1048576
theorem Eg:OpensU BK Tryz.prog 3 (α:={ z:Int // Rh z }) (fun n=>[.int .i64 n.1]) 1 :=
 (jc Tryz.underlying3 (by kernel_rfl)).u.map _ (fun n=>⟨n.1,sM n.2⟩) (fun _=>rfl) (fun _=>rfl)
theorem kV:OpensU BK Tryz.prog 9 (α:=Lu) (fun s=>[.str s]) 1 :=
 (lX Tryz.underlying9 (by kernel_rfl)).u.map _ (fun n=>n.1) (fun _=>rfl) (fun _=>rfl)
theorem ya:OpensU BK Tryz.prog 4 (α:=Bool) (fun b=>[.bool b]) 1:=(qz Tryz.underlying4 (by kernel_rfl)).u
theorem qR {q:Int→Prop}:∀ m:List { n:Int // q n },m.flatMap (fun n=>[AV.int .i64 n.1])=(m.map (·.1)).flatMap Fh
 | []=>rfl
 | a::r=>by rw[Aen,qR r];rfl
theorem xW {α:Type} {q:α→Prop} (l:List { a:α // q a }):∀ x ∈ l.map (·.1),q x:=fun x hx=>by obtain⟨y,_,rfl⟩:=Aef.1 hx;exact y.2
def LP {α:Type} (q:α→Prop) (l:List α):Prop:=(∀ x ∈ l,q x)∧l.length≤BK
theorem HV {t d:TypeId} {α:Type} {q:α→Prop} {e:α→LA} {n:Nat} (f:Tryz.prog.underlying t=some (.slice d)) (j:Tryz.prog.cellsOf t=1)
  (h:OpensU BK Tryz.prog d (α:={ b:α // q b }) (fun b=>e b.1) n):OpensU BK Tryz.prog t (α:={ l:List α // LP q l }) (fun l=>[.imm (l.1.flatMap e) l.1.length n false false]) 1 :=
 (nI (k:=1) f j h qQ).map _ (fun l=>⟨l.1.map (·.1),xW l.1,by rw[Af4];have:=l.2;omega⟩)
  (fun l=>by show [AV.imm (l.1.flatMap fun b=>e b.1) l.1.length n false false]=[AV.imm ((l.1.map (·.1)).flatMap e) (l.1.map (·.1)).length n false false];rw[List.flatMap_map,Af4]) (fun _=>rfl)
theorem xX:OpensU BK Tryz.prog 22 (α:={ l:List Int // LP Rh l }) (fun l=>[.imm (l.1.flatMap Fh) l.1.length 1 false false]) 1:=HV (e:=Fh) Tryz.underlying22 (by kernel_rfl) Eg
theorem QB {α:Type} {q:α→Prop} {l:List α} (h:LP q l):(∀ x ∈ l,q x)∧l.length≤1000000000:=⟨h.1,Afi h.2 (by decide)⟩
theorem RX:OpensU BK Tryz.prog 22 (α:={ s:Sl Int // pP s }) (fun s=>[s.1.av 1 Fh]) 1 :=
 xX.map _ (fun l=>⟨.of l.1 false false,QB l.2⟩) (fun _=>rfl) (fun _=>rfl)
theorem nK:OpensU BK Tryz.prog 78 (α:={ f:FracD // Rh f.num∧Rh f.den }) (fun f=>[.int .i64 f.1.num,.int .i64 f.1.den]) 2 :=
 (Ej Tryz.underlying78 (by kernel_rfl) (by decide) (Ag rfl Eg (Ag rfl Eg G9))).map _ (fun p=>⟨⟨p.1.1,p.2.1.1⟩,p.1.2,p.2.1.2⟩) (fun _=>rfl) (fun _=>rfl)
theorem LD:OpensU BK Tryz.prog 82 (α:={ l:List SegD // LP (fun s=>Rh s.width∧Rh s.price) l }) (fun l=>[.imm (l.1.flatMap SegD.av) l.1.length 2 false false]) 1 :=
 HV Tryz.underlying82 (by kernel_rfl) ((Ej Tryz.underlying124 (by kernel_rfl) (by decide) (Ag rfl Eg (Ag rfl Eg G9))).map _ (fun p=>⟨⟨p.1.1,p.2.1.1⟩,p.1.2,p.2.1.2⟩) (fun _=>rfl) fun _=>rfl)
theorem xY:OpensU BK Tryz.prog 90 (α:={ l:List MoveD // LP (fun m=>Rh m.up∧Rh m.down) l }) (fun l=>[.imm (l.1.flatMap MoveD.av) l.1.length 3 false false]) 1 :=
 HV Tryz.underlying90 (by kernel_rfl) ((Ej Tryz.underlying100 (by kernel_rfl) (by decide) (Ag rfl Eg (Ag rfl Eg (Ag rfl Eg G9)))).map _ (fun p=>⟨⟨p.1.1,p.2.1.1,p.2.2.1.1⟩,p.2.1.2,p.2.2.1.2⟩) (fun _=>rfl) fun _=>rfl)
theorem Aai:OpensU BK Tryz.prog 55 (α:={ b:BusD // BusI b }) (fun b=>b.1.av) 3 :=
 (Ej Tryz.underlying55 (by kernel_rfl) (by decide) (Ag rfl kV (Ag rfl RX (Ag rfl Eg G9)))).map _ (fun p=>⟨⟨p.1,p.2.1.1,p.2.2.1.1⟩,p.2.1.2,p.2.2.1.2⟩) (fun _=>rfl) (fun _=>rfl)
theorem yb:OpensU BK Tryz.prog 80 (α:={ b:LineD // LineI b }) (fun b=>b.1.av) 12 :=
 (Ej Tryz.underlying80 (by kernel_rfl) (by decide) (Ag rfl kV (Ag rfl Eg (Ag rfl Eg (Ag rfl nK (Ag rfl nK (Ag rfl nK (Ag rfl Eg (Ag rfl Eg (Ag rfl RX G9)))))))))).map _
  (fun ⟨a,b,c,d,e,f,g,h,i,_⟩=>⟨⟨a,b.1,c.1,d.1,e.1,f.1,g.1,h.1,i.1⟩,d.2,e.2,f.2,⟨g.2,h.2⟩,i.2⟩) (fun _=>rfl) (fun _=>rfl)
theorem yc:OpensU BK Tryz.prog 84 (α:={ b:UnitD // UnitI b }) (fun b=>b.1.av) 22 :=
 (Ej Tryz.underlying84 (by kernel_rfl) (by decide) (Ag rfl kV (Ag rfl Eg (Ag rfl Eg (Ag rfl Eg (Ag rfl LD (Ag rfl Eg (Ag rfl Eg (Ag rfl Eg (Ag rfl Eg (Ag rfl Eg (Ag rfl Eg
  (Ag rfl Eg (Ag rfl Eg (Ag rfl Eg (Ag rfl Eg (Ag rfl Eg (Ag rfl Eg (Ag rfl Eg (Ag rfl RX (Ag rfl Eg (Ag rfl Eg (Ag rfl Eg G9))))))))))))))))))))))).map _
  (fun ⟨a,b,c,d,s,f,g,h,i,j,k,l,m,n,o,p,q,r,w,x,y,z,_⟩=>⟨⟨a,b.1,c.1,d.1,.of s.1 false false,f.1,g.1,h.1,i.1,j.1,k.1,l.1,m.1,n.1,o.1,p.1,q.1,r.1,w.1,x.1,y.1,z.1⟩,
   by simp only[Ad6,Aei,or_false,forall_eq_or_imp,forall_eq];exact⟨c.2,d.2,f.2,g.2,h.2,i.2,j.2,k.2,l.2,m.2,n.2,o.2,p.2,q.2,r.2,y.2,z.2⟩,QB s.2,w.2⟩) (fun _=>rfl) (fun _=>rfl)
theorem xZ:OpensU BK Tryz.prog 87 (α:={ b:StoreD // StoreI b }) (fun b=>b.1.av) 9 :=
 (Ej Tryz.underlying87 (by kernel_rfl) (by decide) (Ag rfl kV (Ag rfl Eg (Ag rfl Eg (Ag rfl Eg (Ag rfl Eg (Ag rfl Eg (Ag rfl Eg (Ag rfl nK G9))))))))).map _
  (fun ⟨a,b,c,d,e,f,g,h,_⟩=>⟨⟨a,b.1,c.1,d.1,e.1,f.1,g.1,h.1⟩,⟨by simp only[Ad6,Aei,or_false,forall_eq_or_imp,forall_eq];exact⟨c.2,d.2,e.2,f.2,g.2,h.2.1,h.2.2⟩⟩⟩) (fun _=>rfl) (fun _=>rfl)
theorem Aaj:OpensU BK Tryz.prog 89 (α:={ b:TieD // TieI b }) (fun b=>b.1.av) 5 :=
 (Ej Tryz.underlying89 (by kernel_rfl) (by decide) (Ag rfl kV (Ag rfl Eg (Ag rfl RX (Ag rfl RX (Ag rfl RX G9)))))).map _
  (fun ⟨a,b,c,d,e,_⟩=>⟨⟨a,b.1,c.1,d.1,e.1⟩,c.2,d.2,e.2⟩) (fun _=>rfl) (fun _=>rfl)
theorem Aak:OpensU BK Tryz.prog 92 (α:={ b:OutD // OutI b }) (fun b=>b.1.av) 4 :=
 (Ej Tryz.underlying92 (by kernel_rfl) (by decide) (Ag rfl kV (Ag rfl RX (Ag rfl ya (Ag rfl xY G9))))).map _
  (fun ⟨a,b,c,d,_⟩=>⟨⟨a,b.1,c,.of d.1 false false⟩,b.2.2,QB d.2⟩) (fun _=>rfl) (fun _=>rfl)
def Ac4 (H:Int) (res:List Int) (bs:List BusD) (ls:List LineD) (us:List UnitD) (ss:List StoreD) (ts:List TieD) (os:List OutD):Prop:=CaseI (dG H res bs ls us ss ts os)∧ListsOk (dG H res bs ls us ss ts os)
theorem Acl:OpensU BK Tryz.prog 37 (α:={ c:CaseD // ∃ H res bs ls us ss ts os,c=dG H res bs ls us ss ts os∧Ac4 H res bs ls us ss ts os }) (fun c=>c.1.av) 8 :=
 (Ej Tryz.underlying37 (by kernel_rfl) (by decide) (Ag rfl Eg (Ag rfl xX (Ag rfl (HV Tryz.underlying30 (by kernel_rfl) Aai)
  (Ag rfl (HV Tryz.underlying31 (by kernel_rfl) yb) (Ag rfl (HV Tryz.underlying32 (by kernel_rfl) yc) (Ag rfl (HV Tryz.underlying33 (by kernel_rfl) xZ)
   (Ag rfl (HV Tryz.underlying34 (by kernel_rfl) Aaj) (Ag rfl (HV Tryz.underlying35 (by kernel_rfl) Aak) G9))))))))).map _
  (fun ⟨h,r,b,l,u,s,t,o,_⟩=>⟨dG h.1 r.1 b.1 l.1 u.1 s.1 t.1 o.1,h.1,r.1,b.1,l.1,u.1,s.1,t.1,o.1,rfl,⟨h.2,QB r.2,b.2.1,l.2.1,u.2.1,s.2.1,t.2.1,o.2.1⟩,⟨(QB b.2).2,(QB l.2).2,(QB u.2).2,(QB s.2).2,(QB t.2).2,(QB o.2).2⟩⟩) (fun _=>rfl) (fun _=>rfl)
end
section
variable {W:World} {H:Type} {enc:TypeId×Value→H} {β:Ch} {h:Aw}
theorem ui {v:Value} {d:DataW H} {p:List MemPlace} (e:∃ cs,v=.agg cs) (f:DataW.Trod enc Tryz.prog W 0 (fun _=>true) true 37 v d p) (j:Rows.uptoBulk d≤1048576) :
  ∃ (H:Int) (res:List Int) (bs:List BusD) (ls:List LineD) (us:List UnitD) (ss:List StoreD) (ts:List TieD) (os:List OutD),Ac4 H res bs ls us ss ts os∧Rep (fun _ k=>k<W.heap.size) β h W (.agg (dG H res bs ls us ss ts os).av) v:=by
 obtain⟨cs,rfl⟩:=e
 obtain⟨fuel,l⟩:=f
 obtain⟨m,⟨c,H,res,bs,ls,us,ss,ts,os,rfl,k⟩,hr⟩:=Acl.read enc W fuel _ _ _ l j
 refine⟨H,res,bs,ls,us,ss,ts,os,k,wl ?_⟩
 rw[Rep]
 exact⟨cs.toList,rfl,m,hr⟩
theorem sN {a:Option Addr} {len cap:Nat} {d:DataW H} {p:List MemPlace} (f:DataW.Trod enc Tryz.prog W 0 (fun _=>true) true 22 (.slice a len cap) d p) :
  ∃ l:List Int,l.length≤maxLen∧Rep (fun _ k=>k<W.heap.size) β h W (.imm (Az l) l.length 1 false false) (.slice a len cap):=by
 obtain⟨l,j,e⟩:=wk (β:=β) (h:=h) Tryz.underlying22 (by kernel_rfl) (jc Tryz.underlying3 (by kernel_rfl)) f
 rw[qR,A4] at e
 exact⟨l.map (·.1),by rw[Af4];exact j,by rw[Af4];exact e⟩
theorem x4 {s:ByteArray}:Rep (fun _ k=>k<W.heap.size) β h W (.str s.data.toList) (.string s):=by
 rw[Rep]
end
end Gx
