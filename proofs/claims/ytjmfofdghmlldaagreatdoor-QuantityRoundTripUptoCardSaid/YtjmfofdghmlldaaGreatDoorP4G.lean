/- A part of the proof: what it holds is said by each theorem. -/
import Derived.Test.YtjmfofdghmlldaaGreatDoorP3G
set_option linter.unusedVariables false
set_option linter.defProp false
set_option linter.unusedSimpArgs false
namespace Gx
open Go Go.Proofs
section
variable {R:Type}
theorem Acx {N:Nat} {s:Sy} (b:s ∈ IG) (hN:4000≤N) {K:LA→LA→Bool→O R}:T3 N s.w K=K (cq (mkRat s.n s.d)) s.dims true:=by
 rw[I_];unfold IZ
 simp only[IG,List.mem_cons,List.not_mem_nil,or_false] at b
 rcases b with rfl | rfl | rfl | rfl | rfl | rfl | rfl | rfl | rfl | rfl | rfl | rfl | rfl
 ·exact(Fs (R:=R) (N:=N) (v:=1) (w:=1) (by omega) (by omega) hN).trans rfl
 ·exact(Fs (R:=R) (N:=N) (v:=1) (w:=1) (by omega) (by omega) hN).trans rfl
 ·exact(Fs (R:=R) (N:=N) (v:=1) (w:=1) (by omega) (by omega) hN).trans rfl
 ·exact(Fs (R:=R) (N:=N) (v:=1) (w:=1) (by omega) (by omega) hN).trans rfl
 ·exact(Fs (R:=R) (N:=N) (v:=1000) (w:=1) (by omega) (by omega) hN).trans rfl
 ·exact(Fs (R:=R) (N:=N) (v:=1) (w:=100) (by omega) (by omega) hN).trans rfl
 ·exact(Fs (R:=R) (N:=N) (v:=1) (w:=60) (by omega) (by omega) hN).trans rfl
 ·exact(Fs (R:=R) (N:=N) (v:=1) (w:=1000) (by omega) (by omega) hN).trans rfl
 ·exact(Fs (R:=R) (N:=N) (v:=1) (w:=1) (by omega) (by omega) hN).trans rfl
 ·exact(Fs (R:=R) (N:=N) (v:=1) (w:=100) (by omega) (by omega) hN).trans rfl
 ·exact(Fs (R:=R) (N:=N) (v:=1) (w:=1000) (by omega) (by omega) hN).trans rfl
 ·exact(Fs (R:=R) (N:=N) (v:=24) (w:=1) (by omega) (by omega) hN).trans rfl
 ·exact(Fs (R:=R) (N:=N) (v:=1000) (w:=1) (by omega) (by omega) hN).trans rfl
theorem Ah1 {s:Sy} (b:s ∈ IG):0<(mkRat s.n s.d).num:=by
 simp only[IG,List.mem_cons,List.not_mem_nil,or_false] at b
 rcases b with rfl | rfl | rfl | rfl | rfl | rfl | rfl | rfl | rfl | rfl | rfl | rfl | rfl<;>decide
theorem Ah2 {a b:Rat} (h:0<b.num):mkRat (a.num*(b.den:Int)) (((a.den:Nat):Int)*b.num).natAbs=a/b:=by
 obtain⟨n,c⟩:∃ n:Nat,b.num=n:=⟨b.num.toNat,by omega⟩
 rw[Rat.div_def,Rat.inv_def,c,Rat.divInt_ofNat,Int.natAbs_mul,Int.natAbs_natCast,Int.natAbs_natCast]
 have:=Rat.mkRat_mul_mkRat a.num (b.den:Int) a.den n
 rw[←this,Rat.mkRat_self]
theorem yn {N:Nat} {x y:RatD} {o o':Bool} {K:LA→O R} (d:x.ok) (c:y.ok) (e:0<y.q.num) (b:fit (16*(x.m+y.m)+80) N):Tj N x.av o y.av o' K=K (Abz (x.q/y.q)).av:=by
 have f:=eK x d
 have i:=eK y c
 have x1:=bV x.q
 have x2:((x.q.den:Nat):Int).natAbs<4294967296 ^ qm x.q:=by rw[Int.natAbs_natCast];exact bW _
 have y1:=bV y.q
 have y2:((y.q.den:Nat):Int).natAbs<4294967296 ^ qm y.q:=by rw[Int.natAbs_natCast];exact bW _
 have L1:=Bp x1
 have L2:=Bp x2
 have L3:=Bp y1
 have L4:=Bp y2
 have M1:=Bp (Tl x1 y2)
 have M4:=Bp (Tl x2 y1)
 rw[WM];unfold bS
 rw[Tk,ct,Tk,ct,I0,I0,eA];unfold lD
 simp only[Tk,I0,ct]
 rw[vS c (b.le (by omega)),show(y.q.num.sign==0)=false by rw[Int.sign_eq_one_of_pos e];rfl,cf,I3 d (b.le (by omega)),WO,ct,KI c (b.le (by omega)),AK,Aep (b.le (show(Af x.q.num.natAbs).length+(Af ((y.q.den:Nat):Int).natAbs).length≤_ by omega)),KI d (b.le (by omega)),I3 c (b.le (by omega)),WO,ct,AK,Aep (b.le (show(Af ((x.q.den:Nat):Int).natAbs).length+(Af y.q.num.natAbs).length≤_ by omega)),pj (Int.mul_nonneg (by omega) (by omega)) (b.le (show 4*((Af (x.q.num*((y.q.den:Nat):Int)).natAbs).length+(Af (((x.q.den:Nat):Int)*y.q.num).natAbs).length)+10≤_ by omega))]
 rw[Ah2 e]
 rfl
theorem Agv {N:Nat} {p q:Rat} {o o':Bool} {K:LA→O R} (hq:0<q.num) (b:fit (16*(qm p+qm q)+80) N):Tj N (cq p) o (cq q) o' K=K (cq (p/q)):=by
 have:=yn (R:=R) (N:=N) (x:=Abz p) (y:=Abz q) (o:=o) (o':=o') (K:=K) (rm _) (rm _) (by rw[vP];exact hq) (by rw[zX,zX];exact b)
 rw[vP,vP] at this;exact this
theorem Ae4 (q:Rat) {n d:Nat}:q/mkRat n d=q*mkRat d n:=by
 rw[Rat.div_def,←Rat.divInt_ofNat,Rat.inv_divInt,Rat.divInt_ofNat]
end
end Gx

namespace Gx
open Go Go.Proofs
section
variable {R:Type}
theorem yp {N:Nat} {P:Un} {s:Sy} (hP:H8 P) (j:s ∈ IG) (k:P.length≤100) {K:LA→O R}:KN N (Hu P) false s.dims false K=K (Hu (P++[(false,s)])):=by
 have h:=A6 j
 have ba:=Eb (f:=Sy.a) (U:=P) fun p d=>(A6 (hP p d)).2.2.2.2.2.2.2.1
 have bb:=Eb (f:=Sy.b) (U:=P) fun p d=>(A6 (hP p d)).2.2.2.2.2.2.2.2.1
 have bc:=Eb (f:=Sy.c) (U:=P) fun p d=>(A6 (hP p d)).2.2.2.2.2.2.2.2.2.1
 have be:=Eb (f:=Sy.e) (U:=P) fun p d=>(A6 (hP p d)).2.2.2.2.2.2.2.2.2.2
 have i:∀ f:Sy→Int,ds f [(false,s)]=f s:=fun f=>by simp[ds]
 refine Ajy.trans ?_
 unfold Hu
 rw[C6,C6,C6,C6,i,i,i,i,i64 (by omega),i64 (by omega),i64 (by omega),i64 (by omega)]
theorem yq {N:Nat} {P:Un} {s:Sy} (hP:H8 P) (j:s ∈ IG) (k:P.length≤100) {K:LA→O R}:KP N (Hu P) false s.dims false K=K (Hu (P++[(true,s)])):=by
 have h:=A6 j
 have ba:=Eb (f:=Sy.a) (U:=P) fun p d=>(A6 (hP p d)).2.2.2.2.2.2.2.1
 have bb:=Eb (f:=Sy.b) (U:=P) fun p d=>(A6 (hP p d)).2.2.2.2.2.2.2.2.1
 have bc:=Eb (f:=Sy.c) (U:=P) fun p d=>(A6 (hP p d)).2.2.2.2.2.2.2.2.2.1
 have be:=Eb (f:=Sy.e) (U:=P) fun p d=>(A6 (hP p d)).2.2.2.2.2.2.2.2.2.2
 have i:∀ f:Sy→Int,ds f [(true,s)]=-f s:=fun f=>by simp[ds]
 refine Ajz.trans ?_
 unfold Hu
 rw[C6,C6,C6,C6,i,i,i,i,i64 (by omega),i64 (by omega),i64 (by omega),i64 (by omega)];rfl
theorem yr {N:Nat} {U:Un} (hU:H8 U) (t:U.length≤100) (i:fit 20000 N):∀ (D7 P:Un),P++D7=U→∀ (b:Nat),D7.length<b→qm (Bv P)≤P.length+1 →
  ∀ K:LA→LA→Int→O R,Je N K U.length (SC (uw U)) b (P.length:Int) (cq (Bv P)) (Hu P)=K (cq (Bv U)) (Hu U) 0:=by
 have u:=i.1
 intro D7
 induction D7 with
 | nil =>
  intro P hP b c hq K
  rw[List.append_nil] at hP
  subst hP
  cases b with
  | zero=>simp at c
  | succ b =>
   rw[Je];unfold Ra
   rw[BV (Nat.le_refl _),cf];rfl
 | cons p D7 l =>
  intro P hP b c hq K
  obtain⟨o,s⟩:=p
  cases b with
  | zero=>simp at c
  | succ b =>
   have e:=wO (by rw[hP];exact hU:H8 (P++(o,s)::D7))
   have f:s ∈ IG:=e.2
   have m:=A6 f
   have hPl:P.length+D7.length+1=U.length:=by rw[←hP];simp;omega
   have hE:List.drop (0+((P.length:Int)).toNat*2) (SC (uw U))=.bool o::.str s.w::SC (uw D7):=by
    rw[Int.toNat_natCast,Nat.zero_add,←hP]
    unfold uw
    rw[List.map_append,YY,show P.length*2=(SC (List.map (fun p:Bool×Sy=>(p.1,p.2.w)) P)).length by rw[YX,List.length_map],List.drop_left]
    rfl
   have hE2:List.drop (0+((P.length:Int)).toNat*2+1) (SC (uw U))=.str s.w::SC (uw D7):=by
    rw[←List.drop_drop,hE];rfl
   have j:qm (mkRat s.n s.d)≤1:=XV (by omega) (by omega) (by omega)
   have k:qm (Bv (P++[(o,s)]))≤(P++[(o,s)]).length+1:=by
    rw[Rr,List.length_append,List.length_singleton]
    have v:=bX (Bv P) (qD (o,s))
    have x:qm (qD (o,s))≤1:=by
     cases o
     ·exact j
     ·exact XV (n:=s.d) (d:=s.n) (by omega) (by omega) (by omega)
    omega
   have x2:=l (P++[(o,s)]) (by rw[List.append_assoc];exact hP) b (by simp at c;omega) k K
   rw[←x2,List.length_append,List.length_singleton,Je];unfold Ra
   rw[T6 (show P.length<U.length by omega),ct,Fk (show P.length<U.length by omega),ct,hE2,wS (by omega)]
   refine(Acx (N:=N) f (by omega)).trans ?_
   rw[hE]
   cases o
   ·refine Eq.trans (Ais (p:=Bv P) (q:=mkRat s.n s.d) (i.le (by omega))) ?_
    refine Eq.trans (yp (N:=N) e.1 f (by omega)) ?_
    rw[Rr];rfl
   ·refine Eq.trans (Agv (p:=Bv P) (q:=mkRat s.n s.d) (Ah1 f) (i.le (by omega))) ?_
    refine Eq.trans (yq (N:=N) e.1 f (by omega)) ?_
    rw[Rr,Ae4];rfl
theorem wd {N:Nat} {w:List UInt8} {U:List (Bool×List UInt8)} {K:Nat→Bool→LA→O R} (hU:XU ((false,w)::U)) (c:(w++tl U).length≤1000000) (hN:(w++tl U).length+1≤N) (hUl:U.length≤1000000):Rt N (w++tl U) K=K (U.length+1) true (SC ((false,w)::U)):=by
 rw[PP];unfold BC
 have:=Af8 (R:=R) (N:=N) (b:=w++tl U) (K:=K) c U [] w false [] (N - (w++tl U).length - 1) rfl hU (by simp;omega)
 rw[show N - (w++tl U).length - 1+(w++tl U).length+1=N by omega,List.length_nil,Nat.zero_add,Nat.add_comm 1] at this
 exact this
theorem mT {N:Nat} {U:Un} (hU:H8 U) (k:U.length+1≤8) (i:fit 20000 N) (K:LA→LA→Int→O R):Pu N (Hv U) K=K (cq (Bv ((false,Kj)::U))) (Hu ((false,Kj)::U)) 0:=by
 have l:=i.1
 have c:=IH hU
 have d:H8 ((false,Kj)::U):=fun x e=>by
  rcases List.mem_cons.1 e with rfl | e
  ·exact AX
  ·exact hU x e
 have f:qm (Bv [])≤([]:Un).length+1:=by
  have:Bv []=((1:Int):Rat):=rfl
  rw[this,KJ]
  have:(Af (1:Int).natAbs).length=1:=Ah8
  rw[this];exact Nat.le_refl _
 have b:(uw U).length=U.length:=by unfold uw;rw[List.length_map]
 have j:=yr (R:=R) (N:=N) d (by rw[List.length_cons];omega) i ((false,Kj)::U) [] rfl N (by rw[List.length_cons];omega) f K
 unfold Hv at c ⊢
 rw[YS];unfold KT
 rw[wd (Ags hU false AX) (by omega) (by omega) (by omega),b,show(!true)=false by rfl,cf,show decide (((U.length+1:Nat):Int)>8)=false by simp;omega,cf,HC (by omega) (by omega)]
 exact j
end
end Gx

namespace Gx
open Go Go.Proofs
section
variable {R:Type}
theorem yu {q:Rat} (h:(Bu q).length≤4096):qm q≤4200:=by
 have c:=HY (K3 (Cs q.num.natAbs))
 have d:=HY (K3 (Cs q.den))
 rw[D9] at c d
 have e:(Hx q.num.natAbs).length≤(Ea q.num).length:=by unfold Ea K_;split<;>simp
 have f:(Ea q.num).length≤(Bu q).length:=by unfold Bu;split<;>simp
 have i:(Af q.den).length≤4200:=by
  by_cases b:q.den=1
  ·rw[b,J5];decide
  ·have:(Hx q.den).length≤(Bu q).length:=by unfold Bu;rw[if_neg b];simp;omega
   omega
 unfold qm
 omega
theorem tA {N:Nat} {q:Rat} {U:Un} (hU:H8 U) (hU8:U.length+1≤8) (n:(Bu q).length≤4096) (d:fit 3000000 N) (K:LA→LA→Int→O R) :
  Ru N (Bu q++32::Hv U) K=K (cq (q*Bv ((false,Kj)::U))) (Hu ((false,Kj)::U)) 0:=by
 have y:=d.1
 have u:=IH hU
 have e:H8 ((false,Kj)::U):=fun x f=>by
  rcases List.mem_cons.1 f with rfl | f
  ·exact AX
  ·exact hU x f
 have i:=XW e
 rw[List.length_cons] at i
 have v:=yu n
 have s:0<(Hv U).length:=by unfold Hv;rw[List.length_append];have:Kj.w.length=3:=rfl;omega
 have j:=fun K=>wc (R:=R) (N:=N) (q:=q) (K:=K) n (d.le (by omega))
 have k:=fun K=>wZ (R:=R) (N:=N) (t:=Bu q) (post:=Hv U) (a:=32) (K:=K) (wW q) (qH q) (by decide) (by rw[List.length_append,List.length_cons];omega) (by omega)
 have m:=fun K=>mT (R:=R) (N:=N) hU hU8 (d.le (by omega)) K
 have b:=fun K=>Ais (R:=R) (N:=N) (p:=q) (q:=Bv ((false,Kj)::U)) (o:=false) (o':=false) (K:=K) (d.le (by omega))
 generalize Hv U=ut at *
 generalize Bu q=t at *
 have c:(t++32::ut).length=t.length+(ut.length+1):=by rw[List.length_append,List.length_cons]
 rw[PU];unfold BE
 rw[k]
 rw[show((decide ((0:Int)≤(0:Int)))&&((decide (0≤(t.length:Int)))&&((decide ((t.length:Int)≤((((t++32::ut).length):Nat):Int)))&&(decide (((((t++32::ut).length):Nat):Int)≤((((t++32::ut).length):Nat):Int))))))=true by simp;omega,ct]
 rw[Int.toNat_natCast,List.take_left,j,show((Nat.beq 0 0)&&((Nat.beq ((cq q).length) 3)&&(Nat.beq 3 3)))=true by rfl,ct,show((0:Int) != 0)=false by decide,cf]
 rw[show((decide (0≤(t.length:Int)))&&((decide ((t.length:Int)≤((((t++32::ut).length):Nat):Int)))&&((decide (((((t++32::ut).length):Nat):Int)≤((((t++32::ut).length):Nat):Int)))&&(decide (((((t++32::ut).length):Nat):Int)≤((((t++32::ut).length):Nat):Int))))))=true by simp;omega,ct]
 rw[List.drop_left,List.take_of_length_le (l:=32::ut) (by rw[c,List.length_cons];omega)]
 rw[show((32::ut:List UInt8)==[])=false by rfl,cf]
 rw[show Aj 0 (32::ut).length=true by unfold Aj;simp,ct,show(((UInt8.toNat (List.getD (32::ut) 0 0):Nat):Int)==32)=true by rfl,ct]
 rw[show((decide ((0:Int)≤(1:Int)))&&((decide (1≤((((32::ut).length):Nat):Int)))&&((decide (((((32::ut).length):Nat):Int)≤((((32::ut).length):Nat):Int)))&&(decide (((((32::ut).length):Nat):Int)≤((((32::ut).length):Nat):Int))))))=true by simp;omega,ct]
 rw[show List.take ((32::ut).length - 1) (List.drop 1 (32::ut))=ut by simp]
 unfold Rb
 refine(m _).trans ?_
 refine Eq.trans (b _) ?_
 rfl
theorem Ae5 {U:Un} (h:H8 U):0<(Bv U).num:=by
 have fp:∀ {p:Bool×Sy},p.2 ∈ IG→0<qD p:=fun {p} c=>by
  have s:=A6 c
  have b:∀ {n d:Nat},1≤n→1≤d→0<mkRat n d:=fun {n d} f i=>by
   have j:0≤mkRat n d:=by rw[←Rat.divInt_ofNat];exact Rat.divInt_nonneg (by omega) (by omega)
   exact Rat.lt_of_le_of_ne j (fun e=>sa f i e.symm)
  unfold qD
  split
  ·exact b (by omega) (by omega)
  ·exact b (by omega) (by omega)
 have gen:∀ (V:Un) (q:Rat),H8 V→0<q→0<V.foldl (fun q p=>q*qD p) q:=by
  intro V
  induction V with
  | nil=>intro q _ hq;exact hq
  | cons p V k=>intro q hV hq;exact k _ (fun x l=>hV x (List.mem_cons_of_mem _ l)) (Rat.mul_pos hq (fp (hV p (by simp))))
 have m:0<Bv U:=gen U 1 h (by decide)
 have t:=Rat.num_nonneg.2 (Rat.le_of_lt m)
 have u:(Bv U).num≠0:=fun e=>gP h (Rat.num_eq_zero.1 e)
 omega
theorem Acy {N:Nat} {q:Rat} {U:Un} (hU:H8 U) (hU8:U.length+1≤8) (l:(Bu q).length≤4096) (i:fit 3000000 N) (K:LA→Int→O R) :
  b_ N (Bu q++32::Hv U) (Hv U) K=K (cq (q*Bv ((false,Kj)::U)/Bv ((false,Kj)::U))) 0:=by
 have n:=i.1
 have f:H8 ((false,Kj)::U):=fun x j=>by
  rcases List.mem_cons.1 j with rfl | j
  ·exact AX
  ·exact hU x j
 have k:=XW f
 rw[List.length_cons] at k
 have m:=yu l
 have s:=bX q (Bv ((false,Kj)::U))
 rw[mP];unfold sy
 refine(tA hU hU8 l i _).trans ?_
 show Pu N (Hv U) _=_
 refine(mT hU hU8 (i.le (by omega)) _).trans ?_
 have d:((ds Sy.a ((false,Kj)::U)==ds Sy.a ((false,Kj)::U))&&((ds Sy.b ((false,Kj)::U)==ds Sy.b ((false,Kj)::U))&&((ds Sy.c ((false,Kj)::U)==ds Sy.c ((false,Kj)::U))&&((ds Sy.e ((false,Kj)::U)==ds Sy.e ((false,Kj)::U))&&true))))=true:=by simp
 show cond (!((ds Sy.a ((false,Kj)::U)==ds Sy.a ((false,Kj)::U))&&((ds Sy.b ((false,Kj)::U)==ds Sy.b ((false,Kj)::U))&&((ds Sy.c ((false,Kj)::U)==ds Sy.c ((false,Kj)::U))&&((ds Sy.e ((false,Kj)::U)==ds Sy.e ((false,Kj)::U))&&true))))) _ _=_
 rw[d]
 exact(Agv (p:=q*Bv ((false,Kj)::U)) (q:=Bv ((false,Kj)::U)) (Ae5 f) (i.le (by omega))).trans rfl
end
end Gx

namespace Gx
open Go Go.Proofs
open IntKind (wrap)
set_option maxRecDepth 100000
noncomputable section
variable {R:Type} (N:Nat)
def Ga (d:Bool) (e:LA) (f:Nat) (q b:Bool) (g:LA) (i:Nat) (r c:Bool) (n:LA) (o:Nat) (s p:Bool) (r0:Bool→O R):O R :=
 (Oh N n o false p (fun t=>(Yu N [(.bool d),(.imm e f 1 false b),(.imm g i 1 false c)] (b||(c||false)) t (fun u v=>(Ee N t (fun aa ab z=>(cond ((Nat.beq 0 0)&&((Nat.beq (aa.length) 3)&&(Nat.beq 3 3))) (cond ((Nat.beq (ab.length) 4)&&((Nat.ble 4 4)&&(!false))) (cond (z != 0) (cond ((v==z)==true) (Er N (fun ac=>(r0 (cond true ac false)))) (r0 false)) (cond (decide ((((u.length):Nat):Int)>4096)) (cond ((v==0)==true) (Er N (fun ad=>(r0 (cond true ad false)))) (r0 false)) (Jb N u (fun w l ae=>(cond ((Nat.beq 0 0)&&((Nat.beq (w.length) 3)&&(Nat.beq 3 3))) (cond ((Nat.beq (l.length) 4)&&((Nat.ble 4 4)&&(!false))) (Ee N t (fun af m aw=>(cond ((Nat.beq 0 0)&&((Nat.beq (af.length) 3)&&(Nat.beq 3 3))) (cond ((Nat.beq (m.length) 4)&&((Nat.ble 4 4)&&(!false))) (IE N u t (fun x ag=>(cond ((Nat.beq 0 0)&&((Nat.beq (x.length) 3)&&(Nat.beq 3 3))) (b_ N u t (fun y ax=>(cond ((Nat.beq 0 0)&&((Nat.beq (y.length) 3)&&(Nat.beq 3 3))) (Er N (fun ah=>(cond (ah==true) (cond ((cond true (v==0) false)==true) (cond ((cond true (ae==0) false)==true) (cond (Nat.ble 4 ((setCells [(.int .i64 0),(.int .i64 0),(.int .i64 0),(.int .i64 0)] 0 l).length)) (cond (Nat.ble 4 ((setCells [(.int .i64 0),(.int .i64 0),(.int .i64 0),(.int .i64 0)] 0 m).length)) (cond ((Nat.ble 1 4)&&((Nat.beq (((setCells [(.int .i64 0),(.int .i64 0),(.int .i64 0),(.int .i64 0)] 0 l).take 4).length) 4)&&((Nat.beq (((setCells [(.int .i64 0),(.int .i64 0),(.int .i64 0),(.int .i64 0)] 0 m).take 4).length) 4)&&(true&&(!false))))) (Bw .i64 ((setCells [(.int .i64 0),(.int .i64 0),(.int .i64 0),(.int .i64 0)] 0 l).take 4) fun ai=>(Bw .i64 ((setCells [(.int .i64 0),(.int .i64 0),(.int .i64 0),(.int .i64 0)] 0 m).take 4) fun aj=>(Bw .i64 (((setCells [(.int .i64 0),(.int .i64 0),(.int .i64 0),(.int .i64 0)] 0 l).take 4).drop 1) fun ak=>(Bw .i64 (((setCells [(.int .i64 0),(.int .i64 0),(.int .i64 0),(.int .i64 0)] 0 m).take 4).drop 1) fun al=>(Bw .i64 (((setCells [(.int .i64 0),(.int .i64 0),(.int .i64 0),(.int .i64 0)] 0 l).take 4).drop 2) fun am=>(Bw .i64 (((setCells [(.int .i64 0),(.int .i64 0),(.int .i64 0),(.int .i64 0)] 0 m).take 4).drop 2) fun an=>(Bw .i64 (((setCells [(.int .i64 0),(.int .i64 0),(.int .i64 0),(.int .i64 0)] 0 l).take 4).drop 3) fun ao=>(Bw .i64 (((setCells [(.int .i64 0),(.int .i64 0),(.int .i64 0),(.int .i64 0)] 0 m).take 4).drop 3) fun ap=>(cond ((cond true ((ai==aj)&&((ak==al)&&((am==an)&&((ao==ap)&&true)))) false)==true) (cond (Nat.ble 3 (w.length)) (Hs N [(.bool d),(.imm e f 1 false b),(.imm g i 1 false c)] (b||(c||false)) (fun aq=>(Di N (w.take 3) false aq false (fun ar=>(cond ((cond true ar false)==true) (cond ((cond true (ag==0) false)==true) (cond (Nat.ble 3 (x.length)) (cond (Nat.ble 3 (y.length)) (Di N (x.take 3) false (y.take 3) false (fun au=>(r0 (cond true au false)))) none) none) (r0 false)) (r0 false)))))) none) (r0 false)))))))))) none) none) none) (r0 false)) (r0 false)) (r0 false)))) none))) none))) none) none))) none) none))))) none) none)))))))
def Dv:=(Ag (@Ga R)).1
theorem Ik:@Dv R=@Ga R:=(Ag _).2
def T9:D8:=[(38,na N),(55,sQ N),(39,AT N),(40,mH N),(56,IC N),(57,wJ N),(58,Acv N),(28,Pi N),(27,WB N)]
def Jf (F:KF R):Bool→O R:=(fun av=>F (.bool av) [])
theorem Jg (d:Bool) (e:LA) (f:Nat) (q b:Bool) (g:LA) (i:Nat) (r c:Bool) (n:LA) (o:Nat) (s p:Bool) (F:KF R):Cd (T9 N) C1 N 13 [(.agg [(.bool d),(.imm e f 1 q b),(.imm g i 1 r c)]),(.imm n o 1 s p)] [] F=(Dv N d e f q b g i r c n o s p (Jf F)):=by
 rw[Ik]
 kernel_rfl
def Il (a:LA) (h:Ah) (k:KF R):O R :=
 match a,h with
 | [(.agg [(.bool d),(.imm e f 1 q b),(.imm g i 1 r c)]),(.imm n o 1 s p)],[]=>(Dv N d e f q b g i r c n o s p (Jf k))
 | _,_=>none
theorem Jh:An N 13 @Il:=by
 intro R Q a h k j;unfold Il;split;exact As (Jg ..) (Jg ..) ⟨nc N,sR N,AU N,mI N,ID N,wK N,Acw N,Pj N,WC N,trivial⟩;exact Av
def T4:=At (Jh N)
def T5:=Cg (Jh N)
end
end Gx

namespace Gx
open Go Go.Proofs
section
variable {R:Type}
theorem Ajl {k N a b:Nat} (c:fit (400*k+4000000) N) (d:a≤k) (e:b≤9000):fit (100*a+20000) N∧fit (8*a+10) N∧fit (8*(b+b)+40) N∧fit (400*b+400) N∧fit (8*b+1000000) N∧fit b N∧fit 3000000 N∧fit 2000000 N∧fit 10000 N :=
 ⟨c.le (by omega),c.le (by omega),c.le (by omega),c.le (by omega),c.le (by omega),c.le (by omega),c.le (by omega),c.le (by omega),c.le (by omega)⟩
theorem wg {N:Nat} {n2:Bool} {lb lc:List Nat} {l:List UInt8} (hb:Ad lb) (hc:Ad lc) {K:Bool→O R} (I:fit (400*(lb.length+lc.length)+4000000) N) :
  Dv N n2 (Aa lb) lb.length false false (Aa lc) lc.length false false (Bj l) l.length false false K=K true:=by
 have f1:=I.1;have f2:=I.2
 let x:RatD:=⟨n2,.of lb false false,.of lc false false⟩
 have n:x.ok:=⟨hb,hc⟩
 have hm:x.m≤lb.length+lc.length:=Nat.max_le.2 ⟨by show lb.length≤_;omega,by show lc.length≤_;omega⟩
 have F:=Ajl (b:=9000) I hm (by omega)
 have s:∀ K:Bool→O R,Er N K=K true:=fun K=>Af3 F.2.2.2.2.2.2.2.1
 obtain⟨U,u1,u2,u3⟩:=yh (R:=R) (N:=N) (l:=l) (by omega)
 have hA:H8 ((false,Kj)::U):=fun x n=>by
  rcases List.mem_cons.1 n with rfl | n
  ·exact AX
  ·exact u1 x n
 have k:=XW hA
 rw[List.length_cons] at k
 rcases mG (R:=R) (N:=N) u1 (by omega) F.2.2.2.2.2.2.2.2 with⟨h8,_⟩ | ⟨_,g,Y,L⟩
 ·omega
 have M:=fun K=>sc (R:=R) (N:=N) (x:=x) (U:=U) (o:=(false||(false||false))) n u1 u2 F.1 K
 have hn:∀ K:LA→O R,Hs N [(.bool n2),(.imm (Aa lb) lb.length 1 false false),(.imm (Aa lc) lc.length 1 false false)] (false||(false||false)) K=K (cq x.q):=fun K=>I3 (x:=x) n F.2.1
 have hul:=IH u1
 rw[Ik];unfold Ga
 rw[u3]
 refine(M _ ).trans ?_
 show Ee N (Hv U) _=_
 refine(L _).trans ?_
 show cond (decide ((((Bu (x.q/Bv ((false,Kj)::U))++32::Hv U).length:Nat):Int)>4096)) _ _=_
 by_cases S:(Bu (x.q/Bv ((false,Kj)::U))++32::Hv U).length>4096
 ·rw[show decide ((((Bu (x.q/Bv ((false,Kj)::U))++32::Hv U).length:Nat):Int)>4096)=true by simp only[decide_eq_true_eq];omega]
  show Er N _=_
  rw[s];rfl
 ·rw[show decide ((((Bu (x.q/Bv ((false,Kj)::U))++32::Hv U).length:Nat):Int)>4096)=false by simp only[decide_eq_false_iff_not];omega]
  have hlen:(Bu (x.q/Bv ((false,Kj)::U))++32::Hv U).length=(Bu (x.q/Bv ((false,Kj)::U))).length+((Hv U).length+1):=by rw[List.length_append,List.length_cons]
  have T:(Bu (x.q/Bv ((false,Kj)::U))).length≤4096:=by omega
  have u:=gP hA
  have f:x.q/Bv ((false,Kj)::U)*Bv ((false,Kj)::U)=x.q:=by
   rw[Rat.div_def,Rat.mul_assoc,Rat.inv_mul_cancel _ u,Rat.mul_one]
  have i:=yu T
  have v:=bX (x.q/Bv ((false,Kj)::U)) (Bv ((false,Kj)::U))
  have C:=fun K=>Acy (R:=R) (N:=N) (q:=x.q/Bv ((false,Kj)::U)) u1 (by omega) T F.2.2.2.2.2.2.1 K
  rw[f] at v C
  obtain⟨z,z1,z2⟩:=yj (R:=R) (N:=N) (q:=x.q/Bv ((false,Kj)::U)) (F.2.2.2.1.le (by show 400*qm _+400≤_;exact Nat.add_le_add_right (Nat.mul_le_mul_left 400 (Nat.le_trans i (by decide))) 400))
  have hnd:=s_ (Bu (x.q/Bv ((false,Kj)::U)))
  have z3:∀ K:LA→Int→O R,Ep N (Bu (x.q/Bv ((false,Kj)::U))) K=K z.av 0:=fun K=>by rw[z2,if_neg (by omega)]
  obtain⟨y,y1,y2⟩:=V0 (R:=R) (N:=N) (t:=Bu (x.q/Bv ((false,Kj)::U))) (s0:=Kj) (U:=U) (wW _) (qH _) z1 z3 AX u1 (by omega) (Nat.le_trans T (by decide)) (F.2.2.2.2.1.le (Nat.add_le_add_right (Nat.mul_le_mul_left 8 (Nat.le_trans i (by decide))) _))
  rw[f] at y1
  have D:=y1.m
  have V:=Y.m
  have G:g.m≤9000:=by rw[V];exact Nat.le_trans k (by omega)
  have j:y.m≤9000:=by rw[D];exact Nat.le_trans v (Nat.le_trans (Nat.add_le_add i (Nat.le_trans k (show List.length U+1+1≤8 by omega))) (by decide))
  obtain⟨w,w1,w2⟩:=wT (R:=R) (N:=N) (d:=Bu (x.q/Bv ((false,Kj)::U))++32::Hv U) (e:=Hv U) (A:=(false,Kj)::U) (B:=(false,Kj)::U) y2 L y1 Y u (by unfold wR;simp) (F.2.2.1.le (Nat.add_le_add_right (Nat.mul_le_mul_left 8 (Nat.add_le_add j G)) 40))
  have hwm:qm (x.q/Bv ((false,Kj)::U))≤4200:=i
  have eq1:∀ K:Bool→O R,Di N y.av false (cq x.q) false K=K true:=fun K=>by
   rw[XI y1 (F.2.2.2.2.2.1.le (by rw[←D];exact j)),decide_eq_true rfl]
  have eq2:∀ K:Bool→O R,Di N w.av false (cq (x.q/Bv ((false,Kj)::U))) false K=K true:=fun K=>by
   rw[XI w1 (F.2.2.2.2.2.1.le (Nat.le_trans i (by decide))),decide_eq_true rfl]
  have X:∀ a b c d:Int,((a==a)&&((b==b)&&((c==c)&&((d==d)&&true))))=true:=fun a b c d=>by simp
  show Jb N (Bu (x.q/Bv ((false,Kj)::U))++32::Hv U) _=_
  refine(y2 _).trans ?_
  show Ee N (Hv U) _=_
  refine(L _).trans ?_
  show IE N (Bu (x.q/Bv ((false,Kj)::U))++32::Hv U) (Hv U) _=_
  refine(w2 _).trans ?_
  show b_ N (Bu (x.q/Bv ((false,Kj)::U))++32::Hv U) (Hv U) _=_
  refine(C _).trans ?_
  show Er N _=_
  rw[s]
  show cond ((cond true ((ds Sy.a _==ds Sy.a _)&&((ds Sy.b _==ds Sy.b _)&&((ds Sy.c _==ds Sy.c _)&&((ds Sy.e _==ds Sy.e _)&&true)))) false)==true) _ _=_
  rw[X]
  refine(hn _).trans ?_
  refine(eq1 _).trans ?_
  exact(eq2 _).trans rfl
end
end Gx
