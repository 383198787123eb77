/- A part of the proof: what it holds is said by each theorem. -/
import Derived.Test.YtlkhmflligkbkaaGreatP3
set_option linter.unusedVariables false
namespace Gx
open Go Go.Proofs
section
variable {R:Type}
theorem A9k (s:List StD):(s.flatMap StD.av).length=s.length*2:=by
 induction s with
 | nil=>rfl
 | cons a r k=>rw[List.flatMap_cons,List.length_append,k];simp[StD.av];omega
theorem A9l (s:List StD):List.take (s.length*2) (s.flatMap StD.av)=s.flatMap StD.av:=by rw[←A9k,List.take_length]
theorem RL (s:List StD) (t:StD):List.take (s.length*2) (s.flatMap StD.av)++t.av=(s++[t]).flatMap StD.av:=by rw[A9l];simp
theorem A71 {l:List StD} {j:Nat} (h:j<l.length):List.drop ((Int.toNat (j:Int))*2) (l.flatMap StD.av)=l[j].av++(l.drop (j+1)).flatMap StD.av:=by
 rw[Int.toNat_natCast,Bn (e:=StD.av) (sz:=2) (fun _=>rfl) _ _ h]
theorem Aht {l:List StD} {j:Nat} (h:j<l.length):List.drop (0+((Int.toNat (j:Int))*2)) (l.flatMap StD.av)=l[j].av++(l.drop (j+1)).flatMap StD.av:=by rw[Nat.zero_add,A71 h]
theorem mt (s:StD) (r:List AV):Nat.ble 2 (List.length (s.av++r))=true:=rfl
theorem mu (s:StD) (r:List AV):List.take 2 (s.av++r)=s.av:=rfl
theorem A72 {s:StD} {r:List AV} {f:Int→Option R}:Ao .i64 (s.av++r) f=f s.k:=Az
theorem An9 (c:Bool) (s:StD):((!c)||Bd s.av)=true:=by cases c<;>rfl
theorem A73 (s t:StD):((Nat.ble 1 2)&&((Nat.beq (List.length s.av) 2)&&((Nat.beq (List.length t.av) 2)&&(true&&(!false)))))=true:=rfl
theorem Bar (s t:StD):((s.k==t.k)&&((s.h==t.h)&&true))=true↔s=t:=by
 cases s;cases t;simp
def Zq (k:Int):Int→Nat→List StD
 | _,0=>[]
 | i,m+1=>⟨k,i+1⟩::Zq k (i+1) m
theorem ze {k h:Int}:∀ {m:Nat} {i:Int},i+1≤h→h≤i+m→(⟨k,h⟩:StD) ∈ Zq k i m
 | 0,i,A,B=>by omega
 | m+1,i,A,B=>by
  rw[Zq]
  by_cases e:h=i+1
  ·subst e;exact List.mem_cons_self ..
  ·exact List.mem_cons_of_mem _ (ze (by omega) (by omega))
theorem A2k {k:Int}:∀ {m:Nat} {i:Int},(Zq k i m).length=m
 | 0,_=>rfl
 | m+1,_=>by rw[Zq,List.length_cons,A2k]
theorem Aoa {N:Nat} {K:Nat→LA→Option R} {a:Int} (k:a≤1000):∀ (m fuel:Nat) (i:Int) (l:List StD),i+m=a→0≤i→m<fuel→l.length+m≤10000 →
  Nl N K a fuel l.length (i+1) (l.flatMap StD.av)=K (l++Zq 2 i m).length ((l++Zq 2 i m).flatMap StD.av)
 | 0,fuel+1,i,l,hi,A,_,B=>by
  rw[Nl];unfold U6
  rw[show decide (i+1≤a)=false by simp;omega,cf,Zq,List.append_nil]
 | m+1,fuel+1,i,l,hi,A,C,B=>by
  rw[Nl];unfold U6
  rw[show decide (i+1≤a)=true by simp;omega,ct,A47 (by omega),ct,i64 (by omega),show [(AV.int .i64 2),(.int .i64 (i+1))]=(StD.mk 2 (i+1)).av from rfl,RL]
  have:=Aoa (N:=N) (K:=K) k m fuel (i+1) (l++[⟨2,i+1⟩]) (by omega) (by omega) (by omega) (by simp;omega)
  rw[List.length_append] at this
  simp only[List.length_cons,List.length_nil,Nat.zero_add] at this
  rw[this,Zq,List.append_assoc];rfl
theorem Aob {N:Nat} {K:Nat→LA→Option R} {u:UnitD} {c:Bool} {a:Int} {m2:Nat} (A:a=m2) (B:m2≤1000) (hN:1100≤N) (k:u.startTime≤1000):∀ (m fuel:Nat) (i:Int) (l:List StD),i+m=u.startTime→0≤i→m<fuel→l.length+m≤8000 →
  Nm N K a c u.av fuel l.length (i+1) (l.flatMap StD.av)=K (l++Zq 1 i m++Zq 2 0 m2).length ((l++Zq 1 i m++Zq 2 0 m2).flatMap StD.av)
 | 0,fuel+1,i,l,hi,C,_,D=>by
  rw[Nm];unfold U7
  rw[Bac,show decide (i+1≤u.startTime)=false by simp;omega,cf,Zq,List.append_nil]
  exact Aoa (by omega) m2 N 0 l (by omega) (by omega) (by omega) (by omega)
 | m+1,fuel+1,i,l,hi,C,F,D=>by
  rw[Nm];unfold U7
  rw[Bac,show decide (i+1≤u.startTime)=true by simp;omega,ct,A47 (by omega),ct,i64 (by omega),show [(AV.int .i64 1),(.int .i64 (i+1))]=(StD.mk 1 (i+1)).av from rfl,RL]
  have:=Aob (N:=N) (K:=K) (c:=c) A B hN k m fuel (i+1) (l++[⟨1,i+1⟩]) (by omega) (by omega) (by omega) (by simp;omega)
  rw[List.length_append] at this
  simp only[List.length_cons,List.length_nil,Nat.zero_add] at this
  rw[this,Zq];simp only[List.append_assoc,List.cons_append,List.nil_append]
theorem Aoc {N:Nat} {K:Nat→LA→Option R} {u:UnitD} {c:Bool} {a p:Int} {m1 m2:Nat} (A:a=m2) (B:m2≤1000) (C:u.startTime=m1) (k:m1≤1000) (hN:1100≤N) (D:p≤1000):∀ (m fuel:Nat) (i:Int) (l:List StD),i+m=p→0≤i→m<fuel→l.length+m≤6000 →
  J3 N K p a c u.av fuel l.length (i+1) (l.flatMap StD.av)=K (l++Zq 0 i m++Zq 1 0 m1++Zq 2 0 m2).length ((l++Zq 0 i m++Zq 1 0 m1++Zq 2 0 m2).flatMap StD.av)
 | 0,fuel+1,i,l,hi,F,_,G=>by
  rw[J3];unfold U8
  rw[show decide (i+1≤p)=false by simp;omega,cf,Zq,List.append_nil]
  exact Aob A B hN (by omega) m1 N 0 l (by omega) (by omega) (by omega) (by omega)
 | m+1,fuel+1,i,l,hi,F,I,G=>by
  rw[J3];unfold U8
  rw[show decide (i+1≤p)=true by simp;omega,ct,A47 (by omega),ct,i64 (by omega),show [(AV.int .i64 0),(.int .i64 (i+1))]=(StD.mk 0 (i+1)).av from rfl,RL]
  have:=Aoc (N:=N) (K:=K) (c:=c) A B C k hN D m fuel (i+1) (l++[⟨0,i+1⟩]) (by omega) (by omega) (by omega) (by simp;omega)
  rw[List.length_append] at this
  simp only[List.length_cons,List.length_nil,Nat.zero_add] at this
  rw[this,Zq];simp only[List.append_assoc,List.cons_append,List.nil_append]
def Asb (u:UnitD):List StD:=Zq 0 0 (J4 u).toNat++Zq 1 0 u.startTime.toNat++Zq 2 0 (HO u).toNat
theorem zS {N:Nat} {u:UnitD} {o:Bool} {K:Nat→LA→Option R} (hN:1100≤N) (hs:C4 u=true):Wz N u.av o K=K (Asb u).length ((Asb u).flatMap StD.av):=by
 have k:=Qg hs;have A:=VP hs
 rw[fK];unfold MA
 rw[D8,ct,Cg,NI hs,ct,Kx,hs,show(!true)=false from rfl,cf]
 have:=Aoc (N:=N) (K:=K) (u:=u) (c:=o) (a:=HO u) (p:=J4 u) (m1:=u.startTime.toNat) (m2:=(HO u).toNat) (by omega) (by omega) (by omega) (by omega) hN (by omega) (J4 u).toNat N 0 [] (by omega) (by omega) (by omega) (by simp;omega)
 simpa[Asb] using this
theorem A74 {u:UnitD} {s:StD} (hs:C4 u=true) (h:DK u s):s ∈ Asb u:=by
 have B:=Qg hs;have C:=VP hs
 obtain⟨k,h'⟩:=s
 unfold DK at h;simp only at h
 unfold Asb
 rcases h with⟨D,⟨rfl,A⟩ | ⟨rfl,A⟩ | ⟨rfl,A⟩⟩
 ·exact List.mem_append_left _ (List.mem_append_left _ (ze (by omega) (by omega)))
 ·exact List.mem_append_left _ (List.mem_append_right _ (ze (by omega) (by omega)))
 ·exact List.mem_append_right _ (ze (by omega) (by omega))
theorem Av7 {N:Nat} {L:List StD} {s:StD} {c:Bool} (hL:L.length≤10000):∀ (m j fuel:Nat),j+m=L.length→m<fuel→s ∈ L.drop j→∃ p:Int,0≤p∧∀ K:Int→Option R,Gs N K L.length c s.av (L.flatMap StD.av) fuel (j:Int)=K p
 | 0,j,fuel+1,C,_,A=>by rw[Fw (by omega)] at A;simp at A
 | m+1,j,fuel+1,C,I,A=>by
  have h:j<L.length:=by omega
  by_cases e:L[j]=s
  ·refine⟨j,by omega,fun K=>?_⟩
   rw[Gs];unfold Qf
   simp only[Jp h,ct,Aa h,Aht h,mt,mu,uT,A05,An9,A73,Ahs,mq]
   rw[(Bar _ _).2 e,ct]
  ·rw[Eg h] at A
   have B:s ∈ L.drop (j+1):=by
    rcases List.mem_cons.1 A with rfl | A
    ·exact absurd rfl e
    ·exact A
   obtain⟨p,D,F⟩:=Av7 hL m (j+1) fuel (by omega) (by omega) B
   refine⟨p,D,fun K=>?_⟩
   rw[Gs];unfold Qf
   simp only[Jp h,ct,Aa h,Aht h,mt,mu,uT,A05,An9,A73,Ahs,mq]
   have:((L[j].k==s.k)&&((L[j].h==s.h)&&true))=false:=by
    cases G:((L[j].k==s.k)&&((L[j].h==s.h)&&true)) with
    | false=>rfl
    | true=>exact absurd ((Bar _ _).1 G) e
   rw[this,cf,wS (by omega),F]
theorem Av8 {N:Nat} {u:UnitD} {s:StD} {o d:Bool} {K:Bool→Option R} (hN:1100≤N) (hs:C4 u=true) (k:DK u s):tZ N u.av o s.av d K=K true:=by
 have A:=Qg hs;have B:=VP hs
 rw[Ahn];unfold Ar9
 rw[D8,ct,uT,ct,A05,An9,ct,Cg,RG];unfold Yc
 rw[D8,ct,Cg,zS hN hs]
 have C:(Asb u).length≤100:=by unfold Asb;simp[A2k];omega
 obtain⟨p,D,e⟩:=Av7 (R:=R) (N:=N) (L:=Asb u) (s:=s) (c:=false) (by omega) (Asb u).length 0 N (by omega) (by omega) (by rw[List.drop_zero];exact A74 hs k)
 have e':=e fun f=>K (decide (f≥0))
 rw[show((0:Nat):Int)=0 from rfl] at e'
 dsimp only
 rw[e',show decide (p≥0)=true by simp;omega]
theorem lE {N:Nat} {u:UnitD} {s:StD} {o d:Bool} {K:Nat→LA→Option R} (hN:1100≤N) (hs:C4 u=true) (A:DK u s):HM N u.av o s.av d K=K (J7 u s).length ((J7 u s).flatMap StD.av):=by
 have F:=Qg hs;have G:=VP hs;have D:=t5 hs A
 rw[rA];unfold t4
 rw[D8,ct,uT,ct,A05,An9,ct,Cg,Av8 hN hs A,show(!true)=false from rfl,cf,ct,NI hs]
 simp only[Ahs,mq,Bb8,Ba6,Bac]
 rw[i64 (a:=s.h+1) (by omega)]
 unfold J7
 rcases D.2.2 with B | B | B<;>rw[B]
 ·by_cases k:s.h<u.downTime
  ·simp[k,StD.av]
  ·by_cases C:u.startTime>0
   ·simp[k,C,StD.av]
   ·simp[k,C,StD.av]
 ·by_cases k:s.h<u.startTime<;>simp[k,StD.av]
 ·by_cases k:s.h≥u.upTime<;>simp[k,StD.av]
end
end Gx

namespace Gx
open Go Go.Proofs
section
variable {R:Type}
def mv (u:UnitD) (h kind:Int):Bool:=kind==0||!(decide (h ∈ u.away.l))
def ZX (l:List StD) (v:Int):Option StD:=l.find? fun s=>s.k==v
def ZY (u:UnitD) (h:Int) (s:StD) (kind:Int):Option StD:=cond (mv u h kind) (ZX (J7 u s) kind) none
def N6 (u:UnitD):Int→StD→List Int→List StD×Bool
 | _,_,[]=>([],true)
 | h,s,k::r=>match ZY u h s k with
  | none=>([],false)
  | some t=>(t::(N6 u (h+1) t r).1,(N6 u (h+1) t r).2)
theorem A5v {l:List StD} {v:Int} {t:StD} (h:ZX l v=some t):t ∈ l∧t.k=v:=by
 unfold ZX at h
 exact⟨List.mem_of_find?_eq_some h,by simpa using List.find?_some h⟩
theorem Av9 {u:UnitD} {h kind:Int} {s t:StD} (k:mv u h kind=true) (A:ZX (J7 u s) kind=some t):ZY u h s kind=some t:=by unfold ZY;rw[k,A];rfl
theorem Awa {u:UnitD} {h kind:Int} {s t:StD} (hs:C4 u=true) (A:DK u s) (e:ZY u h s kind=some t):DK u t∧t.k=kind∧t ∈ J7 u s∧mv u h kind=true:=by
 unfold ZY at e
 cases B:mv u h kind with
 | false=>rw[B] at e;cases e
 | true =>
  rw[B] at e
  have:=A5v (l:=J7 u s) e
  exact⟨Ahr hs A t this.1,this.2,this.1,rfl⟩
theorem A9m {N:Nat} {s:StD} {v:Int} {o:Bool} {K:Bool→Option R}:Ju N s.av o v K=K (s.k==v):=by
 rw[GP];rfl
theorem Awb {N:Nat} {X:Option R} {K:Int→Option R} {L:List StD} {a b:Bool} {v:Int} (hL:L.length≤1000):∀ (m j fuel:Nat),j+m=L.length→m<fuel→(ZX (L.drop j) v=none→K (-1)=X)→(∀ i (h:i<L.length),ZX (L.drop j) v=some L[i]→K (i:Int)=X) →
  Ay N K (L.flatMap StD.av) L.length a b v fuel (L.length:Int) (j:Int)=X
 | 0,j,fuel+1,D,_,A,_=>by
  rw[Ay];unfold Bf
  rw[Lb (by omega),cf]
  exact A (by rw[Fw (by omega)];rfl)
 | m+1,j,fuel+1,D,F,A,B=>by
  rw[Ay];unfold Bf
  have h:j<L.length:=by omega
  rw[Jp h,ct,Aa h,ct,A71 h,mt,ct,mu,An9,ct,A9m]
  rw[Eg h] at A B
  unfold ZX at A B
  simp only[List.find?_cons] at A B
  cases C:(L[j].k==v) with
  | true=>rw[C] at B;rw[ct];exact B j h rfl
  | false =>
   rw[C] at A B
   rw[cf,wS (by omega)]
   exact Awb hL m (j+1) fuel (by omega) (by omega) A B
theorem Bbr {N:Nat} {X:Option R} {K:Int→Option R} {L:List StD} {a b:Bool} {v:Int} (hL:L.length≤10) (hN:64≤N) (k:ZX L v=none→K (-1)=X) (A:∀ i (h:i<L.length),ZX L v=some L[i]→K (i:Int)=X) :
  An N (L.flatMap StD.av) L.length a b v K=X:=by
 rw[Bg];unfold Bk
 exact Awb (by omega) L.length 0 N (by omega) (by omega) k A
theorem t9 {N:Nat} {X:Option R} {K:LA→Option R} {l:List Int} {a:Bool} (B:l.length≤1000000):∀ (m j fuel:Nat) (d:List Int),j+m=l.length→m<fuel→(∀ e:List Int,(∀ x,x ∈ e↔x ∈ d∨x ∈ l.drop j)→K (Av e)=X) →
  Sm N K (Av l) l.length a fuel (l.length:Int) (j:Int) (Av d)=X
 | 0,j,fuel+1,d,C,_,k=>by
  rw[Sm];unfold KT
  rw[Lb (by omega),cf]
  exact k d (by intro x;rw[Fw (by omega)];simp)
 | m+1,j,fuel+1,d,C,G,k=>by
  rw[Sm];unfold KT
  have h:j<l.length:=by omega
  rw[Jp h,ct,Aa h,ct,C3 h,wS (by omega)]
  rw[Eg h] at k
  unfold Axk
  cases D:nP (Av d) l[j] with
  | true =>
   have F:l[j] ∈ d:=(NV d _).1 D
   refine t9 B m (j+1) fuel d (by omega) (by omega) fun e A=>k e fun x=>?_
   rw[A x,List.mem_cons]
   constructor
   ·rintro(h | h)
    ·exact .inl h
    ·exact .inr (.inr h)
   ·rintro(h | h | h)
    ·exact .inl h
    ·exact .inl (h▸F)
    ·exact .inr h
  | false =>
   rw[show cond false (Av d) (Av d++[.int .i64 l[j]])=Av (d++[l[j]]) by simp[Av]]
   refine t9 B m (j+1) fuel (d++[l[j]]) (by omega) (by omega) fun e A=>k e fun x=>?_
   rw[A x,List.mem_cons,List.mem_append,List.mem_singleton,or_assoc]
theorem A9n {N:Nat} {X:Option R} {K:LA→Option R} {u:UnitD} {a:Bool} (A:u.away.l.length≤1000) (hN:1100≤N) (h:∀ e:List Int,(∀ x,x ∈ e↔x ∈ u.away.l)→K (Av e)=X):UC N u.av a K=X:=by
 rw[d6];unfold pj
 rw[A8u]
 exact t9 (by omega) u.away.l.length 0 N [] (by omega) (by omega) fun e k=>h e fun x=>by rw[k x];simp
theorem Bbs (e:List Int) (n:Int):nP (Av e) n=decide (n ∈ e):=by
 rw[Bool.eq_iff_iff,decide_eq_true_eq];exact NV e n
theorem Bas (s t:StD):((Nat.beq (List.length s.av) 2)&&((Nat.ble 2 (List.length t.av))&&(!false)))=true:=rfl
theorem Bat (s:StD):((Nat.beq (List.length s.av) 2)&&(Nat.ble 2 2))=true:=rfl
theorem A2l (s:StD):((Nat.beq (List.length s.av) 2)&&((Nat.ble 2 2)&&(!false)))=true:=rfl
theorem Asc {N:Nat} {X:Option R} {K:Nat→Int→Int→LA→Option R} {u:UnitD} {ks:List Int} {i j o:Bool} {e:List Int} (hN:1100≤N) (hs:C4 u=true) (hk:ks.length≤1000) (U:∀ x,x ∈ e↔x ∈ u.away.l):∀ (m h fuel:Nat) (s:StD) (l:List StD),h+m=ks.length→m<fuel→l.length=h→DK u s →
  ((N6 u h s (ks.drop h)).2=true→K ks.length ks.length 0 ((l++(N6 u h s (ks.drop h)).1).flatMap StD.av)=X)→((N6 u h s (ks.drop h)).2=false→K 0 ((l++(N6 u h s (ks.drop h)).1).length:Nat) 16 []=X) →
  Oq N K (Av ks) ks.length i j o u.av (Av e) fuel l.length (ks.length:Int) (h:Int) (l.flatMap StD.av) s.av=X:=by
 intro m
 induction m with
 | zero =>
  intro h fuel s l V Y M D I _
  obtain⟨fuel,rfl⟩:∃ k,fuel=k+1:=⟨fuel - 1,by omega⟩
  rw[Oq];unfold KV
  rw[Lb (by omega),cf,show l.length=ks.length by omega]
  rw[Fw (by omega)] at I
  simpa[N6] using I rfl
 | succ m ih =>
  intro h fuel s l V Y M D I F
  obtain⟨fuel,rfl⟩:∃ k,fuel=k+1:=⟨fuel - 1,by omega⟩
  rw[Oq];unfold KV
  have C:h<ks.length:=by omega
  rw[Jp C,ct,Aa C,ct,C3 C,D8,ct,uT,ct,Cg,A05,Asa (by omega) hs D,Bbs]
  rw[Eg C,N6] at I F
  have hd:decide ((h:Int) ∈ e)=decide ((h:Int) ∈ u.away.l):=by rw[decide_eq_decide];exact U _
  rw[hd]
  refine Bbr (Nat.le_trans t6 (by omega)) (by omega) (fun G=>?_) (fun p S B=>?_)
  ·rw[show(decide ((-1:Int)<0)==false)=false from rfl,cf]
   have A:ZY u h s ks[h]=none:=by unfold ZY;rw[G];cases mv u h ks[h]<;>rfl
   rw[A] at F
   simpa[M] using F rfl
  ·rw[show(decide ((p:Int)<0)==false)=true by simp,ct]
   have go:ZY u h s ks[h]=some (J7 u s)[p]→(cond (Ad (p:Int) (J7 u s).length) (cond (Nat.ble 2 (List.length (List.drop ((Int.toNat (p:Int))*2) ((J7 u s).flatMap StD.av)))) (cond ((Nat.beq (List.length (List.take 2 (List.drop ((Int.toNat (p:Int))*2) ((J7 u s).flatMap StD.av)))) 2)&&((Nat.ble 2 (List.length s.av))&&(!false))) (cond (Nat.ble 2 (List.length (setCells s.av 0 (List.take 2 (List.drop ((Int.toNat (p:Int))*2) ((J7 u s).flatMap StD.av)))))) (cond ((Nat.beq (List.length (List.take 2 (setCells s.av 0 (List.take 2 (List.drop ((Int.toNat (p:Int))*2) ((J7 u s).flatMap StD.av)))))) 2)&&(Nat.ble 2 2)) (cond ((Nat.ble (l.length+1) 140737488355328)&&(Nat.ble ((l.length+1)*16) 140737488355328)) (Oq N K (Av ks) ks.length i j o u.av (Av e) fuel (l.length+1) (ks.length:Int) (IntKind.wrap .i64 ((h:Int)+(1:Int))) ((List.take (l.length*2) (l.flatMap StD.av))++(List.take 2 (setCells [(.int .i64 0),(.int .i64 0)] 0 (List.take 2 (setCells s.av 0 (List.take 2 (List.drop ((Int.toNat (p:Int))*2) ((J7 u s).flatMap StD.av)))))))) (setCells s.av 0 (List.take 2 (List.drop ((Int.toNat (p:Int))*2) ((J7 u s).flatMap StD.av))))) none) none) none) none) none) none)=X:=by
    intro A
    rw[Aa S,ct,A71 S,mt,ct,mu,Bas,ct,A70,uT,ct,A05,Bat,ct,A47 (by omega),ct,Baq,A05,RL,wS (by omega)]
    rw[A] at I F
    have:=ih (h+1) fuel (J7 u s)[p] (l++[(J7 u s)[p]]) (by omega) (by omega) (by simp;omega) (Awa hs D A).1
     (fun O=>by have:=I O;simpa using this) (fun O=>by have:=F O;simpa using this)
    simpa using this
   by_cases L:ks[h]=0
   ·rw[show((ks[h] != 0)==true)=false by simp[L],cf]
    exact go (Av9 (by unfold mv;simp[L]) B)
   ·rw[show((ks[h] != 0)==true)=true by simp[L],ct]
    cases T:decide ((h:Int) ∈ u.away.l) with
    | true =>
     have A:ZY u h s ks[h]=none:=by unfold ZY mv;rw[T,show(ks[h]==0)=false by simpa using L];rfl
     rw[A] at F
     simpa[M] using F rfl
    | false =>
     rw[show(cond false true (cond true false false))=false from rfl,cf]
     exact go (Av9 (by unfold mv;rw[T];simp) B)
theorem A06 {N:Nat} {X:Option R} {K:Nat→Int→Int→LA→Option R} {u:UnitD} {ks:List Int} {n:Nat} {i j o:Bool} (hN:1100≤N) (hs:C4 u=true) (k:u.away.l.length≤1000) (A:ks.length≤1000) (hn:n=ks.length)
  (B:(N6 u 0 (Mo u) ks).2=true→K ks.length ks.length 0 ((N6 u 0 (Mo u) ks).1.flatMap StD.av)=X) (C:(N6 u 0 (Mo u) ks).2=false→K 0 ((N6 u 0 (Mo u) ks).1.length:Nat) 16 []=X) :
  UG N u.av o (Av ks) n i j K=X:=by
 subst hn
 rw[dx];unfold dw
 rw[D8,ct,Cg,Nh (by omega),hs,show(!true)=false from rfl,cf,ct]
 refine A9n k hN fun e D=>?_
 rw[show((decide ((0:Int)≤(0:Int)))&&((decide ((0:Int)≤((ks.length:Nat):Int)))&&((decide (((ks.length:Nat):Int)≤(140737488355328:Int)))&&(decide ((((ks.length:Nat):Int)*((16:Nat):Int))≤(140737488355328:Int))))))=true by simp;omega,ct,ct,zR (by omega) hs,A2l,ct,Baq]
 exact Asc hN hs A D ks.length 0 N (Mo u) [] (by omega) (by omega) rfl (t7 hs) (by simpa using B) (by simpa using C)
end
end Gx

namespace Gx
open Go Go.Proofs
section
variable {R:Type}
theorem A07 {N:Nat} {u:UnitD} {b:Bool} {K:Bool→Option R}:Tf N u.av b K=K (decide (u.away.l.length≤40)&&decide (u.segs.l.length≤20)):=by
 rw[WT];unfold TM
 rw[A8u,u4]
 by_cases h:u.away.l.length≤40
 ·rw[show(decide ((u.away.l.length:Int)≤40)==true)=true by simp;omega,ct,Axi,decide_eq_true h,Bool.true_and]
  congr 1;rw[decide_eq_decide];omega
 ·rw[show(decide ((u.away.l.length:Int)≤40)==true)=false by simp;omega,cf,decide_eq_false h];rfl
variable {N:Nat} {K:Bool→Option R} {a:List UInt8} {b d e:Int} {sg:List SegD} {c:Bool} {g i j l m t u w n o x p q:Int} {aw:List Int} {ab:Bool} {z aa r:Int}
def Bdg (a:List UInt8) (b d e:Int) (sg:List SegD) (c:Bool) (g i j l m t u w n o x p q:Int) (aw:List Int) (ab:Bool) (z aa r:Int):UnitD :=
 ⟨a,b,d,e,.of sg false c,g,i,j,l,m,t,u,w,n,o,x,p,q,.of aw false ab,z,aa,r⟩
theorem A75:[AV.str a,(.int .i64 b),(.int .i64 d),(.int .i64 e),(.imm (sg.flatMap SegD.av) sg.length 2 false c),(.int .i64 g),(.int .i64 i),(.int .i64 j),(.int .i64 l),(.int .i64 m),(.int .i64 t),(.int .i64 u),(.int .i64 w),(.int .i64 n),(.int .i64 o),(.int .i64 x),(.int .i64 p),(.int .i64 q),(.imm (Av aw) aw.length 1 false ab),(.int .i64 z),(.int .i64 aa),(.int .i64 r)] =
  (Bdg a b d e sg c g i j l m t u w n o x p q aw ab z aa r).av:=by
 rw[←Ee];rfl
end
end Gx

namespace Gx
open Go Go.Proofs
open IntKind (wrap)
set_option maxRecDepth 100000
noncomputable section
variable {R:Type} (N:Nat)
def DL (r0:Nat→Int→Int→LA→O R) (d:LA) (b:Nat) (e f c:Bool) (a:LA) (k0:Nat→Int→LA→LA→O R) (i:Nat) (g:Int) (m l:LA):O R :=
 (cond (decide (g<((b:Nat):Int))) (cond (Nat.ble 22 (a.length)) (cond (Nat.ble 2 (l.length)) (cond (Ad g b) (Ao .i64 (d.drop ((g.toNat)*1)) fun q=>(RI N (a.take 22) c g (l.take 2) false q (fun o r=>(cond ((Nat.beq (o.length) 2)&&((Nat.ble 2 2)&&(!false))) (cond (!r) (r0 0 g 16 []) (cond (Nat.ble 2 ((setCells [(.int .i64 0),(.int .i64 0)] 0 o).length)) (cond ((Nat.beq (((setCells [(.int .i64 0),(.int .i64 0)] 0 o).take 2).length) 2)&&(Nat.ble 2 2)) (cond ((Nat.ble (i+1) 140737488355328)&&(Nat.ble ((i+1)*16) 140737488355328)) (cond (Nat.ble 2 ((setCells [(.int .i64 0),(.int .i64 0)] 0 o).length)) (cond ((Nat.beq (((setCells [(.int .i64 0),(.int .i64 0)] 0 o).take 2).length) 2)&&((Nat.ble 2 (l.length))&&(!false))) (k0 (i+1) (wrap .i64 (g+1)) ((m.take (i*2))++((setCells [(.int .i64 0),(.int .i64 0)] 0 ((setCells [(.int .i64 0),(.int .i64 0)] 0 o).take 2)).take 2)) (setCells l 0 ((setCells [(.int .i64 0),(.int .i64 0)] 0 o).take 2))) none) none) none) none) none)) none)))) none) none) none) (r0 i ((b:Nat):Int) 0 m))
def Pi (r0:Nat→Int→Int→LA→O R) (d:LA) (b:Nat) (e f c:Bool) (a:LA):Nat→Nat→Int→LA→LA→O R
 | 0,_,_,_,_=>none
 | n+1,i,g,m,l=>(DL N r0 d b e f c a (Pi r0 d b e f c a n) i g m l)
def gk (r0:Nat→Int→Int→LA→O R) (q0:Nat→Int→LA→LA→O R) (a:LA) (c:Bool) (d:LA) (b:Nat) (e f:Bool):O R :=
 (cond (Nat.ble 22 (a.length)) (Kw N (a.take 22) c (fun s=>(cond (!s) (r0 0 0 1 []) (cond (Nat.ble 22 (a.length)) (Pf N (a.take 22) c (fun p=>(cond ((Nat.beq (p.length) 2)&&((Nat.ble 2 2)&&(!false))) (q0 0 0 [] (setCells [(.int .i64 0),(.int .i64 0)] 0 p)) none))) none)))) none)
def RM:=(Ah (fun (N:Nat) (a:LA) (c:Bool) (d:LA) (b:Nat) (e f:Bool) (r0:Nat→Int→Int→LA→O R)=>(gk N r0 (fun i g m l=>(Pi N r0 d b e f c a N i g m l)) a c d b e f))).1
theorem rE (a c d b e f r0):(@RM R N a c d b e f r0)=(gk N r0 (fun i g m l=>(Pi N r0 d b e f c a N i g m l)) a c d b e f):=by rw[RM,(Ah _).2]
def xk:Hints:={ H:=(hS hL (hS hL (hS hL (hS hL (hS (hS hL (hS (hP [1,2,7,8,9] hL) hL)) hL))))),nils:=[(4,2),(7,2)],modes:=[(2,2),(0,0),(0,0)] }
def Ahu:Ek:=[(52,Lw N),(113,HK N),(121,xj N)]
def Awc (F:KF R):=Kk Tryz.f67 xk (Ahu N) [] N F
def Zr (F:KF R):Nat→Int→Int→LA→O R:=(fun t u v w=>F (.tup [(.own 300000 0 t),(.int .i64 u),(.int .i64 v)]) [(300000,(bQ 2 w))])
def Awd (d:LA) (b:Nat) (e f c:Bool) (a:LA) (i:Nat) (g:Int) (m l:LA):St:=⟨[(1,(.imm d b 1 e f)),(2,(.optr 300000 0)),(7,(.own 300001 0 i)),(8,(.optr 300002 0)),(9,(.int .i64 g))],[(300000,(bP c 0 a)),(300001,(bQ 2 m)),(300002,(bQ 0 l))]⟩
def Awe (F:KF R):=Awc N F [1,1,1,1,0,1,0] []
theorem fT (F:KF R) (d:LA) (b:Nat) (e f c:Bool) (a:LA):∀ (n i:Nat) (g:Int) (m l:LA),Ap (Awe N F) n (Awd d b e f c a i g m l)=(Pi N (Zr F) d b e f c a n i g m l)
 | 0,_,_,_,_=>by kernel_rfl
 | n+1,i,g,m,l=>Eq.trans (by kernel_rfl) (Bs (DL N (Zr F) d b e f c a · i g m l) (funext fun i=>funext fun g=>funext fun m=>funext fun l=>(fT F d b e f c a n i g m l)):_)
theorem xm (a:LA) (c:Bool) (d:LA) (b:Nat) (e f:Bool) (F:KF R):Cn (Ahu N) xk N 67 [(.pagg a c),(.imm d b 1 e f)] [] F=(RM N a c d b e f (Zr F)):=by
 rw[rE]
 exact Eq.trans (by kernel_rfl) (Bs (gk N (Zr F) · a c d b e f) (funext fun i=>funext fun g=>funext fun m=>funext fun l=>(Ak ..).trans (fT N F d b e f c a N i g m l)):_)
def rF (args:List AV) (h:Am) (k:KF R):O R :=
 match args,h with
 | [(.pagg a c),(.imm d b 1 e f)],[]=>(RM N a c d b e f (Zr k))
 | _,_=>none
theorem xn:Aq N 67 @rF:=by
 intro R Q args h k j;unfold rF;split
 exact A2 (xm ..) (xm ..) ⟨P8 N,fJ N,Av6 N,trivial⟩
 exact A5
def xo:=A4 (xn N)
theorem Awf:A1 Tryz.prog 67 (xo N):=A6 (xn N) follows
end
end Gx

namespace Gx
open Go Go.Proofs
open IntKind (wrap)
set_option maxRecDepth 100000
noncomputable section
variable {R:Type} (N:Nat)
def t_ (N:Nat) (r0:Bool→O R) (c:LA) (a:Nat) (d e:Bool) (f:LA) (b:Nat) (g i:Bool):O R :=
 (cond ((decide (((a:Nat):Int)≤200))==true) (r0 (cond true (decide (((b:Nat):Int)≤200)) false)) (r0 false))
def RN:=(Ah (fun (N:Nat) (c:LA) (a:Nat) (d e:Bool) (f:LA) (b:Nat) (g i:Bool) (r0:Bool→O R)=>(t_ N r0 c a d e f b g i))).1
theorem rG (c a d e f b g i r0):(@RN R N c a d e f b g i r0)=(t_ N r0 c a d e f b g i):=by rw[RN,(Ah _).2]
def Awg:Hints:={ H:=hL }
def xp (F:KF R):Bool→O R:=(fun l=>F (.bool l) [])
theorem xq (c:LA) (a:Nat) (d e:Bool) (f:LA) (b:Nat) (g i:Bool) (F:KF R):Cn [] Awg N 26 [(.imm c a 1 d e),(.imm f b 1 g i)] [] F=(RN N c a d e f b g i (xp F)):=by
 rw[rG]
 kernel_rfl
def rH (args:List AV) (h:Am) (k:KF R):O R :=
 match args,h with
 | [(.imm c a 1 d e),(.imm f b 1 g i)],[]=>(RN N c a d e f b g i (xp k))
 | _,_=>none
theorem xr:Aq N 26 @rH:=by
 intro R Q args h k j;unfold rH;split
 exact A2 (xq ..) (xq ..) trivial
 exact A5
def xt:=A4 (xr N)
theorem Awh:A1 Tryz.prog 26 (xt N):=A6 (xr N) follows
end
end Gx

namespace Gx
open Go Go.Proofs
section
variable {R:Type}
theorem Awi {N:Nat} {K:Bool→Option R} {l:List Int} {d e:Bool} {c:Int} (k:l.length≤1000000000000):∀ (m j fuel:Nat),j+m=l.length→m<fuel→Wi N K (Av l) l.length d e c fuel (j:Int)=K (decide (c ∈ l.drop j))
 | 0,j,fuel+1,A,_=>by
  rw[Wi];unfold TN
  rw[Lb (by omega),cf,Fw (by omega)];rfl
 | m+1,j,fuel+1,A,B=>by
  rw[Wi];unfold TN
  have h:j<l.length:=by omega
  rw[Jp h,ct,Aa h,ct,C3 h,wS (by omega),Awi k m (j+1) fuel (by omega) (by omega),Eg h]
  by_cases e:l[j]=c
  ·rw[show(l[j]==c)=true by simpa using e,ct];congr 1;simp[e]
  ·rw[show(l[j]==c)=false by simpa using e,cf];congr 1;rw[decide_eq_decide,List.mem_cons]
   constructor
   ·exact .inr
   ·rintro(h | h)
    ·exact absurd h.symm e
    ·exact h
theorem A9o {N:Nat} {K:Bool→Option R} {l:List Int} {n:Nat} {d e:Bool} {c:Int} (hn:n=l.length) (k:l.length≤1000) (hN:1100≤N):mD N (Av l) n d e c K=K (decide (c ∈ l)):=by
 subst hn
 rw[Ac2];unfold z_
 exact Awi (by omega) l.length 0 N (by omega) (by omega)
theorem rI {N:Nat} {K:Bool→Option R} {u:UnitD} {o:Bool} {h k:Int} (A:u.away.l.length≤1000) (hN:1100≤N) (B:k=0∨k=1∨k=2):Pg N u.av o h k K=K (mv u h k):=by
 rw[ZV];unfold VO
 simp only[A8u,A9o rfl A hN]
 unfold mv
 rcases B with rfl | rfl | rfl
 ·rfl
 ·rw[show(((1:Int)==0)==false)=true from rfl,ct,show(((1:Int)==1)==false)=false from rfl,cf];rfl
 ·rfl
theorem A9p {u:UnitD} {s:StD} {t:StD} (hs:C4 u=true) (A:DK u s) (h:t ∈ J7 u s):t.k=0∨t.k=1∨t.k=2:=(t5 hs (Ahr hs A t h)).2.2
theorem ta {N:Nat} {X:Option R} {K:LA→Bool→Option R} {u:UnitD} {L:List StD} {o:Bool} {h k:Int} (D:u.away.l.length≤1000) (hN:1100≤N) (hL:L.length≤1000) (F:∀ t ∈ L,t.k=0∨t.k=1∨t.k=2):∀ (m j fuel:Nat),j+m=L.length→m<fuel →
  (cond (mv u h k) (ZX (L.drop j) k) none=none→K [(.int .i64 0),(.int .i64 0)] false=X)→(∀ t,cond (mv u h k) (ZX (L.drop j) k) none=some t→K t.av true=X) →
  Ph N K h k L.length o u.av (L.flatMap StD.av) fuel (j:Int)=X
 | 0,j,fuel+1,S,_,B,_=>by
  rw[Ph];unfold DJ
  rw[Lb (by omega),cf]
  exact B (by rw[Fw (by omega)];cases mv u h k<;>rfl)
 | m+1,j,fuel+1,S,T,B,C=>by
  rw[Ph];unfold DJ
  have A:j<L.length:=by omega
  rw[Jp A,ct,Aa A,ct,Aht A,A72,mt,mu,A2l,Baq,uT,A05,wS (by omega)]
  rw[Eg A] at B C
  unfold ZX at B C
  simp only[List.find?_cons] at B C
  cases G:(L[j].k==k) with
  | true =>
   rw[G] at B C
   have I:k=0∨k=1∨k=2:=by
    have:=F L[j] (List.getElem_mem A)
    rwa [show L[j].k=k by simpa using G] at this
   rw[show(true==true)=true from rfl,ct,D8,ct,Cg,rI D hN I]
   cases M:mv u h k with
   | true=>rw[M] at C;exact C _ rfl
   | false =>
    rw[M] at B
    rw[show(cond true false false)=false from rfl,cf]
    exact ta D hN hL F m (j+1) fuel (by omega) (by omega) (fun _=>B rfl) (fun t O=>by rw[M] at O;cases O)
  | false =>
   rw[G] at B C
   rw[show(false==true)=false from rfl,cf]
   exact ta D hN hL F m (j+1) fuel (by omega) (by omega) B C
theorem A9q {N:Nat} {X:Option R} {K:LA→Bool→Option R} {u:UnitD} {s:StD} {o d:Bool} {h k:Int} (hs:C4 u=true) (A:DK u s) (B:u.away.l.length≤1000) (hN:1100≤N)
  (C:ZY u h s k=none→K [(.int .i64 0),(.int .i64 0)] false=X) (D:∀ t,ZY u h s k=some t→K t.av true=X):RI N u.av o h s.av d k K=X:=by
 rw[rC];unfold gj
 rw[D8,ct,uT,ct,A05,An9,ct,Cg,lE hN hs A]
 have:=t6 (u:=u) (s:=s)
 exact ta B hN (by omega) (fun t F=>A9p hs A F) (J7 u s).length 0 N (by omega) (by omega) C D
theorem Bcq:((Nat.beq (List.length [(AV.int .i64 0),(.int .i64 0)]) 2)&&((Nat.ble 2 2)&&(!false)))=true:=rfl
theorem Aky {N:Nat} {X:Option R} {K:Nat→Int→Int→LA→Option R} {u:UnitD} {ks:List Int} {i j o:Bool} (hN:1100≤N) (hs:C4 u=true) (T:ks.length≤1000) (L:u.away.l.length≤1000):∀ (m h fuel:Nat) (s:StD) (l:List StD),h+m=ks.length→m<fuel→l.length=h→DK u s →
  ((N6 u h s (ks.drop h)).2=true→K ks.length ks.length 0 ((l++(N6 u h s (ks.drop h)).1).flatMap StD.av)=X)→((N6 u h s (ks.drop h)).2=false→K 0 ((l++(N6 u h s (ks.drop h)).1).length:Nat) 16 []=X) →
  Pi N K (Av ks) ks.length i j o u.av fuel l.length (h:Int) (l.flatMap StD.av) s.av=X:=by
 intro m
 induction m with
 | zero =>
  intro h fuel s l M O D B C _
  obtain⟨fuel,rfl⟩:∃ k,fuel=k+1:=⟨fuel - 1,by omega⟩
  rw[Pi];unfold DL
  rw[Lb (by omega),cf,show l.length=ks.length by omega]
  rw[Fw (by omega)] at C
  simpa[N6] using C rfl
 | succ m S =>
  intro h fuel s l M O D B C F
  obtain⟨fuel,rfl⟩:∃ k,fuel=k+1:=⟨fuel - 1,by omega⟩
  rw[Pi];unfold DL
  have A:h<ks.length:=by omega
  rw[Jp A,ct,D8,ct,uT,ct,Aa A,ct,C3 A,Cg,A05]
  rw[Eg A,N6] at C F
  refine A9q hs B L hN (fun hn=>?_) (fun t I=>?_)
  ·rw[hn] at F
   rw[Bcq,ct]
   simpa[D] using F rfl
  ·rw[I] at C F
   rw[A2l,ct,show(!true)=false from rfl,cf,Baq,uT,ct,A05,Bat,ct,A47 (by omega),ct,ct,show ∀ t:StD,((Nat.beq (List.length t.av) 2)&&(true&&(!false)))=true from fun _=>rfl,ct,Baq,A05,A70,RL,wS (by omega)]
   have:=S (h+1) fuel t (l++[t]) (by omega) (by omega) (by simp;omega) (Awa hs B I).1
    (fun G=>by have:=C G;simpa using this) (fun G=>by have:=F G;simpa using this)
   simpa using this
theorem Awj {N:Nat} {X:Option R} {K:Nat→Int→Int→LA→Option R} {u:UnitD} {ks:List Int} {n:Nat} {i j o:Bool} (hN:1100≤N) (hs:C4 u=true) (k:u.away.l.length≤1000) (A:ks.length≤1000) (hn:n=ks.length)
  (B:(N6 u 0 (Mo u) ks).2=true→K ks.length ks.length 0 ((N6 u 0 (Mo u) ks).1.flatMap StD.av)=X) (C:(N6 u 0 (Mo u) ks).2=false→K 0 ((N6 u 0 (Mo u) ks).1.length:Nat) 16 []=X) :
  RM N u.av o (Av ks) n i j K=X:=by
 subst hn
 rw[rE];unfold gk
 rw[D8,ct,Cg,Kx,hs,show(!true)=false from rfl,cf,ct,RK hs,A2l,ct,Baq]
 exact Aky hN hs A k ks.length 0 N (Mo u) [] (by omega) (by omega) rfl (t7 hs) (by simpa using B) (by simpa using C)
end
end Gx

namespace Gx
open Go Go.Proofs
section
variable {R:Type}
structure PD where
 lo:Int
 hi:Int
def PD.av (p:PD):List AV:=[.int .i64 p.lo,.int .i64 p.hi]
def tb (n:Nat) (g:Nat→PD):LA:=((List.range n).map g).flatMap PD.av
def tc (g:Nat→PD) (i:Nat) (v:PD):Nat→PD:=fun j=>if j=i then v else g j
theorem Gc {n:Nat} {g g':Nat→PD} (h:∀ i,i<n→g i=g' i):tb n g=tb n g':=by
 unfold tb;rw[List.map_congr_left (fun i hi=>h i (by simpa using hi))]
theorem Bbt (n:Nat) (g:Nat→PD):(tb n g).length=n*2:=by
 unfold tb
 induction n with
 | zero=>rfl
 | succ n k=>rw[List.range_succ,List.map_append,List.flatMap_append,List.length_append,k];simp[PD.av];omega
theorem A2m {n j:Nat} {g:Nat→PD} (h:j<n):List.drop (j*2) (tb n g)=(g j).av++(((List.range n).map g).drop (j+1)).flatMap PD.av:=by
 unfold tb
 rw[Bn (e:=PD.av) (sz:=2) (fun _=>rfl) _ j (by simpa using h)];simp
theorem rJ {n j:Nat} {g:Nat→PD} (h:j<n) {f:Int→Option R}:Ao .i64 (List.drop (0+(Int.toNat (j:Int))*2) (tb n g)) f=f (g j).lo:=by
 rw[Int.toNat_natCast,Nat.zero_add,A2m h];exact Az
theorem rK {n j:Nat} {g:Nat→PD} (h:j<n) {f:Int→Option R}:Ao .i64 (List.drop ((0+(Int.toNat (j:Int))*2)+1) (tb n g)) f=f (g j).hi:=by
 rw[Int.toNat_natCast,Nat.zero_add,←List.drop_drop,A2m h];exact Az
theorem Ahv {n j:Nat} {g:Nat→PD} (h:j<n):List.take 2 (List.drop (0+(Int.toNat (j:Int))*2) (tb n g))=(g j).av:=by
 rw[Int.toNat_natCast,Nat.zero_add,A2m h];rfl
theorem Ahw {n j:Nat} {g:Nat→PD} (h:j<n):Nat.ble 2 (List.length (List.drop (0+(Int.toNat (j:Int))*2) (tb n g)))=true:=by
 rw[Int.toNat_natCast,Nat.zero_add,A2m h];rfl
theorem Aod {n j:Nat} {g:Nat→PD} (h:j<n):((Nat.beq 2 2)&&((Nat.ble ((0+(Int.toNat (j:Int))*2)+2) (List.length (tb n g)))&&(!false)))=true:=by
 rw[Int.toNat_natCast,Bbt];simp;omega
theorem Bbu {n j:Nat} {g:Nat→PD} {p:PD} (h:j<n):((Nat.beq (List.length p.av) 2)&&((Nat.ble ((0+(Int.toNat (j:Int))*2)+2) (List.length (tb n g)))&&(!false)))=true:=Aod h
theorem xu {α:Type} {e:α→List AV} {sz:Nat} (k:∀ a,(e a).length=sz):∀ (l:List α) (j:Nat) (v:α),j<l.length→Cr (l.flatMap e) (j*sz) (e v)=(l.set j v).flatMap e
 | a::r,0,v,_=>by
  unfold Cr
  rw[Nat.zero_mul,List.take_zero,List.nil_append,Nat.zero_add,k,List.flatMap_cons,List.drop_append,k,Nat.sub_self,List.drop_eq_nil_of_le (by rw[k];exact Nat.le_refl _)];simp
 | a::r,j+1,v,h=>by
  have A:=xu k r j v (by simpa using h)
  unfold Cr at A ⊢
  rw[List.flatMap_cons,List.take_append,List.drop_append,k,k,List.take_of_length_le (by rw[k,Nat.add_mul];omega),List.drop_eq_nil_of_le (by rw[k,Nat.add_mul];omega),show(j+1)*sz - sz=j*sz by rw[Nat.add_mul];omega,show(j+1)*sz+sz - sz=j*sz+sz by rw[Nat.add_mul];omega]
  rw[k] at A
  rw[List.set_cons_succ,List.flatMap_cons,←A];simp
theorem mw {n j:Nat} {g:Nat→PD} {v:PD} (h:j<n):Cr (tb n g) (0+(Int.toNat (j:Int))*2) v.av=tb n (tc g j v):=by
 rw[Int.toNat_natCast,Nat.zero_add]
 unfold tb
 rw[xu (e:=PD.av) (sz:=2) (fun _=>rfl) _ j v (by simpa using h)]
 congr 1
 refine List.ext_getElem (by simp) fun i k A=>?_
 rw[List.getElem_set]
 simp only[List.getElem_map,List.getElem_range,tc]
 by_cases e:j=i
 ·subst e;simp
 ·rw[if_neg e,if_neg (fun h=>e h.symm)]
theorem A2n (n:Nat):List.flatten (List.replicate n ([(.int .i64 0),(.int .i64 0)]:LA))=tb n fun _=>⟨0,0⟩:=by
 unfold tb
 induction n with
 | zero=>rfl
 | succ n k =>
  rw[List.replicate_succ',List.flatten_append,k,List.range_succ,List.map_append,List.flatMap_append];rfl
theorem A9r {n j:Nat} {g:Nat→PD} {v:PD} (h:j<n):setCells (tb n g) (0+(Int.toNat (j:Int))*2) v.av=tb n (tc g j v):=mw h
theorem Bbv (p q:PD):setCells p.av 0 q.av=q.av:=rfl
theorem Asd (q:PD):setCells [(.int .i64 0),(.int .i64 0)] 0 q.av=q.av:=rfl
theorem Awk {p:PD} {f:Int→Option R}:Ao .i64 p.av f=f p.lo:=Az
theorem Awl {p:PD} {f:Int→Option R}:Ao .i64 (List.drop 1 p.av) f=f p.hi:=Az
theorem Bdh (p q:PD):((Nat.beq (List.length p.av) 2)&&((Nat.ble 2 (List.length q.av))&&(!false)))=true:=rfl
theorem A76 (p:PD):((Nat.beq (List.length p.av) 2)&&((Nat.ble 2 2)&&(!false)))=true:=rfl
def Cq (ks:List Int) (h:Nat):Bool:=ks.getD h 0==2
theorem G6 {ks:List Int} {h:Nat} (k:h<ks.length):Cq ks h=(ks[h]==2):=by unfold Cq;rw[List.getD_eq_getElem?_getD,List.getElem?_eq_getElem k];rfl
section
variable (u:UnitD) (ks:List Int)
def N7:Nat→Bool
 | 0=>u.state==2
 | h+1=>Cq ks h
def Z2:Nat→PD
 | 0=>cond (Cq ks 0) (cond (u.state==2) ⟨Ig u.min (u.output - u.rampDown),Bv u.max (u.output+u.rampUp)⟩ ⟨u.min,u.startRamp⟩) ⟨0,0⟩
 | h+1=>cond (Cq ks (h+1)) (cond (Cq ks h) ⟨Ig u.min ((Z2 h).lo - u.rampDown),Bv u.max ((Z2 h).hi+u.rampUp)⟩ ⟨u.min,u.startRamp⟩) ⟨0,0⟩
def DM (n h:Nat):PD:=cond (Cq ks h&&(decide (h+1<n)&&!Cq ks (h+1))) ⟨(Z2 u ks h).lo,Bv (Z2 u ks h).hi u.stopRamp⟩ (Z2 u ks h)
def Bc1 (n:Nat):Nat→PD
 | 0=>DM u ks n (n - 1)
 | i+1=>cond (Cq ks (n - 2 - i)&&Cq ks (n - 1 - i)) ⟨Ig (DM u ks n (n - 2 - i)).lo ((Bc1 n i).lo - u.rampUp),Bv (DM u ks n (n - 2 - i)).hi ((Bc1 n i).hi+u.rampDown)⟩ (DM u ks n (n - 2 - i))
def Ty (n h:Nat):PD:=Bc1 u ks n (n - 1 - h)
theorem RO {n:Nat} (hn:0<n):Ty u ks n (n - 1)=DM u ks n (n - 1):=by unfold Ty;rw[Nat.sub_self];rfl
theorem HP {n h:Nat} (k:h+1<n):Ty u ks n h=cond (Cq ks h&&Cq ks (h+1)) ⟨Ig (DM u ks n h).lo ((Ty u ks n (h+1)).lo - u.rampUp),Bv (DM u ks n h).hi ((Ty u ks n (h+1)).hi+u.rampDown)⟩ (DM u ks n h):=by
 unfold Ty
 rw[show n - 1 - h=(n - 1 - (h+1))+1 by omega,Bc1,show n - 2 - (n - 1 - (h+1))=h by omega,show n - 1 - (n - 1 - (h+1))=h+1 by omega]
end
section
variable {u:UnitD} {ks:List Int} {n:Nat}
structure UOk (u:UnitD):Prop where
 a:0≤u.min∧u.min≤u.max∧u.max≤1048576
 b:0≤u.rampUp∧u.rampUp≤1048576∧0≤u.rampDown∧u.rampDown≤1048576
 c:u.min≤u.startRamp∧u.startRamp≤u.max∧u.min≤u.stopRamp∧u.stopRamp≤u.max
 d:u.state=2→u.min≤u.output∧u.output≤u.max
theorem Ahx (g:UOk u):∀ h,0≤(Z2 u ks h).lo∧(Z2 u ks h).lo≤1048576∧0≤(Z2 u ks h).hi∧(Z2 u ks h).hi≤1048576∧(Cq ks h=true→u.min≤(Z2 u ks h).lo∧(Z2 u ks h).lo≤u.max∧u.min≤(Z2 u ks h).hi∧(Z2 u ks h).hi≤u.max)
 | 0=>by
  obtain⟨a,b,c,d⟩:=g
  unfold Z2
  cases Cq ks 0 with
  | false=>simp
  | true =>
   by_cases hs:u.state=2
   ·have:=d hs;rw[show(u.state==2)=true by simpa using hs];simp only[cond_true,Kg,R6];omega
   ·rw[show(u.state==2)=false by simpa using hs];simp only[cond_true,cond_false];omega
 | h+1=>by
  have k:=Ahx g h
  obtain⟨a,b,c,d⟩:=g
  rw[Z2]
  cases Cq ks (h+1) with
  | false=>simp
  | true =>
   cases A:Cq ks h with
   | true=>have:=k.2.2.2.2 A;simp only[cond_true,Kg,R6];omega
   | false=>simp only[cond_true,cond_false];omega
theorem Awm (g:UOk u) (h:Nat):(DM u ks n h).lo=(Z2 u ks h).lo∧(DM u ks n h).hi≤(Z2 u ks h).hi∧0≤(DM u ks n h).hi∧(Cq ks h=true→u.min≤(DM u ks n h).hi):=by
 have k:=Ahx (ks:=ks) g h
 obtain⟨a,b,c,d⟩:=g
 unfold DM
 cases A:Cq ks h<;>cases decide (h+1<n)<;>cases Cq ks (h+1)<;>simp only[Bool.and_true,Bool.true_and,Bool.not_true,Bool.not_false,Bool.and_false,Bool.false_and,cond_true,cond_false,Kg]<;>(have:=k.2.2.2.2;simp[A] at this ⊢;try omega)
theorem A77 {h:Nat} (k:Cq ks (h+1)=true):DM u ks n h=Z2 u ks h:=by unfold DM;rw[k];simp
theorem Awn (g:UOk u):∀ (i h:Nat),h+i+1=n→(DM u ks n h).lo≤(Ty u ks n h).lo∧(Ty u ks n h).hi≤(DM u ks n h).hi∧(Ty u ks n h).lo≤1048576∧0≤(Ty u ks n h).hi
 | 0,h,hi=>by
  rw[show h=n - 1 by omega,RO _ _ (by omega)]
  have:=Awm (ks:=ks) (n:=n) g (n - 1);have:=Ahx (ks:=ks) g (n - 1);omega
 | i+1,h,hi=>by
  have k:=Awn g i (h+1) (by omega)
  have:=Awm (ks:=ks) (n:=n) g h;have:=Ahx (ks:=ks) g h
  have A:=g.b
  rw[HP u ks (by omega)]
  cases (Cq ks h&&Cq ks (h+1)) with
  | true=>simp only[cond_true,Kg,R6];omega
  | false=>simp only[cond_false];omega
theorem A2o (g:UOk u) (A:∀ h,h<n→Cq ks h=true→(DM u ks n h).lo≤(DM u ks n h).hi):∀ (i h:Nat),h+i+1=n→Cq ks h=true→(Ty u ks n h).lo≤(Ty u ks n h).hi
 | 0,h,hi,k=>by
  rw[show h=n - 1 by omega,RO _ _ (by omega)]
  exact A _ (by omega) (by rw[show n - 1=h by omega];exact k)
 | i+1,h,hi,k=>by
  rw[HP u ks (n:=n) (h:=h) (by omega),k,Bool.true_and]
  have C:=A h (by omega) k
  cases B:Cq ks (h+1) with
  | false=>exact C
  | true =>
   have D:=A2o g A i (h+1) (by omega) B
   have r:=Awn (ks:=ks) (n:=n) g i (h+1) (by omega)
   have e:=Awm (ks:=ks) (n:=n) g (h+1)
   have F:=g.b
   rw[A77 B] at C ⊢
   have f:Z2 u ks (h+1)=⟨Ig u.min ((Z2 u ks h).lo - u.rampDown),Bv u.max ((Z2 u ks h).hi+u.rampUp)⟩:=by rw[Z2,B,k];rfl
   rw[f] at e
   simp only[Kg,R6] at e
   simp only[cond_true,Kg,R6];omega
def K8 (u:UnitD) (ks:List Int) (n:Nat):Bool:=(List.range n).any fun h=>Cq ks h&&decide ((DM u ks n h).lo>(DM u ks n h).hi)
theorem Ahy (g:UOk u):K8 u ks n=(List.range n).any fun h=>decide ((Ty u ks n h).lo>(Ty u ks n h).hi):=by
 cases k:K8 u ks n with
 | true =>
  symm
  unfold K8 at k
  rw[List.any_eq_true] at k ⊢
  obtain⟨h,A,F⟩:=k
  refine⟨h,A,?_⟩
  simp at F A ⊢
  have:=Awn (ks:=ks) (n:=n) g (n - 1 - h) h (by omega)
  omega
 | false =>
  symm
  rw[List.any_eq_false]
  intro h A
  simp at A
  cases B:Cq ks h with
  | true =>
   have:=A2o g (ks:=ks) (n:=n) (fun h' C D=>by
    unfold K8 at k
    rw[List.any_eq_false] at k
    have:=k h' (by simpa using C)
    simp[D] at this;omega) (n - 1 - h) h (by omega) B
   simp;omega
  | false =>
   have e:DM u ks n h=⟨0,0⟩:=by
    unfold DM;rw[B];simp only[Bool.false_and,cond_false]
    cases h<;>(rw[Z2,B];rfl)
   have:Ty u ks n h=⟨0,0⟩:=by
    by_cases G:h+1<n
    ·rw[HP u ks G,B];exact e
    ·rw[show h=n - 1 by omega] at e ⊢
     rw[RO _ _ (by omega)];exact e
   rw[this];simp
end
end
end Gx

namespace Gx
open Go Go.Proofs
section
variable {R:Type}
structure PlanD where
 st:Sl Int
 en:Sl RatD
 re:Sl RatD
def PlanD.av (p:PlanD):List AV:=[p.st.av 1 AE,p.en.av 3 RatD.av,p.re.av 3 RatD.av]
theorem p0 {p:PlanD} {f:List AV→Nat→Option R}:Ct 1 p.av f=f (Av p.st.l) p.st.l.length:=by rw[←Ee];exact Hz
theorem p1 {p:PlanD} {f:List AV→Nat→Option R}:Ct 3 (List.drop 1 p.av) f=f (p.en.l.flatMap RatD.av) p.en.l.length:=Hz
theorem p2 {p:PlanD} {f:List AV→Nat→Option R}:Ct 3 (List.drop 2 p.av) f=f (p.re.l.flatMap RatD.av) p.re.l.length:=Hz
theorem Bdr (p:PlanD):Nat.ble 3 (List.length p.av)=true:=rfl
theorem Bds (p:PlanD):List.take 3 p.av=p.av:=rfl
def uR (u:UnitD):Prop:=(0≤u.min∧u.min≤1048576)∧(0≤u.max∧u.max≤1048576)∧(0≤u.rampUp∧u.rampUp≤1048576)∧(0≤u.rampDown∧u.rampDown≤1048576)∧(0≤u.reserve∧u.reserve≤1048576)∧(0≤u.startRamp∧u.startRamp≤1048576)∧(0≤u.stopRamp∧u.stopRamp≤1048576)∧(0≤u.noLoad∧u.noLoad≤1048576)∧(0≤u.hotCost∧u.hotCost≤1048576)∧(0≤u.coldCost∧u.coldCost≤1048576)∧(0≤u.reservePrice∧u.reservePrice≤1048576)∧(0≤u.output∧u.output≤1048576)
theorem zf {u:UnitD} {h:Int} (A:Fg u h=true):C4 u=true∧uR u∧(1≤h∧h≤24):=by
 simp only[Fg,Bool.and_eq_true,Ff,decide_eq_true_eq] at A
 obtain⟨O,C,S,T,U,V,Y,h8,h9,D,F,G,I,L,k,M⟩:=A
 refine⟨C,?_,by omega⟩
 have ho:0≤u.output∧u.output≤1048576:=by
  unfold Az2 at k
  cases B:(u.state==2) with
  | true=>rw[B] at k;simp[Ff] at k;omega
  | false=>rw[B] at k;simp at k;omega
 unfold uR;omega
end
end Gx

namespace Gx
open Go Go.Proofs
section
variable {R:Type}
section
variable {u:UnitD} {ks:List Int} {n:Nat}
def gF (u:UnitD) (ks:List Int) (p:Nat):Nat→PD:=fun i=>if i<p then Z2 u ks i else ⟨0,0⟩
def A5w (u:UnitD) (ks:List Int):Nat→PD
 | 0=>⟨u.output,u.output⟩
 | p+1=>Z2 u ks p
theorem A2p {p:Nat}:tb n (tc (gF u ks p) p (Z2 u ks p))=tb n (gF u ks (p+1)):=Gc fun i _=>by
 unfold tc gF
 by_cases h:i=p
 ·subst h;simp
 ·rw[if_neg h]
  by_cases k:i<p
  ·rw[if_pos k,if_pos (by omega)]
  ·rw[if_neg k,if_neg (by omega)]
theorem Bau {p:Nat} (h:Cq ks p=true):Z2 u ks p=cond (N7 u ks p) ⟨Ig u.min ((A5w u ks p).lo - u.rampDown),Bv u.max ((A5w u ks p).hi+u.rampUp)⟩ ⟨u.min,u.startRamp⟩:=by
 cases p<;>(rw[Z2,h];rfl)
theorem Ase {p:Nat} (h:Cq ks p=false):Z2 u ks p=⟨0,0⟩:=by cases p<;>(rw[Z2,h];rfl)
theorem Bdi (g:UOk u) (k:uR u) (p:Nat):-1048576≤(A5w u ks p).lo∧(A5w u ks p).lo≤1048576∧-1048576≤(A5w u ks p).hi∧(A5w u ks p).hi≤1048576:=by
 cases p with
 | zero=>unfold uR at k;rw[show A5w u ks 0=⟨u.output,u.output⟩ from rfl];simp only;omega
 | succ p=>have:=Ahx (ks:=ks) g p;rw[show A5w u ks (p+1)=Z2 u ks p from rfl];omega
theorem Bbw {p:Nat} (h:Cq ks p=false):tb n (gF u ks p)=tb n (gF u ks (p+1)):=Gc fun i _=>by
 unfold gF
 by_cases k:i<p
 ·rw[if_pos k,if_pos (by omega)]
 ·rw[if_neg k]
  by_cases A:i=p
  ·subst A;rw[if_pos (by omega),Ase h]
  ·rw[if_neg (by omega)]
theorem Bbx {N:Nat} {k0:Nat→Bool→Int→LA→LA→Option R} {K:Nat→LA→Option R} {g i l:Bool} {p:Nat} (ok:UOk u) (C:uR u) (k:p<n) (hn:n≤1000) :
  Rg N k0 K (Av ks) n g i n (n:Int) l u.av (tb n (gF u ks p)) (A5w u ks p).av (p:Int) (Cq ks p) (p:Int) (Cq ks p&&N7 u ks p)=k0 n (Cq ks p) ((p+1:Nat):Int) (tb n (gF u ks (p+1))) (Z2 u ks p).av:=by
 have F:=Bdi (ks:=ks) ok C p
 have G:=ok.b;have I:=ok.a
 unfold Rg
 have D:IntKind.wrap .i64 ((p:Int)+1)=((p+1:Nat):Int):=wS (by omega)
 simp only[u2,u3,u6,u7,u8,Awk,Awl,Aa k,ct,Aod k,D]
 rw[i64 (a:=(A5w u ks p).lo - u.rampDown) (by omega),i64 (a:=(A5w u ks p).hi+u.rampUp) (by omega)]
 have st:∀ v:PD,[(AV.int .i64 v.lo),(.int .i64 v.hi)]=v.av:=fun _=>rfl
 have s1:∀ (a b:Int),[(AV.int .i64 a),(.int .i64 b)]=(PD.mk a b).av:=fun _ _=>rfl
 simp only[s1,mw k,Ahw k,Ahv k,ct,Bdh,Bbv]
 cases A:Cq ks p with
 | false =>
  simp only[Bool.false_and,cf]
  rw[Bbw A,show gF u ks p p=Z2 u ks p by unfold gF;rw[if_neg (by omega),Ase A]]
 | true =>
  rw[Bool.true_and]
  have e:=Bau (u:=u) A
  cases B:N7 u ks p with
  | true=>rw[B,cond_true] at e;rw[ct,←e,A2p,show tc (gF u ks p) p (Z2 u ks p) p=Z2 u ks p by simp[tc]]
  | false=>rw[B,cond_false] at e;rw[cf,ct,←e,A2p,show tc (gF u ks p) p (Z2 u ks p) p=Z2 u ks p by simp[tc]]
theorem Awo {N:Nat} {K:Nat→LA→Option R} {g i l:Bool} (ok:UOk u) (A:uR u) (hn:n≤1000) (D:ks.length=n):∀ (m p fuel:Nat),p+m=n→m<fuel →
  Fz N K (Av ks) n g i (n:Int) l u.av fuel n (N7 u ks p) (p:Int) (tb n (gF u ks p)) (A5w u ks p).av=K n (tb n (Z2 u ks))
 | 0,p,fuel+1,F,_=>by
  rw[Fz];unfold Um
  rw[Lb (by omega),cf,Gc (g:=gF u ks p) (g':=Z2 u ks) fun i hi=>by unfold gF;rw[if_pos (by omega)]]
 | m+1,p,fuel+1,F,I=>by
  rw[Fz];unfold Um
  have h:p<n:=by omega
  have k:p<ks.length:=by omega
  rw[Jp h,ct,Aa h,ct,C3 k,←G6 k]
  have e:=Bbx (N:=N) (k0:=Fz N K (Av ks) n g i (n:Int) l u.av fuel) (K:=K) (g:=g) (i:=i) (l:=l) (ks:=ks) ok A h hn
  have B:=Awo (N:=N) (K:=K) (g:=g) (i:=i) (l:=l) ok A hn D m (p+1) fuel (by omega) (by omega)
  rw[show N7 u ks (p+1)=Cq ks p from rfl,show A5w u ks (p+1)=Z2 u ks p from rfl] at B
  rw[B] at e
  cases C:Cq ks p with
  | true=>rw[C,Bool.true_and] at e;rw[show(true==true)=true from rfl,ct];cases G:N7 u ks p<;>(rw[G] at e;exact e)
  | false=>rw[C,Bool.false_and] at e;rw[show(false==true)=false from rfl,cf];exact e
theorem Asf {N:Nat} {K:Nat→LA→Option R} {g i l:Bool} (ok:UOk u) (k:uR u) (hn:n≤1000) (A:ks.length=n) (hN:1100≤N):So N u.av l (n:Int) (Av ks) n g i K=K n (tb n (Z2 u ks)):=by
 rw[GR];unfold KW
 rw[show((decide (0≤(n:Int)))&&((decide ((n:Int)≤(n:Int)))&&((decide ((n:Int)≤140737488355328))&&(decide (((n:Int)*((16:Nat):Int))≤140737488355328)))))=true by simp;omega,ct,A46,Bad,Bad,Int.toNat_natCast,A2n]
 have:=Awo (N:=N) (K:=K) (g:=g) (i:=i) (l:=l) ok k hn A n 0 N (by omega) (by omega)
 rw[Gc (g:=gF u ks 0) (g':=fun _=>⟨0,0⟩) fun i _=>by unfold gF;rw[if_neg (by omega)]] at this
 exact this
def gB (u:UnitD) (ks:List Int) (n a:Nat):Nat→PD:=fun i=>if i<a then Z2 u ks i else Ty u ks n i
theorem Bby {n:Nat}:tb n (gB u ks n 0)=tb n (Ty u ks n):=Gc fun i _=>by unfold gB;rw[if_neg (by omega)]
theorem A78 {n h:Nat} (B:h<n) (k:Cq ks h=false):Ty u ks n h=Z2 u ks h:=by
 have e:DM u ks n h=Z2 u ks h:=by unfold DM;rw[k];rfl
 by_cases A:h+1<n
 ·rw[HP u ks A,k];exact e
 ·rw[show h=n - 1 by omega,RO _ _ (by omega),←show h=n - 1 by omega];exact e
theorem Awp {N:Nat} {K:LA→Option R} {g i l:Bool} (ok:UOk u) (L:uR u) (hn:n≤1000) (M:ks.length=n):∀ (m fuel:Nat),m<n→m<fuel →
  Hx N K n (Av ks) n g i l u.av fuel ((m:Int) - 1) (tb n (gB u ks n m))=K (tb n (Ty u ks n))
 | 0,fuel+1,_,_=>by
  rw[Hx];unfold Rw
  rw[show decide ((((0:Nat):Int) - 1)≥0)=false by simp,cf,Bby]
 | m+1,fuel+1,C,V=>by
  rw[Hx];unfold Rw
  have h:m<n:=by omega
  have k:m<ks.length:=by omega
  have A:m+1<ks.length:=by omega
  have F:=Awp (N:=N) (K:=K) (g:=g) (i:=i) (l:=l) ok L hn M m fuel (by omega) (by omega)
  have Y:=ok.b;have ha:=ok.a
  have f0:=Ahx (ks:=ks) ok m
  have r1:=Awn (ks:=ks) (n:=n) ok (n - 1 - (m+1)) (m+1) (by omega)
  have r2:=Awm (ks:=ks) (n:=n) ok (m+1)
  have f1:=Ahx (ks:=ks) ok (m+1)
  have em:(((m+1:Nat):Int) - 1)=(m:Int):=by omega
  rw[em,show decide ((m:Int)≥0)=true by simp,ct]
  have O:IntKind.wrap .i64 ((m:Int)+1)=((m+1:Nat):Int):=wS (by omega)
  have S:IntKind.wrap .i64 ((m:Int) - 1)=(m:Int) - 1:=i64 (by omega)
  have G:gB u ks n (m+1) m=Z2 u ks m:=by unfold gB;rw[if_pos (by omega)]
  have T:gB u ks n (m+1) (m+1)=Ty u ks n (m+1):=by unfold gB;rw[if_neg (by omega)]
  have up:∀ v:PD,v=Ty u ks n m→tb n (tc (gB u ks n (m+1)) m v)=tb n (gB u ks n m):=fun v U=>Gc fun i _=>by
   subst U
   unfold tc gB
   by_cases D:i=m
   ·subst D;rw[if_pos rfl,if_neg (by omega)]
   ·rw[if_neg D]
    by_cases B:i<m
    ·rw[if_pos (by omega),if_pos B]
    ·rw[if_neg (by omega),if_neg B]
  have s1:∀ (a b:Int),[(AV.int .i64 a),(.int .i64 b)]=(PD.mk a b).av:=fun _ _=>rfl
  rw[Aa h,ct,C3 k,O,S]
  have st:=HP u ks (n:=n) (h:=m) (by omega)
  cases I:(ks[m] != 2) with
  | true =>
   have o:Cq ks m=false:=by rw[G6 k];simpa using I
   have:tb n (gB u ks n (m+1))=tb n (gB u ks n m):=by
    rw[←up _ rfl,A78 h o,←G]
    exact Gc fun i _=>by unfold tc;by_cases D:i=m<;>simp[D]
   rw[ct,this];exact F
  | false =>
   have o:Cq ks m=true:=by rw[G6 k];simpa using I
   rw[cf,Ahw h,ct,Aa C,ct,Ahw C,ct,Ahv h,Ahv C,A76,ct,A76,ct,ct,ct,C3 A,G,T,Asd,Asd]
   simp only[Awk,Awl,u6,u7,u9,ct,s1,Aa h]
   rw[Aod h,ct,ct,mw h,mw h,i64 (a:=(Ty u ks n (m+1)).lo - u.rampUp) (by omega),i64 (a:=(Ty u ks n (m+1)).hi+u.rampDown) (by omega)]
   cases B:(ks[m+1] != 2) with
   | true =>
    have o2:Cq ks (m+1)=false:=by rw[G6 A];simpa using B
    rw[ct,up _ (by rw[st,o,o2,Bool.and_false,cond_false];unfold DM;rw[o,o2,show decide (m+1<n)=true by simpa using C];rfl)]
    exact F
   | false =>
    have o2:Cq ks (m+1)=true:=by rw[G6 A];simpa using B
    rw[cf,up _ (by rw[st,o,o2,A77 o2];rfl)]
    exact F
theorem Akz {N:Nat} {K:LA→Option R} {g i l:Bool} (ok:UOk u) (k:uR u) (hn:n≤1000) (A:0<n) (B:ks.length=n) (hN:1100≤N):Ot N u.av l n (Av ks) n g i (tb n (Z2 u ks)) K=K (tb n (Ty u ks n)):=by
 rw[AC];unfold CX
 have:=Awp (N:=N) (K:=K) (g:=g) (i:=i) (l:=l) ok k hn B (n - 1) N (by omega) (by omega)
 rw[i64 (by omega),show(n:Int) - 2=((n - 1:Nat):Int) - 1 by omega]
 rw[Gc (g:=Z2 u ks) (g':=gB u ks n (n - 1)) fun i hi=>by
  unfold gB
  by_cases h:i<n - 1
  ·rw[if_pos h]
  ·rw[if_neg h,show i=n - 1 by omega,RO _ _ A];unfold DM;rw[show decide (n - 1+1<n)=false by simp;omega];simp]
 exact this
end
end
end Gx

namespace Gx
open Go Go.Proofs
open IntKind (wrap)
set_option maxRecDepth 100000
noncomputable section
variable {R:Type} (N:Nat)
def Va (k0:Nat→Int→LA→LA→O R) (r0:Nat→LA→O R) (e:Int) (f:LA) (d:Nat) (g i:Bool) (w:Nat) (b:Bool) (a c u:LA) (k2:Nat→Int→Nat→Int→LA→LA→O R) (q:Nat) (t:Int) (l:Nat) (s:Int) (v r:LA):O R :=
 (cond (decide (s<((w:Nat):Int))) (cond (Nat.ble 22 (a.length)) (cond (Ad s w) (Ao .i64 (u.drop (0+((s.toNat)*2))) fun ac=>(Pg N (a.take 22) b t ac (fun ad=>(cond ad (cond (Ad s w) (cond (Nat.ble 2 ((u.drop (0+((s.toNat)*2))).length)) (cond ((Nat.beq (((u.drop (0+((s.toNat)*2))).take 2).length) 2)&&(Nat.ble 2 2)) (cond ((Nat.ble (l+1) 140737488355328)&&(Nat.ble ((l+1)*16) 140737488355328)) (k2 q t (l+1) (wrap .i64 (s+1)) v ((r.take (l*2))++((setCells [(.int .i64 0),(.int .i64 0)] 0 ((u.drop (0+((s.toNat)*2))).take 2)).take 2))) none) none) none) none) (k2 q t l (wrap .i64 (s+1)) v r))))) none) none) (cond (((l:Nat):Int)==0) (r0 q v) (cond (decide (t<((d:Nat):Int))) (cond (Ad t d) (Ao .i64 (f.drop ((t.toNat)*1)) fun aa=>(cond (((l:Nat):Int)==0) none (cond (((l:Nat):Int)==0) none (cond (Ad (Int.tmod (wrap .i64 ((Int.tmod aa ((l:Nat):Int))+((l:Nat):Int))) ((l:Nat):Int)) l) (cond (Nat.ble 2 ((r.drop (0+(((Int.tmod (wrap .i64 ((Int.tmod aa ((l:Nat):Int))+((l:Nat):Int))) ((l:Nat):Int)).toNat)*2))).length)) (cond ((Nat.beq (((r.drop (0+(((Int.tmod (wrap .i64 ((Int.tmod aa ((l:Nat):Int))+((l:Nat):Int))) ((l:Nat):Int)).toNat)*2))).take 2).length) 2)&&((Nat.ble 2 (c.length))&&(!false))) (Ao .i64 (setCells c 0 ((r.drop (0+(((Int.tmod (wrap .i64 ((Int.tmod aa ((l:Nat):Int))+((l:Nat):Int))) ((l:Nat):Int)).toNat)*2))).take 2)) fun ae=>(cond ((Nat.ble (q+1) 140737488355328)&&(Nat.ble ((q+1)*8) 140737488355328)) (k0 (q+1) (wrap .i64 (t+1)) ((v.take (q*1))++[(.int .i64 ae)]) (setCells c 0 ((r.drop (0+(((Int.tmod (wrap .i64 ((Int.tmod aa ((l:Nat):Int))+((l:Nat):Int))) ((l:Nat):Int)).toNat)*2))).take 2))) none)) none) none) none)))) none) (cond (Ad 0 l) (cond (Nat.ble 2 (r.length)) (cond ((Nat.beq ((r.take 2).length) 2)&&((Nat.ble 2 (c.length))&&(!false))) (Ao .i64 (setCells c 0 (r.take 2)) fun af=>(cond ((Nat.ble (q+1) 140737488355328)&&(Nat.ble ((q+1)*8) 140737488355328)) (k0 (q+1) (wrap .i64 (t+1)) ((v.take (q*1))++[(.int .i64 af)]) (setCells c 0 (r.take 2))) none)) none) none) none))))
def Nn (k0:Nat→Int→LA→LA→O R) (r0:Nat→LA→O R) (e:Int) (f:LA) (d:Nat) (g i:Bool) (w:Nat) (b:Bool) (a c u:LA):Nat→Nat→Int→Nat→Int→LA→LA→O R
 | 0,_,_,_,_,_,_=>none
 | n+1,q,t,l,s,v,r=>(Va N k0 r0 e f d g i w b a c u (Nn k0 r0 e f d g i w b a c u n) q t l s v r)
def HQ (k0:Nat→Int→LA→LA→O R) (r0:Nat→LA→O R) (e:Int) (f:LA) (d:Nat) (g i b:Bool) (a c:LA) (q2:Nat→LA→Nat→Int→Nat→Int→LA→LA→O R) (x:Nat) (y:Int) (z:LA):O R :=
 (cond (Nat.ble 22 (a.length)) (cond (Nat.ble 2 (c.length)) (HM N (a.take 22) b (c.take 2) false (fun w u=>(q2 w u x y 0 0 z []))) none) none)
def Yd (k0:Nat→Int→LA→LA→O R) (r0:Nat→LA→O R) (e:Int) (f:LA) (d:Nat) (g i b:Bool) (a c:LA) (x:Nat) (y:Int) (z:LA):O R:=(HQ N k0 r0 e f d g i b a c (fun w u q t l s v r=>(Nn N k0 r0 e f d g i w b a c u N q t l s v r)) x y z)
def Vb (r0:Nat→LA→O R) (e:Int) (f:LA) (d:Nat) (g i b:Bool) (a:LA) (k0:Nat→Int→LA→LA→O R) (q1:Nat→Int→LA→O R) (m:Nat) (p:Int) (o c:LA):O R :=
 (cond ((decide (p<e))==true) (cond (Nat.ble 22 (a.length)) (Kw N (a.take 22) b (fun ag=>(cond (cond true ag false) (q1 m p o) (r0 m o)))) none) (r0 m o))
def He (r0:Nat→LA→O R) (e:Int) (f:LA) (d:Nat) (g i b:Bool) (a:LA):Nat→Nat→Int→LA→LA→O R
 | 0,_,_,_,_=>none
 | n+1,m,p,o,c=>(Vb N r0 e f d g i b a (He r0 e f d g i b a n) (fun x y z=>(Yd N (He r0 e f d g i b a n) r0 e f d g i b a c x y z)) m p o c)
def MB (r0:Nat→LA→O R) (q0:Nat→Int→LA→LA→O R) (a:LA) (b:Bool) (e:Int) (f:LA) (d:Nat) (g i:Bool):O R :=
 (cond (Nat.ble 22 (a.length)) (Pf N (a.take 22) b (fun ab=>(cond ((Nat.beq (ab.length) 2)&&((Nat.ble 2 2)&&(!false))) (q0 0 0 [] (setCells [(.int .i64 0),(.int .i64 0)] 0 ab)) none))) none)
def W0:=(Ah (fun (N:Nat) (a:LA) (b:Bool) (e:Int) (f:LA) (d:Nat) (g i:Bool) (r0:Nat→LA→O R)=>(MB N r0 (fun m p o c=>(He N r0 e f d g i b a N m p o c)) a b e f d g i))).1
theorem fU (a b e f d g i r0):(@W0 R N a b e f d g i r0)=(MB N r0 (fun m p o c=>(He N r0 e f d g i b a N m p o c)) a b e f d g i):=by rw[W0,(Ah _).2]
def lF:Hints:={ H:=(hS hL (hS hL (hS hL (hS (hS hL (hS (hP [1,2,3,7,8,9] (hJ [1,2,3,7,8,9] hL (hS (hS (hS hL (hS hL (hS (hS hL (hS (hP [1,2,3,7,8,9,10,11,12] hL) hL)) hL))) hL) hL))) hL)) hL)))),nils:=[(6,1),(7,1),(10,2)],modes:=[(2,1)] }
def rL:Ek:=[(113,HK N),(52,Lw N),(114,fN N),(115,HN N)]
def NJ (F:KF R):=Kk Tryz.f62 lF (rL N) [] N F
def Er (F:KF R):Nat→LA→O R:=(fun ah ai=>F (.own 300000 0 ah) [(300000,(bQ 1 ai))])
def Ak0 (e:Int) (f:LA) (d:Nat) (g i:Bool) (w:Nat) (b:Bool) (a c u:LA) (q:Nat) (t:Int) (l:Nat) (s:Int) (v r:LA):St:=⟨[(1,(.int .i64 e)),(2,(.imm f d 1 g i)),(3,(.optr 300000 0)),(7,(.own 300001 0 q)),(8,(.optr 300002 0)),(9,(.int .i64 t)),(10,(.own 300003 0 l)),(11,(.own 300004 0 w)),(12,(.int .i64 s))],[(300000,(bP b 0 a)),(300001,(bQ 1 v)),(300002,(bQ 0 c)),(300003,(bQ 2 r)),(300004,(bQ 2 u))]⟩
def Ak1 (F:KF R) (Q0:St→O R):=NJ N F [1,1,1,0,1,0,0,1,0,0,1,1,0,1,0] [Q0]
def Ak2 (e:Int) (f:LA) (d:Nat) (g i b:Bool) (a c:LA) (x:Nat) (y:Int) (z:LA):St:=⟨[(1,(.int .i64 e)),(2,(.imm f d 1 g i)),(3,(.optr 300000 0)),(7,(.own 300001 0 x)),(8,(.optr 300002 0)),(9,(.int .i64 y))],[(300000,(bP b 0 a)),(300001,(bQ 1 z)),(300002,(bQ 0 c))]⟩
def Ak3 (F:KF R) (Q0:St→O R):=NJ N F [1,1,1,0,1,0,0,1] [Q0]
def Rn (e:Int) (f:LA) (d:Nat) (g i b:Bool) (a:LA) (m:Nat) (p:Int) (o c:LA):St:=⟨[(1,(.int .i64 e)),(2,(.imm f d 1 g i)),(3,(.optr 300000 0)),(7,(.own 300001 0 m)),(8,(.optr 300002 0)),(9,(.int .i64 p))],[(300000,(bP b 0 a)),(300001,(bQ 1 o)),(300002,(bQ 0 c))]⟩
def lG (F:KF R):=NJ N F [1,1,1,0,1,0] []
theorem RP (Q0:St→O R) (F:KF R) (e:Int) (f:LA) (d:Nat) (g i:Bool) (w:Nat) (b:Bool) (a c u:LA):∀ (n q:Nat) (t:Int) (l:Nat) (s:Int) (v r:LA),Ap (Ak1 N F Q0) n (Ak0 e f d g i w b a c u q t l s v r)=(Nn N (fun m p o c=>Q0 (Rn e f d g i b a m p o c)) (Er F) e f d g i w b a c u n q t l s v r)
 | 0,_,_,_,_,_,_=>by kernel_rfl
 | n+1,q,t,l,s,v,r=>Eq.trans (by kernel_rfl) (Bs (Va N (fun m p o c=>Q0 (Rn e f d g i b a m p o c)) (Er F) e f d g i w b a c u · q t l s v r) (funext fun q=>funext fun t=>funext fun l=>funext fun s=>funext fun v=>funext fun r=>(RP Q0 F e f d g i w b a c u n q t l s v r)):_)
theorem te (Q0:St→O R) (F:KF R) (e:Int) (f:LA) (d:Nat) (g i b:Bool) (a c:LA):∀ (x:Nat) (y:Int) (z:LA),Bb (Ak3 N F Q0) (Ak2 e f d g i b a c x y z)=(Yd N (fun m p o c=>Q0 (Rn e f d g i b a m p o c)) (Er F) e f d g i b a c x y z):=by
 intro x y z
 exact Eq.trans (by kernel_rfl) (Bs (HQ N (fun m p o c=>Q0 (Rn e f d g i b a m p o c)) (Er F) e f d g i b a c · x y z) (funext fun w=>funext fun u=>funext fun q=>funext fun t=>funext fun l=>funext fun s=>funext fun v=>funext fun r=>(Ak ..).trans (RP N Q0 F e f d g i w b a c u N q t l s v r)):_)
theorem RQ (F:KF R) (e:Int) (f:LA) (d:Nat) (g i b:Bool) (a:LA):∀ (n m:Nat) (p:Int) (o c:LA),Ap (lG N F) n (Rn e f d g i b a m p o c)=(He N (Er F) e f d g i b a n m p o c)
 | 0,_,_,_,_=>by kernel_rfl
 | n+1,m,p,o,c=>have e0:=(funext fun m=>funext fun p=>funext fun o=>funext fun c=>(RQ F e f d g i b a n m p o c))
  Eq.trans (by kernel_rfl) (bJ (Vb N (Er F) e f d g i b a · · m p o c) e0 (funext fun x=>funext fun y=>funext fun z=>(As ..).trans ((te N (Ap (lG N F) n) F e f d g i b a c x y z).trans (Bs (Yd N · (Er F) e f d g i b a c x y z) e0))):_)
theorem lH (a:LA) (b:Bool) (e:Int) (f:LA) (d:Nat) (g i:Bool) (F:KF R):Cn (rL N) lF N 62 [(.pagg a b),(.int .i64 e),(.imm f d 1 g i)] [] F=(W0 N a b e f d g i (Er F)):=by
 rw[fU]
 exact Eq.trans (by kernel_rfl) (Bs (MB N (Er F) · a b e f d g i) (funext fun m=>funext fun p=>funext fun o=>funext fun c=>(Ak ..).trans (RQ N F e f d g i b a N m p o c)):_)
def fV (args:List AV) (h:Am) (k:KF R):O R :=
 match args,h with
 | [(.pagg a b),(.int .i64 e),(.imm f d 1 g i)],[]=>(W0 N a b e f d g i (Er k))
 | _,_=>none
theorem lI:Aq N 62 @fV:=by
 intro R Q args h k j;unfold fV;split
 exact A2 (lH ..) (lH ..) ⟨fJ N,P8 N,xd N,fR N,trivial⟩
 exact A5
def lJ:=A4 (lI N)
theorem Ak4:A1 Tryz.prog 62 (lJ N):=A6 (lI N) follows
def fW (N:Nat) (r0:LA→O R) (f m:Int) (c:Bool) (a:LA) (n:Bool):O R :=
 (cond n (Ao .i64 (a.drop 21) fun p=>(Ao .i64 (a.drop 7) fun q=>(Ao .i64 (a.drop 21) fun r=>(Ao .i64 (a.drop 6) fun s=>(r0 [(.int .i64 (Ig m (wrap .i64 (p - q)))),(.int .i64 (Bv f (wrap .i64 (r+s))))]))))) (r0 [(.int .i64 m),(.int .i64 f)]))
def VR (N:Nat) (r0:LA→O R) (b:Int) (c:Bool) (a:LA) (q2:Int→Bool→O R) (f:Int):O R :=
 (Ao .i64 (a.drop 2) fun m=>(cond ((b==0)==true) (Ao .i64 (a.drop 19) fun t=>(q2 m (cond true (t==2) false))) (q2 m false)))
def MC (r0:LA→O R) (b:Int) (c:Bool) (a:LA) (f:Int):O R:=(VR N r0 b c a (fun m n=>(fW N r0 f m c a n)) f)
def VS (N:Nat) (r0:LA→O R) (e:LA) (d:Nat) (g i:Bool) (b:Int) (c:Bool) (a:LA) (q1:Int→O R) (l:Int):O R :=
 (cond ((decide ((wrap .i64 (b+1))<((d:Nat):Int)))==true) (cond (Ad (wrap .i64 (b+1)) d) (Ao .i64 (e.drop (((wrap .i64 (b+1)).toNat)*1)) fun u=>(cond (cond true (u != 2) false) (Ao .i64 (a.drop 9) fun v=>(q1 (Bv l v))) (q1 l))) none) (q1 l))
def Zs (r0:LA→O R) (e:LA) (d:Nat) (g i:Bool) (b:Int) (c:Bool) (a:LA) (l:Int):O R:=(VS N r0 e d g i b c a (fun f=>(MC N r0 b c a f)) l)
def gn (N:Nat) (r0:LA→O R) (q0:Int→O R) (a:LA) (c:Bool) (e:LA) (d:Nat) (g i:Bool) (b:Int):O R :=
 (Ao .i64 (a.drop 3) fun o=>(cond ((b==0)==true) (Ao .i64 (a.drop 19) fun w=>(cond ((cond true (w != 2) false)==false) (cond ((decide (b>0))==true) (cond (Ad (wrap .i64 (b - 1)) d) (Ao .i64 (e.drop (((wrap .i64 (b - 1)).toNat)*1)) fun x=>(cond (cond false true (cond true (x != 2) false)) (Ao .i64 (a.drop 8) fun y=>(q0 (Bv o y))) (q0 o))) none) (q0 o)) (Ao .i64 (a.drop 8) fun z=>(q0 (Bv o z))))) (cond ((decide (b>0))==true) (cond (Ad (wrap .i64 (b - 1)) d) (Ao .i64 (e.drop (((wrap .i64 (b - 1)).toNat)*1)) fun aa=>(cond (cond false true (cond true (aa != 2) false)) (Ao .i64 (a.drop 8) fun ab=>(q0 (Bv o ab))) (q0 o))) none) (q0 o))))
def RR:=(Ah (fun (N:Nat) (a:LA) (c:Bool) (e:LA) (d:Nat) (g i:Bool) (b:Int) (r0:LA→O R)=>(gn N r0 (fun l=>(Zs N r0 e d g i b c a l)) a c e d g i b))).1
theorem rM (a c e d g i b r0):(@RR R N a c e d g i b r0)=(gn N r0 (fun l=>(Zs N r0 e d g i b c a l)) a c e d g i b):=by rw[RR,(Ah _).2]
def xv:Hints:={ H:=(hS hL (hS hL (hJ [1,2,3,6,7] hL (hJ [2,3,6,7] hL (hS hL (hS (hJ [3,6,7,8,59] hL hL) hL)))))),modes:=[(3,0)] }
def fX (F:KF R):=Kk Tryz.f68 xv [] [] N F
def Lh (F:KF R):LA→O R:=(fun ac=>F (.pagg ac false) [])
def Awq (f m:Int) (c:Bool) (a:LA) (n:Bool):St:=⟨[(3,(.optr 300000 0)),(6,(.optr 300001 0)),(7,(.int .i64 f)),(8,(.int .i64 m)),(59,(.bool n))],[(300000,(bP c 0 a)),(300001,(bQ 0 [(.int .i64 0),(.int .i64 0)]))]⟩
def Awr (F:KF R):=fX N F [1,1,1,1,1,0,1] []
def Aws (b:Int) (c:Bool) (a:LA) (f:Int):St:=⟨[(2,(.int .i64 b)),(3,(.optr 300000 0)),(6,(.optr 300001 0)),(7,(.int .i64 f))],[(300000,(bP c 0 a)),(300001,(bQ 0 [(.int .i64 0),(.int .i64 0)]))]⟩
def Awt (F:KF R):=fX N F [1,1,1,1] []
def Awu (e:LA) (d:Nat) (g i:Bool) (b:Int) (c:Bool) (a:LA) (l:Int):St:=⟨[(1,(.imm e d 1 g i)),(2,(.int .i64 b)),(3,(.optr 300000 0)),(6,(.optr 300001 0)),(7,(.int .i64 l))],[(300000,(bP c 0 a)),(300001,(bQ 0 [(.int .i64 0),(.int .i64 0)]))]⟩
def Awv (F:KF R):=fX N F [1,1,1] []
theorem Ahz (F:KF R) (f m:Int) (c:Bool) (a:LA):∀ (n:Bool),Bb (Awr N F) (Awq f m c a n)=(fW N (Lh F) f m c a n):=by
 intro n
 kernel_rfl
theorem Ah0 (F:KF R) (b:Int) (c:Bool) (a:LA):∀ (f:Int),Bb (Awt N F) (Aws b c a f)=(MC N (Lh F) b c a f):=by
 intro f
 exact Eq.trans (by kernel_rfl) (Bs (VR N (Lh F) b c a · f) (funext fun m=>funext fun n=>(As ..).trans (Ahz N F f m c a n)):_)
theorem Ah1 (F:KF R) (e:LA) (d:Nat) (g i:Bool) (b:Int) (c:Bool) (a:LA):∀ (l:Int),Bb (Awv N F) (Awu e d g i b c a l)=(Zs N (Lh F) e d g i b c a l):=by
 intro l
 exact Eq.trans (by kernel_rfl) (Bs (VS N (Lh F) e d g i b c a · l) (funext fun f=>(As ..).trans (Ah0 N F b c a f)):_)
theorem xw (a:LA) (c:Bool) (e:LA) (d:Nat) (g i:Bool) (b:Int) (F:KF R):Cn [] xv N 68 [(.pagg a c),(.imm e d 1 g i),(.int .i64 b)] [] F=(RR N a c e d g i b (Lh F)):=by
 rw[rM]
 exact Eq.trans (by kernel_rfl) (Bs (gn N (Lh F) · a c e d g i b) (funext fun l=>(As ..).trans (Ah1 N F e d g i b c a l)):_)
def rN (args:List AV) (h:Am) (k:KF R):O R :=
 match args,h with
 | [(.pagg a c),(.imm e d 1 g i),(.int .i64 b)],[]=>(RR N a c e d g i b (Lh k))
 | _,_=>none
theorem xx:Aq N 68 @rN:=by
 intro R Q args h k j;unfold rN;split
 exact A2 (xw ..) (xw ..) trivial
 exact A5
def xy:=A4 (xx N)
theorem Aww:A1 Tryz.prog 68 (xy N):=A6 (xx N) follows
def AI (N:Nat) (k1:Nat→Int→LA→O R) (r0:Nat→Int→LA→O R) (i:Int) (c:LA) (b:Nat) (f e:Bool) (g:Nat) (l:Int) (d:Bool) (a t:LA):O R :=
 (cond (Ad l g) (Ao .i64 (t.drop (0+((l.toNat)*2))) fun w=>(cond (Ad l g) (Ao .i64 (t.drop ((0+((l.toNat)*2))+1)) fun x=>(cond (decide (w>x)) (r0 0 7 []) (k1 g (wrap .i64 (l+1)) t))) none)) none)
def W1 (N:Nat) (k1:Nat→Int→LA→O R) (r0:Nat→Int→LA→O R) (i:Int) (c:LA) (b:Nat) (f e:Bool) (g:Nat) (l:Int) (d:Bool) (a:LA) (q4:LA→O R) (s:Bool) (p:LA):O R :=
 (cond s (cond (Ad l g) (Ao .i64 (p.drop (0+((l.toNat)*2))) fun y=>(cond (Ad (wrap .i64 (l - 1)) g) (Ao .i64 (p.drop (0+(((wrap .i64 (l - 1)).toNat)*2))) fun z=>(Ao .i64 (a.drop 7) fun aa=>(cond (Ad l g) (Ao .i64 (p.drop ((0+((l.toNat)*2))+1)) fun ab=>(cond (Ad (wrap .i64 (l - 1)) g) (Ao .i64 (p.drop ((0+(((wrap .i64 (l - 1)).toNat)*2))+1)) fun ac=>(Ao .i64 (a.drop 6) fun ad=>(cond (Ad l g) (cond ((Nat.beq 2 2)&&((Nat.ble ((0+((l.toNat)*2))+2) (p.length))&&(!false))) (q4 (Cr p (0+((l.toNat)*2)) [(.int .i64 (Ig y (wrap .i64 (z - aa)))),(.int .i64 (Bv ab (wrap .i64 (ac+ad))))])) none) none))) none)) none))) none)) none) (q4 p))
def R7 (k1:Nat→Int→LA→O R) (r0:Nat→Int→LA→O R) (i:Int) (c:LA) (b:Nat) (f e:Bool) (g:Nat) (l:Int) (d:Bool) (a:LA) (s:Bool) (p:LA):O R:=(W1 N k1 r0 i c b f e g l d a (fun t=>(AI N k1 r0 i c b f e g l d a t)) s p)
def R8 (N:Nat) (k3:Int→LA→O R) (r0:Nat→Int→LA→O R) (c:LA) (b:Nat) (f e:Bool) (g:Nat) (m:Int) (d:Bool) (a:LA) (u:Bool) (r:LA):O R :=
 (cond u (cond (Ad (wrap .i64 (m - 1)) g) (Ao .i64 (r.drop (0+(((wrap .i64 (m - 1)).toNat)*2))) fun ae=>(cond (Ad m g) (Ao .i64 (r.drop (0+((m.toNat)*2))) fun af=>(Ao .i64 (a.drop 6) fun ag=>(cond (Ad (wrap .i64 (m - 1)) g) (Ao .i64 (r.drop ((0+(((wrap .i64 (m - 1)).toNat)*2))+1)) fun ah=>(cond (Ad m g) (Ao .i64 (r.drop ((0+((m.toNat)*2))+1)) fun ai=>(Ao .i64 (a.drop 7) fun aj=>(cond (Ad (wrap .i64 (m - 1)) g) (cond ((Nat.beq 2 2)&&((Nat.ble ((0+(((wrap .i64 (m - 1)).toNat)*2))+2) (r.length))&&(!false))) (k3 (wrap .i64 (m - 1)) (Cr r (0+(((wrap .i64 (m - 1)).toNat)*2)) [(.int .i64 (Ig ae (wrap .i64 (af - ag)))),(.int .i64 (Bv ah (wrap .i64 (ai+aj))))])) none) none))) none)) none))) none)) none) (k3 (wrap .i64 (m - 1)) r))
def Qh (N:Nat) (r0:Nat→Int→LA→O R) (c:LA) (b:Nat) (f e:Bool) (g:Nat) (d:Bool) (a:LA) (k3:Int→LA→O R) (q5:Bool→LA→O R) (m:Int) (q:LA):O R :=
 (cond (decide (m>0)) (cond (Ad m b) (Ao .i64 (c.drop ((m.toNat)*1)) fun ak=>(cond ((ak==2)==true) (cond (Ad (wrap .i64 (m - 1)) b) (Ao .i64 (c.drop (((wrap .i64 (m - 1)).toNat)*1)) fun al=>(q5 (cond true (al==2) false) q)) none) (q5 false q))) none) (r0 g 0 q))
def Gt (r0:Nat→Int→LA→O R) (c:LA) (b:Nat) (f e:Bool) (g:Nat) (d:Bool) (a:LA):Nat→Int→LA→O R
 | 0,_,_=>none
 | n+1,m,q=>(Qh N r0 c b f e g d a (Gt r0 c b f e g d a n) (fun u r=>(R8 N (Gt r0 c b f e g d a n) r0 c b f e g m d a u r)) m q)
def Qi (r0:Nat→Int→LA→O R) (i:Int) (c:LA) (b:Nat) (f e d:Bool) (a:LA) (k1:Nat→Int→LA→O R) (q2:Bool→LA→O R) (q3:Int→LA→O R) (g:Nat) (l:Int) (o:LA):O R :=
 (cond (decide (l<i)) (cond (Ad l b) (Ao .i64 (c.drop ((l.toNat)*1)) fun am=>(cond (am != 2) (k1 g (wrap .i64 (l+1)) o) (cond (Nat.ble 22 (a.length)) (RR N (a.take 22) d c b false e l (fun v=>(cond (Ad l g) (cond ((Nat.beq (v.length) 2)&&((Nat.ble ((0+((l.toNat)*2))+2) (o.length))&&(!false))) (cond ((decide (l>0))==true) (cond (Ad (wrap .i64 (l - 1)) b) (Ao .i64 (c.drop (((wrap .i64 (l - 1)).toNat)*1)) fun an=>(q2 (cond true (an==2) false) (setCells o (0+((l.toNat)*2)) v))) none) (q2 false (setCells o (0+((l.toNat)*2)) v))) none) none))) none))) none) (q3 (wrap .i64 (i - 1)) o))
def Fe (r0:Nat→Int→LA→O R) (i:Int) (c:LA) (b:Nat) (f e d:Bool) (a:LA):Nat→Nat→Int→LA→O R
 | 0,_,_,_=>none
 | n+1,g,l,o=>(Qi N r0 i c b f e d a (Fe r0 i c b f e d a n) (fun s p=>(R7 N (Fe r0 i c b f e d a n) r0 i c b f e g l d a s p)) (fun m q=>(Gt N r0 c b f e g d a N m q)) g l o)
def W2 (N:Nat) (r0:Nat→Int→LA→O R) (i:Int) (c:LA) (b:Nat) (f e d:Bool) (a:LA) (q1:Nat→Int→LA→O R):O R :=
 (cond ((decide (0≤i))&&((decide (i≤i))&&((decide (i≤140737488355328))&&(decide ((i*((16:Nat):Int))≤140737488355328))))) (q1 (i.toNat) 0 (List.flatten (List.replicate (i.toNat) ([(.int .i64 0),(.int .i64 0)]:LA)))) none)
def M6 (r0:Nat→Int→LA→O R) (i:Int) (c:LA) (b:Nat) (f e d:Bool) (a:LA):O R:=(W2 N r0 i c b f e d a (fun g l o=>(Fe N r0 i c b f e d a N g l o)))
def Ye (r0:Nat→Int→LA→O R) (q0:O R) (a:LA) (d:Bool) (i:Int) (c:LA) (b:Nat) (f e:Bool):O R :=
 (cond (Nat.ble 22 (a.length)) (D_ N (a.take 22) d i (fun ao=>(cond (!ao) (r0 0 1 []) (cond (((b:Nat):Int) != i) (r0 0 4 []) (cond (Nat.ble 22 (a.length)) (RM N (a.take 22) d c b false e (fun az ba ap bb=>(cond (ap != 0) (r0 0 16 []) (Ao .i64 (a.drop 19) fun aq=>(cond ((aq==2)==true) (cond (Ad 0 b) (Ao .i64 c fun ar=>(cond ((cond true (ar != 2) false)==true) (Ao .i64 (a.drop 21) fun au=>(Ao .i64 (a.drop 9) fun av=>(cond (cond true (decide (au>av)) false) (r0 0 7 []) q0))) q0)) none) q0))))) none))))) none)
def G7:=(Ah (fun (N:Nat) (a:LA) (d:Bool) (i:Int) (c:LA) (b:Nat) (f e:Bool) (r0:Nat→Int→LA→O R)=>(Ye N r0 (M6 N r0 i c b f e d a) a d i c b f e))).1
theorem RS (a d i c b f e r0):(@G7 R N a d i c b f e r0)=(Ye N r0 (M6 N r0 i c b f e d a) a d i c b f e):=by rw[G7,(Ah _).2]
def ZZ:Hints:={ H:=(hS hL (hS hL (hS hL (hS hL (hJ [1,2,3] hL (hS hL (hS (hS hL (hS (hP [1,2,3,11,12] (hS hL (hS (hS (hS hL (hS hL (hJ [1,2,3,11,12] (hJ [1,2,3,11,12,75] hL hL) hL))) hL) hL))) hL)) (hS (hS hL (hS (hP [2,3,11,13] (hS hL (hS (hS (hJ [2,3,11,13,139] hL hL) hL) hL))) hL)) hL)))))))),nils:=[(6,2)],modes:=[(2,2),(0,0)] }
def fY:Ek:=[(17,qC N),(67,xo N),(68,xy N)]
def I0 (F:KF R):=Kk Tryz.f30 ZZ (fY N) [] N F
def Bq (F:KF R):Nat→Int→LA→O R:=(fun aw ax ay=>F (.tup [(.own 300000 0 aw),(.int .i64 ax)]) [(300000,(bQ 2 ay))])
def zT (i:Int) (c:LA) (b:Nat) (f e:Bool) (g:Nat) (l:Int) (d:Bool) (a t:LA):St:=⟨[(1,(.int .i64 i)),(2,(.imm c b 1 f e)),(3,(.optr 300000 0)),(11,(.own 300001 0 g)),(12,(.int .i64 l))],[(300000,(bP d 0 a)),(300001,(bQ 2 t))]⟩
def zU (F:KF R) (Q1:St→O R):=I0 N F [1,1,1,1,1,1,0,1,0,0,1,0,0,1,1,1] [Q1]
def zV (i:Int) (c:LA) (b:Nat) (f e:Bool) (g:Nat) (l:Int) (d:Bool) (a:LA) (s:Bool) (p:LA):St:=⟨[(1,(.int .i64 i)),(2,(.imm c b 1 f e)),(3,(.optr 300000 0)),(11,(.own 300001 0 g)),(12,(.int .i64 l)),(75,(.bool s))],[(300000,(bP d 0 a)),(300001,(bQ 2 p))]⟩
def zW (F:KF R) (Q1:St→O R):=I0 N F [1,1,1,1,1,1,0,1,0,0,1,0,0,1,1,0,1] [Q1]
def zX (c:LA) (b:Nat) (f e:Bool) (g:Nat) (m:Int) (d:Bool) (a:LA) (u:Bool) (r:LA):St:=⟨[(2,(.imm c b 1 f e)),(3,(.optr 300000 0)),(11,(.own 300001 0 g)),(13,(.int .i64 m)),(139,(.bool u))],[(300000,(bP d 0 a)),(300001,(bQ 2 r))]⟩
def zY (F:KF R) (Q3:St→O R):=I0 N F [1,1,1,1,1,1,1,0,1,0,0,1,0,0,1] [Q3]
def Z_ (c:LA) (b:Nat) (f e:Bool) (g:Nat) (d:Bool) (a:LA) (m:Int) (q:LA):St:=⟨[(2,(.imm c b 1 f e)),(3,(.optr 300000 0)),(11,(.own 300001 0 g)),(13,(.int .i64 m))],[(300000,(bP d 0 a)),(300001,(bQ 2 q))]⟩
def Z' (F:KF R):=I0 N F [1,1,1,1,1,1,1,0,1,0] []
def R9 (i:Int) (c:LA) (b:Nat) (f e d:Bool) (a:LA) (g:Nat) (l:Int) (o:LA):St:=⟨[(1,(.int .i64 i)),(2,(.imm c b 1 f e)),(3,(.optr 300000 0)),(11,(.own 300001 0 g)),(12,(.int .i64 l))],[(300000,(bP d 0 a)),(300001,(bQ 2 o))]⟩
def aA (F:KF R):=I0 N F [1,1,1,1,1,1,0,1,0] []
def zZ (i:Int) (c:LA) (b:Nat) (f e d:Bool) (a:LA):St:=⟨[(1,(.int .i64 i)),(2,(.imm c b 1 f e)),(3,(.optr 300000 0))],[(300000,(bP d 0 a))]⟩
def z5 (F:KF R):=I0 N F [1,1,1,1,1] []
theorem mz (Q1:St→O R) (F:KF R) (i:Int) (c:LA) (b:Nat) (f e:Bool) (g:Nat) (l:Int) (d:Bool) (a:LA):∀ (t:LA),Bb (zU N F Q1) (zT i c b f e g l d a t)=(AI N (fun g l o=>Q1 (R9 i c b f e d a g l o)) (Bq F) i c b f e g l d a t):=by
 intro t
 kernel_rfl
theorem nA (Q1:St→O R) (F:KF R) (i:Int) (c:LA) (b:Nat) (f e:Bool) (g:Nat) (l:Int) (d:Bool) (a:LA):∀ (s:Bool) (p:LA),Bb (zW N F Q1) (zV i c b f e g l d a s p)=(R7 N (fun g l o=>Q1 (R9 i c b f e d a g l o)) (Bq F) i c b f e g l d a s p):=by
 intro s p
 exact Eq.trans (by kernel_rfl) (Bs (W1 N (fun g l o=>Q1 (R9 i c b f e d a g l o)) (Bq F) i c b f e g l d a · s p) (funext fun t=>(As ..).trans (mz N Q1 F i c b f e g l d a t)):_)
theorem nB (Q3:St→O R) (F:KF R) (c:LA) (b:Nat) (f e:Bool) (g:Nat) (m:Int) (d:Bool) (a:LA):∀ (u:Bool) (r:LA),Bb (zY N F Q3) (zX c b f e g m d a u r)=(R8 N (fun m q=>Q3 (Z_ c b f e g d a m q)) (Bq F) c b f e g m d a u r):=by
 intro u r
 kernel_rfl
theorem HR (F:KF R) (c:LA) (b:Nat) (f e:Bool) (g:Nat) (d:Bool) (a:LA):∀ (n:Nat) (m:Int) (q:LA),Ap (Z' N F) n (Z_ c b f e g d a m q)=(Gt N (Bq F) c b f e g d a n m q)
 | 0,_,_=>by kernel_rfl
 | n+1,m,q=>have e0:=(funext fun m=>funext fun q=>(HR F c b f e g d a n m q))
  Eq.trans (by kernel_rfl) (bJ (Qh N (Bq F) c b f e g d a · · m q) e0 (funext fun u=>funext fun r=>(As ..).trans ((nB N (Ap (Z' N F) n) F c b f e g m d a u r).trans (Bs (R8 N · (Bq F) c b f e g m d a u r) e0))):_)
theorem HS (F:KF R) (i:Int) (c:LA) (b:Nat) (f e d:Bool) (a:LA):∀ (n g:Nat) (l:Int) (o:LA),Ap (aA N F) n (R9 i c b f e d a g l o)=(Fe N (Bq F) i c b f e d a n g l o)
 | 0,_,_,_=>by kernel_rfl
 | n+1,g,l,o=>have e0:=(funext fun g=>funext fun l=>funext fun o=>(HS F i c b f e d a n g l o))
  Eq.trans (by kernel_rfl) (Bcd (Qi N (Bq F) i c b f e d a · · · g l o) e0 (funext fun s=>funext fun p=>(As ..).trans ((nA N (Ap (aA N F) n) F i c b f e g l d a s p).trans (Bs (R7 N · (Bq F) i c b f e g l d a s p) e0))) (funext fun m=>funext fun q=>(Ak ..).trans (HR N F c b f e g d a N m q)):_)
theorem nC (F:KF R) (i:Int) (c:LA) (b:Nat) (f e d:Bool) (a:LA):Bb (z5 N F) (zZ i c b f e d a)=(M6 N (Bq F) i c b f e d a):=by
 exact Eq.trans (by kernel_rfl) (Bs (W2 N (Bq F) i c b f e d a ·) (funext fun g=>funext fun l=>funext fun o=>(Ak ..).trans (HS N F i c b f e d a N g l o)):_)
theorem aB (a:LA) (d:Bool) (i:Int) (c:LA) (b:Nat) (f e:Bool) (F:KF R):Cn (fY N) ZZ N 30 [(.pagg a d),(.int .i64 i),(.imm c b 1 f e)] [] F=(G7 N a d i c b f e (Bq F)):=by
 rw[RS]
 exact Eq.trans (by kernel_rfl) (Bs (Ye N (Bq F) · a d i c b f e) ((As ..).trans (nC N F i c b f e d a)):_)
def RT (args:List AV) (h:Am) (k:KF R):O R :=
 match args,h with
 | [(.pagg a d),(.int .i64 i),(.imm c b 1 f e)],[]=>(G7 N a d i c b f e (Bq k))
 | _,_=>none
theorem aC:Aq N 30 @RT:=by
 intro R Q args h k j;unfold RT;split
 exact A2 (aB ..) (aB ..) ⟨Aq0 N,Awf N,Aww N,trivial⟩
 exact A5
def AJ:=A4 (aC N)
theorem aD:A1 Tryz.prog 30 (AJ N):=A6 (aC N) follows
def RU (r0:Int→O R) (d:LA) (b:Nat) (e f:Bool) (a c:Int):O R :=
 (cond ((decide (a≥((b:Nat):Int)))==false) (cond (cond false true (decide (c≤0))) (r0 0) (cond (Ad a b) (Ao .i64 (d.drop ((a.toNat)*1)) fun g=>(DY N (wrap .i64 (Int.tdiv g 3)) (wrap .i64 (c+1)) (fun i=>(r0 i)))) none)) (r0 0))
def HT:=(Ah (fun (N:Nat) (d:LA) (b:Nat) (e f:Bool) (a c:Int) (r0:Int→O R)=>(RU N r0 d b e f a c))).1
theorem DN (d b e f a c r0):(@HT R N d b e f a c r0)=(RU N r0 d b e f a c):=by rw[HT,(Ah _).2]
def Awx:Hints:={ H:=hL }
def A08:Ek:=[(12,og N)]
def xz (F:KF R):Int→O R:=(fun l=>F (.int .i64 l) [])
theorem yA (d:LA) (b:Nat) (e f:Bool) (a c:Int) (F:KF R):Cn (A08 N) Awx N 116 [(.imm d b 1 e f),(.int .i64 a),(.int .i64 c)] [] F=(HT N d b e f a c (xz F)):=by
 rw[DN]
 kernel_rfl
def rO (args:List AV) (h:Am) (k:KF R):O R :=
 match args,h with
 | [(.imm d b 1 e f),(.int .i64 a),(.int .i64 c)],[]=>(HT N d b e f a c (xz k))
 | _,_=>none
theorem yB:Aq N 116 @rO:=by
 intro R Q args h k j;unfold rO;split
 exact A2 (yA ..) (yA ..) ⟨Ap9 N,trivial⟩
 exact A5
def yC:=A4 (yB N)
theorem Awy:A1 Tryz.prog 116 (yC N):=A6 (yB N) follows
end
end Gx

namespace Gx
open Go Go.Proofs
section
variable {R:Type}
section
variable {u:UnitD} {ks:List Int} {n:Nat}
def A79 (u:UnitD) (ks:List Int) (n h:Nat):PD :=
 cond (h==0&&u.state==2) ⟨Ig u.min (u.output - u.rampDown),Bv (cond (decide (h+1<n)&&!Cq ks (h+1)) (Bv (cond (N7 u ks h) u.max (Bv u.max u.startRamp)) u.stopRamp) (cond (N7 u ks h) u.max (Bv u.max u.startRamp))) (u.output+u.rampUp)⟩
  ⟨u.min,cond (decide (h+1<n)&&!Cq ks (h+1)) (Bv (cond (N7 u ks h) u.max (Bv u.max u.startRamp)) u.stopRamp) (cond (N7 u ks h) u.max (Bv u.max u.startRamp))⟩
theorem A5x {N:Nat} {K:LA→Option R} {c g i:Bool} {h:Nat} (A:uR u) (D:ks.length=n) (hn:n≤1000) (F:h<n):RR N u.av c (Av ks) n g i (h:Int) K=K (A79 u ks n h).av:=by
 unfold uR at A
 rw[rM];unfold gn
 have B:∀ f:Int,MC N K (h:Int) c u.av f=K (cond (h==0&&u.state==2) (PD.mk (Ig u.min (u.output - u.rampDown)) (Bv f (u.output+u.rampUp))) (PD.mk u.min f)).av:=by
  intro f
  unfold MC VR fW
  simp only[u2,u6,u7,A46,Bad]
  rw[i64 (a:=u.output - u.rampDown) (by omega),i64 (a:=u.output+u.rampUp) (by omega)]
  cases h with
  | zero=>rw[show(((0:Nat):Int)==0)=true from rfl];cases (u.state==2)<;>rfl
  | succ h=>rw[show(((h+1:Nat):Int)==0)=false by simp;omega,show(h+1==0)=false from rfl];rfl
 have C:∀ l:Int,Zs N K (Av ks) n g i (h:Int) c u.av l=K (cond (h==0&&u.state==2) (PD.mk (Ig u.min (u.output - u.rampDown)) (Bv (cond (decide (h+1<n)&&!Cq ks (h+1)) (Bv l u.stopRamp) l) (u.output+u.rampUp))) (PD.mk u.min (cond (decide (h+1<n)&&!Cq ks (h+1)) (Bv l u.stopRamp) l))).av:=by
  intro l
  unfold Zs VS
  simp only[B,u9]
  rw[wS (by omega)]
  by_cases k:h+1<n
  ·rw[Jp k,show(true==true)=true from rfl,ct,Aa k,ct,C3 (by omega),show decide (h+1<n)=true by simpa using k,G6 (by omega),Bool.true_and,show(ks[h+1] != 2)=(!(ks[h+1]==2)) from rfl]
   cases (ks[h+1]==2)<;>rfl
  ·rw[Lb (by omega),show decide (h+1<n)=false by simpa using k];rfl
 simp only[C,u3,u8,A46]
 unfold A79
 cases h with
 | zero =>
  rw[show(((0:Nat):Int)==0)=true from rfl,show N7 u ks 0=(u.state==2) from rfl,show(u.state != 2)=(!(u.state==2)) from rfl]
  cases (u.state==2)<;>rfl
 | succ h =>
  rw[show(((h+1:Nat):Int)==0)=false by simp;omega,show N7 u ks (h+1)=Cq ks h from rfl,show(false==true)=false from rfl,cf,show(decide (((h+1:Nat):Int)>0)==true)=true by simp,ct]
  rw[show IntKind.wrap .i64 (((h+1:Nat):Int) - 1)=(h:Int) by rw[i64 (by omega)];omega,Aa (by omega),ct,C3 (by omega),G6 (ks:=ks) (h:=h) (by omega),show(ks[h] != 2)=(!(ks[h]==2)) from rfl]
  cases (ks[h]==2)<;>rfl
theorem Bcr (ok:UOk u) {h:Nat} (k:Cq ks h=true):DM u ks n h=cond (decide (0<h)&&N7 u ks h) ⟨Ig (A79 u ks n h).lo ((DM u ks n (h - 1)).lo - u.rampDown),Bv (A79 u ks n h).hi ((DM u ks n (h - 1)).hi+u.rampUp)⟩ (A79 u ks n h):=by
 obtain⟨a,b,c,d⟩:=ok
 cases h with
 | zero =>
  unfold DM A79
  rw[Z2,k,show N7 u ks 0=(u.state==2) from rfl]
  cases (u.state==2)<;>cases (decide (0+1<n)&&!Cq ks (0+1))<;>simp[Kg,R6]<;>omega
 | succ h =>
  rw[Nat.add_sub_cancel,A77 k]
  unfold DM A79
  rw[Z2,k,show N7 u ks (h+1)=Cq ks h from rfl]
  cases Cq ks h<;>cases (decide (h+1+1<n)&&!Cq ks (h+1+1))<;>simp[Kg,R6]<;>omega
def gE (u:UnitD) (ks:List Int) (n p:Nat):Nat→PD:=fun i=>if i<p then DM u ks n i else ⟨0,0⟩
def gC (u:UnitD) (ks:List Int) (n p:Nat):Nat→PD:=fun i=>if i<p then DM u ks n i else Ty u ks n i
theorem Bbz {h:Nat} (k:Cq ks h=false):DM u ks n h=⟨0,0⟩:=by unfold DM;rw[k];exact Ase k
theorem Awz {N:Nat} {K:Nat→Int→LA→Option R} {f e d:Bool} (ok:UOk u) (M:uR u) (hn:n≤1000) (O:ks.length=n):∀ (m fuel:Nat),m<n→m<fuel →
  Gt N K (Av ks) n f e n d u.av fuel (m:Int) (tb n (gC u ks n m))=K n 0 (tb n (Ty u ks n))
 | 0,fuel+1,_,_=>by
  rw[Gt];unfold Qh
  rw[show decide (((0:Nat):Int)>0)=false from rfl,cf,Gc fun i _=>by unfold gC;rw[if_neg (by omega)]]
 | m+1,fuel+1,C,V=>by
  rw[Gt];unfold Qh R8
  have h:m<n:=by omega
  have k:m<ks.length:=by omega
  have A:m+1<ks.length:=by omega
  have F:=Awz (N:=N) (K:=K) (f:=f) (e:=e) (d:=d) ok M hn O m fuel (by omega) (by omega)
  have Y:=ok.b;have ha:=ok.a
  have r1:=Awn (ks:=ks) (n:=n) ok (n - 1 - (m+1)) (m+1) (by omega)
  have r2:=Awm (ks:=ks) (n:=n) ok (m+1)
  have f1:=Ahx (ks:=ks) ok (m+1)
  have S:IntKind.wrap .i64 (((m+1:Nat):Int) - 1)=(m:Int):=by rw[i64 (by omega)];omega
  have G:gC u ks n (m+1) m=DM u ks n m:=by unfold gC;rw[if_pos (by omega)]
  have T:gC u ks n (m+1) (m+1)=Ty u ks n (m+1):=by unfold gC;rw[if_neg (by omega)]
  have up:∀ v:PD,v=Ty u ks n m→tb n (tc (gC u ks n (m+1)) m v)=tb n (gC u ks n m):=fun v U=>Gc fun i _=>by
   subst U
   unfold tc gC
   by_cases D:i=m
   ·subst D;rw[if_pos rfl,if_neg (by omega)]
   ·rw[if_neg D]
    by_cases I:i<m
    ·rw[if_pos (by omega),if_pos I]
    ·rw[if_neg (by omega),if_neg I]
  have same:Ty u ks n m=DM u ks n m→tb n (gC u ks n (m+1))=tb n (gC u ks n m):=fun hs=>by
   rw[←up _ rfl,hs,←G]
   exact Gc fun i _=>by unfold tc;by_cases D:i=m<;>simp[D]
  have s1:∀ (a b:Int),[(AV.int .i64 a),(.int .i64 b)]=(PD.mk a b).av:=fun _ _=>rfl
  have st:=HP u ks (n:=n) (h:=m) (by omega)
  rw[show decide (((m+1:Nat):Int)>0)=true by simp,ct,Aa C,ct,C3 A,S]
  cases L:(ks[m+1]==2) with
  | false =>
   have o:Cq ks (m+1)=false:=by rw[G6 A];exact L
   rw[show(false==true)=false from rfl,cf]
   dsimp only
   rw[cf,same (by rw[st,o,Bool.and_false,cond_false])]
   exact F
  | true =>
   have o:Cq ks (m+1)=true:=by rw[G6 A];exact L
   rw[show(true==true)=true from rfl,ct,Aa h,ct,C3 k]
   dsimp only
   cases B:(ks[m]==2) with
   | false =>
    have o2:Cq ks m=false:=by rw[G6 k];exact B
    rw[show(cond true false false)=false from rfl,cf,same (by rw[st,o2,Bool.false_and,cond_false])]
    exact F
   | true =>
    have o2:Cq ks m=true:=by rw[G6 k];exact B
    rw[show(cond true true false)=true from rfl,ct]
    simp only[Aa h,Aa C,ct,rJ h,rJ C,rK h,rK C,u6,u7,G,T,s1]
    rw[Aod h,ct,mw h,i64 (a:=(Ty u ks n (m+1)).lo - u.rampUp) (by omega),i64 (a:=(Ty u ks n (m+1)).hi+u.rampDown) (by omega),up _ (by rw[st,o,o2];rfl)]
    exact F
theorem Aw0 {N:Nat} {X:Option R} {K:Nat→Int→LA→Option R} {f e d:Bool} (ok:UOk u) (I:uR u) (hn:n≤1000) (O:0<n) (L:ks.length=n) (hN:1100≤N) (A:K8 u ks n=true→K 0 7 []=X) (B:K8 u ks n=false→K n 0 (tb n (Ty u ks n))=X):∀ (m p fuel:Nat),p+m=n→m<fuel →
  (∀ h,h<p→Cq ks h=true→(DM u ks n h).lo≤(DM u ks n h).hi)→Fe N K (n:Int) (Av ks) n f e d u.av fuel n (p:Int) (tb n (gE u ks n p))=X
 | 0,p,fuel+1,V,_,D=>by
  rw[Fe];unfold Qi
  have:K8 u ks n=false:=by
   unfold K8
   rw[List.any_eq_false]
   intro h Y
   simp at Y
   cases F:Cq ks h with
   | true=>have:=D h (by omega) F;simp;omega
   | false=>simp
  rw[Lb (by omega),cf,i64 (by omega),show(n:Int) - 1=((n - 1:Nat):Int) by omega]
  have e:=Awz (N:=N) (K:=K) (f:=f) (e:=e) (d:=d) (ks:=ks) ok I hn L (n - 1) N (by omega) (by omega)
  dsimp only
  rw[Gc (g:=gE u ks n p) (g':=gC u ks n (n - 1)) fun i hi=>by
   unfold gE gC
   rw[if_pos (by omega)]
   by_cases h:i<n - 1
   ·rw[if_pos h]
   ·rw[if_neg h,show i=n - 1 by omega,RO _ _ O],e]
  exact B this
 | m+1,p,fuel+1,V,hf,D=>by
  rw[Fe];unfold Qi R7 W1 AI
  have h:p<n:=by omega
  have C:p<ks.length:=by omega
  have hb:=ok.b;have ha:=ok.a
  have S:=Aw0 (N:=N) (K:=K) (f:=f) (e:=e) (d:=d) ok I hn O L hN A B m (p+1) fuel (by omega) (by omega)
  rw[Jp h,ct,Aa h,ct,C3 C,wS (by omega)]
  cases F:(ks[p] != 2) with
  | true =>
   have o:Cq ks p=false:=by rw[G6 C];simpa using F
   rw[ct,Gc (g:=gE u ks n p) (g':=gE u ks n (p+1)) fun i _=>by
    unfold gE
    by_cases A:i<p
    ·rw[if_pos A,if_pos (by omega)]
    ·rw[if_neg A]
     by_cases B:i=p
     ·subst B;rw[if_pos (by omega),Bbz o]
     ·rw[if_neg (by omega)]]
   exact S fun h' M k=>by
    by_cases e:h'=p
    ·subst e;rw[o] at k;cases k
    ·exact D h' (by omega) k
  | false =>
   have o:Cq ks p=true:=by rw[G6 C];simpa using F
   have en:=Bcr (n:=n) ok o
   rw[cf,D8,ct,Cg,A5x I L hn h,ct,Bbu h,ct,A9r h]
   have s1:∀ (a b:Int),[(AV.int .i64 a),(.int .i64 b)]=(PD.mk a b).av:=fun _ _=>rfl
   have up:tb n (tc (gE u ks n p) p (DM u ks n p))=tb n (gE u ks n (p+1)):=Gc fun i _=>by
    unfold tc gE
    by_cases A:i=p
    ·subst A;simp
    ·rw[if_neg A]
     by_cases B:i<p
     ·rw[if_pos B,if_pos (by omega)]
     ·rw[if_neg B,if_neg (by omega)]
   have fin:cond (Ad (p:Int) n) (Ao .i64 (List.drop (0+((p:Int).toNat*2)) (tb n (gE u ks n (p+1)))) fun w=>(cond (Ad (p:Int) n) (Ao .i64 (List.drop ((0+((p:Int).toNat*2))+1) (tb n (gE u ks n (p+1)))) fun x=>(cond (decide (w>x)) (K 0 7 []) (Fe N K (n:Int) (Av ks) n f e d u.av fuel n ((p+1:Nat):Int) (tb n (gE u ks n (p+1)))))) none)) none=X:=by
    rw[Aa h,ct,rJ h,ct,rK h,show gE u ks n (p+1) p=DM u ks n p by unfold gE;rw[if_pos (by omega)]]
    by_cases T:(DM u ks n p).lo>(DM u ks n p).hi
    ·rw[decide_eq_true T,ct]
     refine A ?_
     unfold K8
     rw[List.any_eq_true]
     exact⟨p,by simpa using h,by simp[o];omega⟩
    ·rw[decide_eq_false T,cf]
     exact S fun h' M k=>by
      by_cases e:h'=p
      ·subst e;omega
      ·exact D h' (by omega) k
   cases p with
   | zero =>
    rw[show(decide (((0:Nat):Int)>0)==true)=false from rfl,cf]
    dsimp only
    rw[cf]
    rw[show(decide ((0:Nat)<0))=false from rfl,Bool.false_and,cond_false] at en
    rw[←en,up]
    simpa only[Aa h,ct,rJ h,rK h] using fin
   | succ q =>
    have r0:=Awm (ks:=ks) (n:=n) ok q
    have r1:=Ahx (ks:=ks) ok q
    have ge0:tc (gE u ks n (q+1)) (q+1) (A79 u ks n (q+1)) (q+1)=A79 u ks n (q+1):=by simp[tc]
    have ge1:tc (gE u ks n (q+1)) (q+1) (A79 u ks n (q+1)) q=DM u ks n q:=by unfold tc gE;rw[if_neg (by omega),if_pos (by omega)]
    have G:q<n:=by omega
    rw[show(decide (((q+1:Nat):Int)>0)==true)=true by simp,ct,show IntKind.wrap .i64 (((q+1:Nat):Int) - 1)=(q:Int) by rw[i64 (by omega)];omega,Aa G,ct,C3 (by omega)]
    rw[show decide (0<q+1)=true by simp,Bool.true_and,show N7 u ks (q+1)=Cq ks q from rfl,Nat.add_sub_cancel] at en
    rw[←G6 (by omega)]
    dsimp only
    cases U:Cq ks q with
    | false =>
     rw[U,cond_false] at en
     rw[show(cond true false false)=false from rfl,cf,←en,up]
     simpa only[Aa h,ct,rJ h,rK h] using fin
    | true =>
     rw[U,cond_true] at en
     rw[show(cond true true false)=true from rfl,ct]
     simp only[Aa h,Aa G,ct,rJ h,rJ G,rK h,rK G,u6,u7,ge0,ge1,s1]
     rw[Aod h,ct,mw h,i64 (a:=(DM u ks n q).lo - u.rampDown) (by omega),i64 (a:=(DM u ks n q).hi+u.rampUp) (by omega),←en]
     rw[Gc (g:=tc (tc (gE u ks n (q+1)) (q+1) (A79 u ks n (q+1))) (q+1) (DM u ks n (q+1))) (g':=tc (gE u ks n (q+1)) (q+1) (DM u ks n (q+1))) fun i _=>by
      unfold tc;by_cases A:i=q+1<;>simp[A],up]
     simpa only[Aa h,ct,rJ h,rK h] using fin
end
end
end Gx

namespace Gx
open Go Go.Proofs
section
variable {R:Type}
theorem Ah2 {u:UnitD} {h:Int} (A:Fg u h=true):UOk u:=by
 simp only[Fg,Bool.and_eq_true,Ff,decide_eq_true_eq] at A
 obtain⟨L,M,O,S,T,U,V,Y,h9,B,C,D,F,G,k,I⟩:=A
 refine⟨by omega,by omega,by omega,fun hs=>?_⟩
 unfold Az2 at k
 rw[show(u.state==2)=true by simpa using hs] at k
 simpa[Ff] using k
def nD (u:UnitD) (h:Int) (ks:List Int):Int :=
 cond (!Fg u h) 1 (cond ((ks.length:Int) != h) 4 (cond (!(N6 u 0 (Mo u) ks).2) 16 (cond ((u.state==2&&!Cq ks 0)&&decide (u.output>u.stopRamp)) 7 (cond (K8 u ks ks.length) 7 0))))
section
variable {u:UnitD} {ks:List Int} {n:Nat}
theorem Aw1 {N:Nat} {X:Option R} {K:Nat→Int→LA→Option R} {d c:Bool} (ok:UOk u) (hn:n≤1000) (G:ks.length=n) (D:K8 u ks n=true→K 0 7 []=X) (F:K8 u ks n=false→K n 0 (tb n (Ty u ks n))=X):∀ (m p fuel:Nat),p+m=n→m<fuel →
  (∀ h,h<p→(Ty u ks n h).lo≤(Ty u ks n h).hi)→Ku N K (Av ks) n d c n fuel (n:Int) (p:Int) (tb n (Ty u ks n))=X
 | 0,p,fuel+1,I,_,B=>by
  rw[Ku];unfold Rx
  rw[Lb (by omega),cf]
  refine F ?_
  rw[Ahy ok,List.any_eq_false]
  intro h L
  have:=B h (by simp at L;omega)
  simp;omega
 | m+1,p,fuel+1,I,S,B=>by
  rw[Ku];unfold Rx
  have h:p<n:=by omega
  have k:p<ks.length:=by omega
  have A:=Aw1 (N:=N) (K:=K) (d:=d) (c:=c) ok hn G D F m (p+1) fuel (by omega) (by omega)
  rw[Jp h,ct,Aa h,ct,Ahw h,ct,Ahv h,A76,ct,Asd,Awk,Awl,wS (by omega)]
  by_cases C:(Ty u ks n p).lo>(Ty u ks n p).hi
  ·rw[decide_eq_true C,ct]
   refine D ?_
   rw[Ahy ok,List.any_eq_true]
   exact⟨p,by simpa using h,by simpa using C⟩
  ·have A:=A fun h' M=>by
    by_cases e:h'=p
    ·subst e;omega
    ·exact B h' (by omega)
   rw[decide_eq_false C,cf,ct,C3 k]
   cases O:(ks[p] != 2) with
   | false=>rw[cf];exact A
   | true =>
    have o:Cq ks p=false:=by rw[G6 k];simpa using O
    rw[ct,ct,Aod h,ct,show [(AV.int .i64 0),(.int .i64 0)]=(PD.mk 0 0).av from rfl,mw h,Gc (g:=tc (Ty u ks n) p ⟨0,0⟩) (g':=Ty u ks n) fun i _=>by
     unfold tc
     by_cases e:i=p
     ·subst e;rw[if_pos rfl,A78 h o,Ase o]
     ·rw[if_neg e]]
    exact A
theorem Bav {f:Int→Option R} (h:0<ks.length):Ao .i64 (Av ks) f=f ks[0]:=by
 have:=PW (l:=ks) (i:=0) h (f:=f)
 rwa [List.drop_zero] at this
theorem Ah3 {N:Nat} {X:Option R} {K:Nat→Int→LA→Option R} {h:Int} {g i o:Bool} (V:u.away.l.length≤1000) (I:ks.length≤1000) (hN:4096≤N) (hn:n=ks.length)
  (A:nD u h ks=0→K n 0 (tb n (Ty u ks n))=X) (k:nD u h ks≠0→K 0 (nD u h ks) []=X):Hc N u.av o h (Av ks) n g i K=X:=by
 subst hn
 rw[AD];unfold Un
 rw[D8,ct,Cg,Xq (by omega) (by omega) (by omega)]
 unfold nD at A k
 cases L:Fg u h with
 | false=>rw[L] at k;exact k (by simp)
 | true =>
  rw[L] at A k
  have ok:=Ah2 L
  obtain⟨hs,T,hh⟩:=zf L
  simp only[Bool.not_true,cond_false] at A k ⊢
  cases C:((ks.length:Int) != h) with
  | true=>rw[C] at k;exact k (by simp)
  | false =>
   rw[C] at A k
   have D:(ks.length:Int)=h:=by simpa using C
   have M:0<ks.length:=by omega
   rw[cf,ct]
   simp only[cond_false] at A k
   refine A06 (by omega) hs V I rfl (fun O=>?_) (fun O=>?_)
   ·rw[O] at A k
    simp only[Bool.not_true,cond_false] at A k
    rw[show((0:Int) != 0)=false from rfl,cf,A46,show Ad 0 ks.length=true by simp[Ad];omega,ct,Bav M,Bad,u9]
    have B:cond ((u.state==2&&!Cq ks 0)&&decide (u.output>u.stopRamp)) 7 (cond (K8 u ks ks.length) 7 0)=cond (K8 u ks ks.length) 7 (0:Int)→Kv N K h (Av ks) ks.length g i o u.av=X:=by
     intro Y
     rw[Y] at A k
     unfold Kv Ry
     rw[D8,ct,Cg,←D,Asf ok T I rfl (by omega),ct,Akz ok T I M rfl (by omega)]
     exact Aw1 ok I rfl (fun S=>by rw[S] at k;exact k (by simp)) (fun S=>by rw[S] at A;exact A rfl) ks.length 0 N (by omega) (by omega) (by omega)
    rw[G6 M] at B k
    have e:(ks[0] != 2)=!(ks[0]==2):=rfl
    rw[e]
    cases F:(u.state==2) with
    | false=>rw[F] at B;exact B rfl
    | true =>
     rw[F] at B k
     cases G:(ks[0]==2) with
     | true=>rw[G] at B;exact B rfl
     | false =>
      rw[G] at B k
      cases U:decide (u.output>u.stopRamp) with
      | false=>rw[U] at B;exact B rfl
      | true=>rw[U] at k;exact k (by simp)
   ·rw[O] at k
    exact k (by simp)
theorem AK {N:Nat} {X:Option R} {K:Nat→Int→LA→Option R} {h:Int} {g i o:Bool} (U:u.away.l.length≤1000) (S:ks.length≤1000) (hN:4096≤N) (hn:n=ks.length)
  (A:nD u h ks=0→K n 0 (tb n (Ty u ks n))=X) (k:nD u h ks≠0→K 0 (nD u h ks) []=X):G7 N u.av o h (Av ks) n g i K=X:=by
 subst hn
 rw[RS];unfold Ye
 rw[D8,ct,Cg,Af0 (by omega) (by omega) (by omega)]
 unfold nD at A k
 cases I:Fg u h with
 | false=>rw[I] at k;exact k (by simp)
 | true =>
  rw[I] at A k
  have ok:=Ah2 I
  obtain⟨hs,V,hh⟩:=zf I
  simp only[Bool.not_true,cond_false] at A k ⊢
  cases C:((ks.length:Int) != h) with
  | true=>rw[C] at k;exact k (by simp)
  | false =>
   rw[C] at A k
   have D:(ks.length:Int)=h:=by simpa using C
   have L:0<ks.length:=by omega
   rw[cf,ct]
   simp only[cond_false] at A k
   refine Awj (by omega) hs U S rfl (fun M=>?_) (fun M=>?_)
   ·rw[M] at A k
    simp only[Bool.not_true,cond_false] at A k
    rw[show((0:Int) != 0)=false from rfl,cf,A46,show Ad 0 ks.length=true by simp[Ad];omega,ct,Bav L,Bad,u9]
    have B:cond ((u.state==2&&!Cq ks 0)&&decide (u.output>u.stopRamp)) 7 (cond (K8 u ks ks.length) 7 0)=cond (K8 u ks ks.length) 7 (0:Int)→M6 N K h (Av ks) ks.length g i o u.av=X:=by
     intro Y
     rw[Y] at A k
     unfold M6 W2
     rw[←D,show((decide (0≤(ks.length:Int)))&&((decide ((ks.length:Int)≤(ks.length:Int)))&&((decide ((ks.length:Int)≤140737488355328))&&(decide (((ks.length:Int)*((16:Nat):Int))≤140737488355328)))))=true by simp;omega,ct,Int.toNat_natCast,A2n]
     have:=Aw0 (N:=N) (K:=K) (f:=g) (e:=i) (d:=o) (X:=X) ok V S L rfl (by omega) (fun O=>by rw[O] at k;exact k (by simp)) (fun O=>by rw[O] at A;exact A rfl) ks.length 0 N (by omega) (by omega) (by omega)
     rw[Gc (g:=gE u ks ks.length 0) (g':=fun _=>⟨0,0⟩) fun i _=>by unfold gE;rw[if_neg (by omega)]] at this
     exact this
    rw[G6 L] at B k
    have e:(ks[0] != 2)=!(ks[0]==2):=rfl
    rw[e]
    cases F:(u.state==2) with
    | false=>rw[F] at B;exact B rfl
    | true =>
     rw[F] at B k
     cases G:(ks[0]==2) with
     | true=>rw[G] at B;exact B rfl
     | false =>
      rw[G] at B k
      cases T:decide (u.output>u.stopRamp) with
      | false=>rw[T] at B;exact B rfl
      | true=>rw[T] at k;exact k (by simp)
   ·rw[M] at k
    exact k (by simp)
end
end
end Gx

namespace Gx
open Go Go.Proofs
section
variable {R:Type}
theorem th {N:Nat} {X:Option R} {k0:Nat→Int→LA→LA→Option R} {K:Nat→LA→Option R} {h:Int} {raw ks:List Int} {L:List StD} {u:UnitD} {s:StD} {g i b:Bool} {p:Nat} (I:u.away.l.length≤1000) (hN:1100≤N) (hL:L.length≤1000) (D:∀ t ∈ L,DK u t) (hs:C4 u=true) (T:p≤1000) (F:ks.length≤1000)
  (M:K ks.length (Av ks)=X) (O:∀ t:StD,DK u t→k0 (ks.length+1) ((p+1:Nat):Int) (Av (ks++[t.k])) t.av=X):∀ (m j fuel:Nat) (C:List StD),j+m=L.length→m<fuel→C.length≤j→(∀ t ∈ C,DK u t) →
  Nn N k0 K h (Av raw) raw.length g i L.length b u.av s.av (L.flatMap StD.av) fuel ks.length (p:Int) C.length (j:Int) (Av ks) (C.flatMap StD.av)=X
 | 0,j,fuel+1,C,Y,_,hC,G=>by
  rw[Nn];unfold Va
  rw[Lb (by omega),cf]
  by_cases U:C.length=0
  ·rw[show(((C.length:Nat):Int)==0)=true by simpa using U,ct];exact M
  ·rw[show(((C.length:Nat):Int)==0)=false by simpa using U,cf]
   have pick:∀ (k:Nat) (D:k<C.length),(cond (Nat.ble 2 (List.length (List.drop (0+(Int.toNat (k:Int))*2) (C.flatMap StD.av)))) (cond ((Nat.beq (List.length (List.take 2 (List.drop (0+(Int.toNat (k:Int))*2) (C.flatMap StD.av)))) 2)&&((Nat.ble 2 (List.length s.av))&&(!false))) (Ao .i64 (setCells s.av 0 (List.take 2 (List.drop (0+(Int.toNat (k:Int))*2) (C.flatMap StD.av)))) fun ae=>(cond ((Nat.ble (ks.length+1) 140737488355328)&&(Nat.ble ((ks.length+1)*8) 140737488355328)) (k0 (ks.length+1) (IntKind.wrap .i64 ((p:Int)+1)) ((List.take (ks.length*1) (Av ks))++[(.int .i64 ae)]) (setCells s.av 0 (List.take 2 (List.drop (0+(Int.toNat (k:Int))*2) (C.flatMap StD.av))))) none)) none) none)=X:=by
    intro k D
    rw[Aht D,mt,ct,mu,Bas,ct,A70,Ahs,show((Nat.ble (ks.length+1) 140737488355328)&&(Nat.ble ((ks.length+1)*8) 140737488355328))=true by rw[Bool.and_eq_true,Nat.ble_eq,Nat.ble_eq];omega,ct,wS (by omega),A48]
    exact O _ (G _ (List.getElem_mem D))
   by_cases hr:p<raw.length
   ·rw[Jp hr,ct,Aa hr,ct,C3 hr]
    have B:(0:Int)<(C.length:Int):=by omega
    have e:Int.tmod (IntKind.wrap .i64 (Int.tmod raw[p] (C.length:Int)+(C.length:Int))) (C.length:Int)=(((raw[p]%(C.length:Int)).toNat:Nat):Int):=by
     rw[Anj B (by omega),Af1 B]
     have:=Int.emod_nonneg raw[p] (show(C.length:Int)≠0 by omega)
     omega
    have A:(raw[p]%(C.length:Int)).toNat<C.length:=by
     have:=Int.emod_lt_of_pos raw[p] B
     have:=Int.emod_nonneg raw[p] (show(C.length:Int)≠0 by omega)
     omega
    rw[cf,cf]
    simp only[e]
    rw[Aa A,ct]
    exact pick _ A
   ·rw[Lb (by omega),cf,show Ad 0 C.length=true by simp[Ad];omega,ct]
    exact pick 0 (by omega)
 | m+1,j,fuel+1,C,Y,hf,hC,G=>by
  rw[Nn];unfold Va
  have A:j<L.length:=by omega
  have V:=D L[j] (List.getElem_mem A)
  rw[Jp A,ct,D8,ct,Aa A,ct,Aht A,A72,Cg,rI I hN (t5 hs V).2.2,wS (by omega)]
  cases mv u p L[j].k with
  | false=>rw[cf];exact th I hN hL D hs T F M O m (j+1) fuel C (by omega) (by omega) (by omega) G
  | true =>
   rw[ct,ct,mt,ct,mu,show ∀ t:StD,((Nat.beq (List.length t.av) 2)&&(Nat.ble 2 2))=true from fun _=>rfl,ct,A47 (by omega),ct,Baq,A05,RL]
   have:=th (N:=N) (k0:=k0) (h:=h) (raw:=raw) (g:=g) (i:=i) (b:=b) (s:=s) I hN hL D hs T F M O m (j+1) fuel (C++[L[j]]) (by omega) (by omega) (by simp;omega) (fun t ht=>by
    rcases List.mem_append.1 ht with S | S
    ·exact G t S
    ·rw[List.mem_singleton.1 S];exact V)
   rw[List.length_append] at this
   exact this
theorem yD {N:Nat} {X:Option R} {K:Nat→LA→Option R} {h:Int} {raw:List Int} {u:UnitD} {g i b:Bool} (B:u.away.l.length≤1000) (hN:1100≤N) (hs:C4 u=true) (F:h≤1000) (H:∀ ks:List Int,ks.length≤h→K ks.length (Av ks)=X):∀ (m fuel:Nat) (ks:List Int) (s:StD),ks.length+m=h→m<fuel→DK u s →
  He N K h (Av raw) raw.length g i b u.av fuel ks.length (ks.length:Int) (Av ks) s.av=X
 | 0,fuel+1,ks,s,G,_,_=>by
  rw[He];unfold Vb
  rw[show decide ((ks.length:Int)<h)=false by simp;omega,show(false==true)=false from rfl,cf]
  exact H ks (by omega)
 | m+1,fuel+1,ks,s,G,M,A=>by
  rw[He];unfold Vb
  rw[show decide ((ks.length:Int)<h)=true by simp;omega,show(true==true)=true from rfl,ct,D8,ct,Cg,Kx,hs,show(cond true true false)=true from rfl]
  dsimp only
  rw[ct]
  unfold Yd HQ
  rw[D8,ct,uT,ct,Cg,A05,lE hN hs A]
  have:=t6 (u:=u) (s:=s)
  refine th (L:=J7 u s) (C:=[]) B hN (by omega) (Ahr hs A) hs (by omega) (by omega) (H ks (by omega)) (fun t I=>?_) (J7 u s).length 0 N (by omega) (by omega) (by simp) (by simp)
  have D:=yD (N:=N) (K:=K) (raw:=raw) (g:=g) (i:=i) (b:=b) B hN hs F H m fuel (ks++[t.k]) t (by simp;omega) (by omega) I
  rw[List.length_append] at D
  exact D
theorem A5y {N:Nat} {X:Option R} {K:Nat→LA→Option R} {h:Int} {raw:List Int} {u:UnitD} {g i b:Bool} {n:Nat} (hn:n=raw.length) (k:u.away.l.length≤1000) (hN:1100≤N) (hs:C4 u=true) (A:0≤h∧h≤1000) (H:∀ ks:List Int,ks.length≤h→K ks.length (Av ks)=X):W0 N u.av b h (Av raw) n g i K=X:=by
 subst hn
 rw[fU];unfold MB
 rw[D8,ct,Cg,RK hs,show ∀ t:StD,((Nat.beq (List.length t.av) 2)&&((Nat.ble 2 2)&&(!false)))=true from fun _=>rfl,ct,Baq]
 exact yD k hN hs A.2 H h.toNat N [] (Mo u) (by simp;omega) (by omega) (t7 hs)
theorem Aoe {N:Nat} {K:Int→Option R} {raw:List Int} {g i:Bool} {n:Nat} {a c:Int} (hn:n=raw.length) (B:0≤a) (C:c≤1000000000):∃ v:Int,0≤v∧(v=0∨v≤c)∧∀ K:Int→Option R,HT N (Av raw) n g i a c K=K v:=by
 subst hn
 by_cases k:a≥(raw.length:Int)
 ·refine⟨0,by omega,.inl rfl,fun K=>?_⟩
  rw[DN];unfold RU
  rw[decide_eq_true k];rfl
 ·by_cases A:c≤0
  ·refine⟨0,by omega,.inl rfl,fun K=>?_⟩
   rw[DN];unfold RU
   rw[decide_eq_false k,decide_eq_true A];rfl
  ·have hi:a.toNat<raw.length:=by omega
   obtain⟨j,rfl⟩:∃ j:Nat,a=j:=⟨a.toNat,by omega⟩
   rw[Int.toNat_natCast] at hi
   refine⟨IntKind.wrap .i64 (Int.tdiv raw[j] 3)%(c+1),Int.emod_nonneg _ (by omega),.inr (by have:=Int.emod_lt_of_pos (IntKind.wrap .i64 (Int.tdiv raw[j] 3)) (show 0<c+1 by omega);omega),fun K=>?_⟩
   rw[DN];unfold RU
   rw[decide_eq_false k,decide_eq_false A,show(false==false)=true from rfl,ct,show(cond false true false)=false from rfl,cf,Aa hi,ct,C3 hi,i64 (a:=c+1) (by omega),Bc8 (by omega) (by omega)]
end
end Gx

namespace Gx
open Go Go.Proofs
open IntKind (wrap)
set_option maxRecDepth 100000
noncomputable section
variable {R:Type} (N:Nat)
def Gk (k0:Int→Int→Nat→Nat→LA→LA→O R) (r0:LA→O R) (r1:LA→O R) (d:Int) (b:Nat) (e:LA) (f:Nat) (l g:Bool) (m:Nat) (a:LA) (i:Bool) (c o:LA) (ac aa ad:Int) (y z:Nat) (ae af:LA):O R :=
 (Eb N aa (fun ax=>(cond ((Nat.beq (ax.length) 3)&&(Nat.ble 3 3)) (cond ((Nat.ble (y+1) 140737488355328)&&(Nat.ble ((y+1)*56) 140737488355328)) (Eb N ad (fun ay=>(cond ((Nat.beq (ay.length) 3)&&(Nat.ble 3 3)) (cond ((Nat.ble (z+1) 140737488355328)&&(Nat.ble ((z+1)*56) 140737488355328)) (k0 aa (wrap .i64 (ac+1)) (y+1) (z+1) ((ae.take (y*3))++((setCells [(.bool false),.nsl,.nsl] 0 ax).take 3)) ((af.take (z*3))++((setCells [(.bool false),.nsl,.nsl] 0 ay).take 3))) none) none))) none) none)))
def Sw (k0:Int→Int→Nat→Nat→LA→LA→O R) (r0:LA→O R) (r1:LA→O R) (d:Int) (b:Nat) (e:LA) (f:Nat) (l g:Bool) (m:Nat) (a:LA) (i:Bool) (c o:LA) (q2:Int→Int→Int→Nat→Nat→LA→LA→O R) (ag ah ao ap:Int) (aq ar:Nat) (au av:LA):O R :=
 (HT N e f false g (wrap .i64 (2*ag)) (wrap .i64 (ao - ah)) (fun az=>(Ao .i64 (c.drop 16) fun ba=>(HT N e f false g (wrap .i64 ((wrap .i64 (2*ag))+1)) (Bv ba (wrap .i64 (ap - (wrap .i64 (ah+az))))) (fun bb=>(q2 ag (wrap .i64 (ah+az)) bb aq ar au av))))))
def N8 (k0:Int→Int→Nat→Nat→LA→LA→O R) (r0:LA→O R) (r1:LA→O R) (d:Int) (b:Nat) (e:LA) (f:Nat) (l g:Bool) (m:Nat) (a:LA) (i:Bool) (c o:LA) (ag ah ao ap:Int) (aq ar:Nat) (au av:LA):O R:=(Sw N k0 r0 r1 d b e f l g m a i c o (fun ac aa ad y z ae af=>(Gk N k0 r0 r1 d b e f l g m a i c o ac aa ad y z ae af)) ag ah ao ap aq ar au av)
def Sz (N:Nat) (k0:Int→Int→Nat→Nat→LA→LA→O R) (r0:LA→O R) (r1:LA→O R) (d:Int) (b:Nat) (e:LA) (f:Nat) (l g:Bool) (m:Nat) (v w x:Int) (a:LA) (i:Bool) (c o:LA) (q3:Int→Int→Int→Int→Nat→Nat→LA→LA→O R) (ab ai:Int) (an:Bool) (aj ak:Nat) (al am:LA):O R :=
 (cond an (Ao .i64 (c.drop 7) fun bc=>(Ao .i64 (c.drop 6) fun bd=>(Ao .i64 (c.drop 6) fun be=>(q3 ai (Ig v (wrap .i64 (ab - bc))) (Bv w (wrap .i64 (ab+bd))) (Bv x (wrap .i64 (ab+be))) aj ak al am)))) (Ao .i64 (c.drop 8) fun bf=>(q3 ai v w (Bv x bf) aj ak al am)))
def Ji (k0:Int→Int→Nat→Nat→LA→LA→O R) (r0:LA→O R) (r1:LA→O R) (d:Int) (b:Nat) (e:LA) (f:Nat) (l g:Bool) (m:Nat) (v w x:Int) (a:LA) (i:Bool) (c o:LA) (ab ai:Int) (an:Bool) (aj ak:Nat) (al am:LA):O R:=(Sz N k0 r0 r1 d b e f l g m v w x a i c o (fun ag ah ao ap aq ar au av=>(N8 N k0 r0 r1 d b e f l g m a i c o ag ah ao ap aq ar au av)) ab ai an aj ak al am)
def Mp (N:Nat) (r0:LA→O R) (r1:LA→O R) (d:Int) (b:Nat) (e:LA) (f:Nat) (l g:Bool) (m:Nat) (a:LA) (i:Bool) (c o:LA) (k0:Int→Int→Nat→Nat→LA→LA→O R) (q1:Int→Int→Int→Int→Int→Bool→Nat→Nat→LA→LA→O R) (q2:Int→Int→Int→Nat→Nat→LA→LA→O R) (u p:Int) (q r:Nat) (s t:LA):O R :=
 (cond (decide (p<d)) (cond (Ad p b) (Ao .i64 (a.drop (0+((p.toNat)*1))) fun bg=>(cond (bg==2) (cond (Ad p m) (Ao .i64 (o.drop (0+((p.toNat)*2))) fun v=>(cond (Ad p m) (Ao .i64 (o.drop ((0+((p.toNat)*2))+1)) fun w=>(Ao .i64 (c.drop 3) fun x=>(cond ((p==0)==true) (Ao .i64 (c.drop 19) fun bh=>(cond ((cond true (bh==2) false)==false) (cond ((decide (p>0))==true) (cond (Ad (wrap .i64 (p - 1)) b) (Ao .i64 (a.drop (0+(((wrap .i64 (p - 1)).toNat)*1))) fun bi=>(q1 v w x u p (cond false true (cond true (bi==2) false)) q r s t)) none) (q1 v w x u p false q r s t)) (q1 v w x u p true q r s t))) (cond ((decide (p>0))==true) (cond (Ad (wrap .i64 (p - 1)) b) (Ao .i64 (a.drop (0+(((wrap .i64 (p - 1)).toNat)*1))) fun bj=>(q1 v w x u p (cond false true (cond true (bj==2) false)) q r s t)) none) (q1 v w x u p false q r s t))))) none)) none) (q2 p 0 0 q r s t))) none) (r1 [(.imm (a.take (b*1)) b 1 false false),(.imm (s.take (q*3)) q 3 false false),(.imm (t.take (r*3)) r 3 false false)]))
def Cb (r0:LA→O R) (r1:LA→O R) (d:Int) (b:Nat) (e:LA) (f:Nat) (l g:Bool) (m:Nat) (a:LA) (i:Bool) (c o:LA):Nat→Int→Int→Nat→Nat→LA→LA→O R
 | 0,_,_,_,_,_,_=>none
 | n+1,u,p,q,r,s,t=>(Mp N r0 r1 d b e f l g m a i c o (Cb r0 r1 d b e f l g m a i c o n) (fun v w x ab ai an aj ak al am=>(Ji N (Cb r0 r1 d b e f l g m a i c o n) r0 r1 d b e f l g m v w x a i c o ab ai an aj ak al am)) (fun ac aa ad y z ae af=>(Gk N (Cb r0 r1 d b e f l g m a i c o n) r0 r1 d b e f l g m a i c o ac aa ad y z ae af)) u p q r s t)
def Sa (r0:LA→O R) (r1:LA→O R) (q0:Nat→LA→Int→Int→Nat→Nat→LA→LA→O R) (c:LA) (i:Bool) (d:Int) (b:Nat) (e:LA) (f:Nat) (l g:Bool) (a:LA):O R :=
 (cond (Nat.ble 22 (c.length)) (G7 N (c.take 22) i d (a.take (b*1)) b false true (fun m bk o=>(cond (bk != 0) (r0 [(.imm [] 0 1 false false),(.imm [] 0 3 false false),(.imm [] 0 3 false false)]) (Ao .i64 (c.drop 21) fun bl=>(q0 m o bl 0 0 0 [] []))))) none)
def La:=(Ah (fun (N:Nat) (c:LA) (i:Bool) (d:Int) (b:Nat) (e:LA) (f:Nat) (l g:Bool) (a:LA) (r0:LA→O R) (r1:LA→O R)=>(Sa N r0 r1 (fun m o u p q r s t=>(Cb N r0 r1 d b e f l g m a i c o N u p q r s t)) c i d b e f l g a))).1
theorem HU (c i d b e f l g a r0 r1):(@La R N c i d b e f l g a r0 r1)=(Sa N r0 r1 (fun m o u p q r s t=>(Cb N r0 r1 d b e f l g m a i c o N u p q r s t)) c i d b e f l g a):=by rw[La,(Ah _).2]
def MD:Hints:={ H:=(hS hL (hS hL (hS hL (hS hL (hS hL (hS (hS hL (hS (hP [1,2,3,4,8,10,12,13,14] (hS hL (hS (hS (hS hL (hJ [1,2,3,4,8,10,12,14,15,16] (hS hL (hS (hS hL (hJ [1,2,3,4,8,10,12,14,17,18,19] (hJ [1,2,3,4,8,10,12,13,14,17,18,19,74] hL hL) hL)) hL)) hL)) hL) hL))) hL)) hL)))))),modes:=[(3,0),(0,0)],cob:=[29,31] }
def RV:Ek:=[(30,AJ N),(20,E_ N),(116,yC N)]
def N9 (F:KF R):=Kk Tryz.f63 MD (RV N) [100000] N F
def B0 (a:LA) (F:KF R):LA→O R:=(fun aw=>F (.tup [(.pagg aw false),(.bool false)]) [(100000,(bQ 1 a))])
def B4 (a:LA) (F:KF R):LA→O R:=(fun aw=>F (.tup [(.pagg aw false),(.bool true)]) [(100000,(bT 1 a))])
def rP (d:Int) (b:Nat) (e:LA) (f:Nat) (l g:Bool) (m:Nat) (a:LA) (i:Bool) (c o:LA) (ac aa ad:Int) (y z:Nat) (ae af:LA):St:=⟨[(1,(.int .i64 d)),(2,(.own 100000 0 b)),(3,(.imm e f 1 l g)),(4,(.optr 300000 0)),(8,(.optr 300001 0)),(10,(.own 300002 0 m)),(12,(.optr 300003 0)),(14,(.int .i64 ac)),(15,(.int .i64 aa)),(16,(.int .i64 ad))],[(100000,(bQ 1 a)),(300000,(bP i 0 c)),(300001,⟨false,false,false,false,0,[.nsl,.nsl,.nsl],false⟩),(300002,(bQ 2 o)),(300003,⟨false,false,false,false,0,[(.own 100000 0 b),(.own 300004 0 y),(.own 300005 0 z)],false⟩),(300004,(bQ 3 ae)),(300005,(bQ 3 af))]⟩
def rQ (F:KF R) (Q0:St→O R):=N9 N F [1,1,1,1,1,0,1,0,0,1,0,0,1,1] [Q0]
def rR (d:Int) (b:Nat) (e:LA) (f:Nat) (l g:Bool) (m:Nat) (a:LA) (i:Bool) (c o:LA) (ag ah ao ap:Int) (aq ar:Nat) (au av:LA):St:=⟨[(1,(.int .i64 d)),(2,(.own 100000 0 b)),(3,(.imm e f 1 l g)),(4,(.optr 300000 0)),(8,(.optr 300001 0)),(10,(.own 300002 0 m)),(12,(.optr 300003 0)),(14,(.int .i64 ag)),(17,(.int .i64 ah)),(18,(.int .i64 ao)),(19,(.int .i64 ap))],[(100000,(bQ 1 a)),(300000,(bP i 0 c)),(300001,⟨false,false,false,false,0,[.nsl,.nsl,.nsl],false⟩),(300002,(bQ 2 o)),(300003,⟨false,false,false,false,0,[(.own 100000 0 b),(.own 300004 0 aq),(.own 300005 0 ar)],false⟩),(300004,(bQ 3 au)),(300005,(bQ 3 av))]⟩
def rS (F:KF R) (Q0:St→O R):=N9 N F [1,1,1,1,1,0,1,0,0,1,0,0,1,0,1,0,1,1] [Q0]
def rT (d:Int) (b:Nat) (e:LA) (f:Nat) (l g:Bool) (m:Nat) (v w x:Int) (a:LA) (i:Bool) (c o:LA) (ab ai:Int) (an:Bool) (aj ak:Nat) (al am:LA):St:=⟨[(1,(.int .i64 d)),(2,(.own 100000 0 b)),(3,(.imm e f 1 l g)),(4,(.optr 300000 0)),(8,(.optr 300001 0)),(10,(.own 300002 0 m)),(12,(.optr 300003 0)),(13,(.int .i64 ab)),(14,(.int .i64 ai)),(17,(.int .i64 v)),(18,(.int .i64 w)),(19,(.int .i64 x)),(74,(.bool an))],[(100000,(bQ 1 a)),(300000,(bP i 0 c)),(300001,⟨false,false,false,false,0,[.nsl,.nsl,.nsl],false⟩),(300002,(bQ 2 o)),(300003,⟨false,false,false,false,0,[(.own 100000 0 b),(.own 300004 0 aj),(.own 300005 0 ak)],false⟩),(300004,(bQ 3 al)),(300005,(bQ 3 am))]⟩
def rU (F:KF R) (Q0:St→O R):=N9 N F [1,1,1,1,1,0,1,0,0,1,0,0,1,0,1,0,1,0,1] [Q0]
def Gl (d:Int) (b:Nat) (e:LA) (f:Nat) (l g:Bool) (m:Nat) (a:LA) (i:Bool) (c o:LA) (u p:Int) (q r:Nat) (s t:LA):St:=⟨[(1,(.int .i64 d)),(2,(.own 100000 0 b)),(3,(.imm e f 1 l g)),(4,(.optr 300000 0)),(8,(.optr 300001 0)),(10,(.own 300002 0 m)),(12,(.optr 300003 0)),(13,(.int .i64 u)),(14,(.int .i64 p))],[(100000,(bQ 1 a)),(300000,(bP i 0 c)),(300001,⟨false,false,false,false,0,[.nsl,.nsl,.nsl],false⟩),(300002,(bQ 2 o)),(300003,⟨false,false,false,false,0,[(.own 100000 0 b),(.own 300004 0 q),(.own 300005 0 r)],false⟩),(300004,(bQ 3 s)),(300005,(bQ 3 t))]⟩
def Vc (F:KF R):=N9 N F [1,1,1,1,1,0,1,0] []
theorem Zt (Q0:St→O R) (F:KF R) (d:Int) (b:Nat) (e:LA) (f:Nat) (l g:Bool) (m:Nat) (a:LA) (i:Bool) (c o:LA):∀ (ac aa ad:Int) (y z:Nat) (ae af:LA),Bb (rQ N F Q0) (rP d b e f l g m a i c o ac aa ad y z ae af)=(Gk N (fun u p q r s t=>Q0 (Gl d b e f l g m a i c o u p q r s t)) (B0 a F) (B4 a F) d b e f l g m a i c o ac aa ad y z ae af):=by
 intro ac aa ad y z ae af
 kernel_rfl
theorem fZ (Q0:St→O R) (F:KF R) (d:Int) (b:Nat) (e:LA) (f:Nat) (l g:Bool) (m:Nat) (a:LA) (i:Bool) (c o:LA):∀ (ag ah ao ap:Int) (aq ar:Nat) (au av:LA),Bb (rS N F Q0) (rR d b e f l g m a i c o ag ah ao ap aq ar au av)=(N8 N (fun u p q r s t=>Q0 (Gl d b e f l g m a i c o u p q r s t)) (B0 a F) (B4 a F) d b e f l g m a i c o ag ah ao ap aq ar au av):=by
 intro ag ah ao ap aq ar au av
 exact Eq.trans (by kernel_rfl) (Bs (Sw N (fun u p q r s t=>Q0 (Gl d b e f l g m a i c o u p q r s t)) (B0 a F) (B4 a F) d b e f l g m a i c o · ag ah ao ap aq ar au av) (funext fun ac=>funext fun aa=>funext fun ad=>funext fun y=>funext fun z=>funext fun ae=>funext fun af=>(As ..).trans (Zt N Q0 F d b e f l g m a i c o ac aa ad y z ae af)):_)
theorem f4 (Q0:St→O R) (F:KF R) (d:Int) (b:Nat) (e:LA) (f:Nat) (l g:Bool) (m:Nat) (v w x:Int) (a:LA) (i:Bool) (c o:LA):∀ (ab ai:Int) (an:Bool) (aj ak:Nat) (al am:LA),Bb (rU N F Q0) (rT d b e f l g m v w x a i c o ab ai an aj ak al am)=(Ji N (fun u p q r s t=>Q0 (Gl d b e f l g m a i c o u p q r s t)) (B0 a F) (B4 a F) d b e f l g m v w x a i c o ab ai an aj ak al am):=by
 intro ab ai an aj ak al am
 exact Eq.trans (by kernel_rfl) (Bs (Sz N (fun u p q r s t=>Q0 (Gl d b e f l g m a i c o u p q r s t)) (B0 a F) (B4 a F) d b e f l g m v w x a i c o · ab ai an aj ak al am) (funext fun ag=>funext fun ah=>funext fun ao=>funext fun ap=>funext fun aq=>funext fun ar=>funext fun au=>funext fun av=>(As ..).trans (fZ N Q0 F d b e f l g m a i c o ag ah ao ap aq ar au av)):_)
theorem Zu (F:KF R) (d:Int) (b:Nat) (e:LA) (f:Nat) (l g:Bool) (m:Nat) (a:LA) (i:Bool) (c o:LA):∀ (n:Nat) (u p:Int) (q r:Nat) (s t:LA),Ap (Vc N F) n (Gl d b e f l g m a i c o u p q r s t)=(Cb N (B0 a F) (B4 a F) d b e f l g m a i c o n u p q r s t)
 | 0,_,_,_,_,_,_=>by kernel_rfl
 | n+1,u,p,q,r,s,t=>have e0:=(funext fun u=>funext fun p=>funext fun q=>funext fun r=>funext fun s=>funext fun t=>(Zu F d b e f l g m a i c o n u p q r s t))
  Eq.trans (by kernel_rfl) (Bcd (Mp N (B0 a F) (B4 a F) d b e f l g m a i c o · · · u p q r s t) e0 (funext fun v=>funext fun w=>funext fun x=>funext fun ab=>funext fun ai=>funext fun an=>funext fun aj=>funext fun ak=>funext fun al=>funext fun am=>(As ..).trans ((f4 N (Ap (Vc N F) n) F d b e f l g m v w x a i c o ab ai an aj ak al am).trans (Bs (Ji N · (B0 a F) (B4 a F) d b e f l g m v w x a i c o ab ai an aj ak al am) e0))) (funext fun ac=>funext fun aa=>funext fun ad=>funext fun y=>funext fun z=>funext fun ae=>funext fun af=>(As ..).trans ((Zt N (Ap (Vc N F) n) F d b e f l g m a i c o ac aa ad y z ae af).trans (Bs (Gk N · (B0 a F) (B4 a F) d b e f l g m a i c o ac aa ad y z ae af) e0))):_)
theorem ME (c:LA) (i:Bool) (d:Int) (b:Nat) (e:LA) (f:Nat) (l g:Bool) (a:LA) (F:KF R):Cn (RV N) MD N 63 [(.pagg c i),(.int .i64 d),(.own 100000 0 b),(.imm e f 1 l g)] [(100000,(bQ 1 a))] F=(La N c i d b e f l g a (B0 a F) (B4 a F)):=by
 rw[HU]
 exact Eq.trans (by kernel_rfl) (Bs (Sa N (B0 a F) (B4 a F) · c i d b e f l g a) (funext fun m=>funext fun o=>funext fun u=>funext fun p=>funext fun q=>funext fun r=>funext fun s=>funext fun t=>(Ak ..).trans (Zu N F d b e f l g m a i c o N u p q r s t)):_)
def HV (args:List AV) (h:Am) (k:KF R):O R :=
 match args,h with
 | [(.pagg c i),(.int .i64 d),(.own 100000 0 b),(.imm e f 1 l g)],[(100000,⟨false,false,true,false,1,a,false⟩)]=>(La N c i d b e f l g a (B0 a k) (B4 a k))
 | _,_=>none
theorem MF:Aq N 63 @HV:=by
 intro R Q args h k j;unfold HV;split
 exact A2 (ME ..) (ME ..) ⟨aD N,cE N,Awy N,trivial⟩
 exact A5
def MG:=A4 (MF N)
theorem rV:A1 Tryz.prog 63 (MG N):=A6 (MF N) follows
def ti (r0:LA→Bool→O R) (a:LA) (b:Bool) (c:Int) (d:LA) (e:Nat) (g f:Bool):O R :=
 (cond (Nat.ble 22 (a.length)) (W0 N (a.take 22) b c d e false f (fun m n=>(cond (Nat.ble 22 (a.length)) (La N (a.take 22) b c m d e false f n (fun i=>(cond ((Nat.beq 0 0)&&((Nat.beq (i.length) 3)&&(Nat.beq 3 3))) (cond (Nat.ble 3 (i.length)) (r0 (i.take 3) false) none) none)) (fun l=>(cond ((Nat.beq 0 0)&&((Nat.beq (l.length) 3)&&(Nat.beq 3 3))) (cond (Nat.ble 3 (l.length)) (r0 (l.take 3) true) none) none))) none))) none)
def RW:=(Ah (fun (N:Nat) (a:LA) (b:Bool) (c:Int) (d:LA) (e:Nat) (g f:Bool) (r0:LA→Bool→O R)=>(ti N r0 a b c d e g f))).1
theorem rW (a b c d e g f r0):(@RW R N a b c d e g f r0)=(ti N r0 a b c d e g f):=by rw[RW,(Ah _).2]
def Aw2:Hints:={ H:=hL,modes:=[(3,0),(0,0)] }
def A09:Ek:=[(62,lJ N),(63,MG N)]
def yE (F:KF R):LA→Bool→O R:=(fun o p=>F (.tup [(.pagg o false),(.bool p)]) [])
theorem yF (a:LA) (b:Bool) (c:Int) (d:LA) (e:Nat) (g f:Bool) (F:KF R):Cn (A09 N) Aw2 N 28 [(.pagg a b),(.int .i64 c),(.imm d e 1 g f)] [] F=(RW N a b c d e g f (yE F)):=by
 rw[rW]
 kernel_rfl
def rX (args:List AV) (h:Am) (k:KF R):O R :=
 match args,h with
 | [(.pagg a b),(.int .i64 c),(.imm d e 1 g f)],[]=>(RW N a b c d e g f (yE k))
 | _,_=>none
theorem yG:Aq N 28 @rX:=by
 intro R Q args h k j;unfold rX;split
 exact A2 (yF ..) (yF ..) ⟨Ak4 N,rV N,trivial⟩
 exact A5
def yH:=A4 (yG N)
theorem Aw3:A1 Tryz.prog 28 (yH N):=A6 (yG N) follows
def Ej (N:Nat) (r0:Bool→O R) (an ao:Nat) (aj ak:LA) (k4:Int→O R) (ap:Int):O R :=
 (cond (decide (ap<((an:Nat):Int))) (cond (Ad ap an) (cond (Nat.ble 2 ((aj.drop (0+((ap.toNat)*2))).length)) (cond (Ad ap ao) (cond (Nat.ble 2 ((ak.drop (0+((ap.toNat)*2))).length)) (cond ((Nat.ble 1 2)&&((Nat.beq (((aj.drop (0+((ap.toNat)*2))).take 2).length) 2)&&((Nat.beq (((ak.drop (0+((ap.toNat)*2))).take 2).length) 2)&&(true&&(!false))))) (Ao .i64 ((aj.drop (0+((ap.toNat)*2))).take 2) fun bm=>(Ao .i64 ((ak.drop (0+((ap.toNat)*2))).take 2) fun bn=>(Ao .i64 (((aj.drop (0+((ap.toNat)*2))).take 2).drop 1) fun bo=>(Ao .i64 (((ak.drop (0+((ap.toNat)*2))).take 2).drop 1) fun bp=>(cond (!((bm==bn)&&((bo==bp)&&true))) (r0 false) (k4 (wrap .i64 (ap+1)))))))) none) none) none) none) none) (r0 true))
def Cm (r0:Bool→O R) (an ao:Nat) (aj ak:LA):Nat→Int→O R
 | 0,_=>none
 | n+1,ap=>(Ej N r0 an ao aj ak (Cm r0 an ao aj ak n) ap)
def Oa (N:Nat) (r0:Bool→O R) (q4:Int→O R) (an ao:Nat) (aj ak:LA):O R :=
 (q4 0)
def Dg (r0:Bool→O R) (an ao:Nat) (aj ak:LA):O R:=(Oa N r0 (fun ap=>(Cm N r0 an ao aj ak N ap)) an ao aj ak)
def G8 (r0:Bool→O R) (bc:Int) (bb:LA) (q3:Nat→Nat→LA→LA→O R) (bd:LA) (be:Nat) (bg bf:Bool):O R :=
 (cond (Nat.ble 22 (bb.length)) (Hc N (bb.take 22) false bc bd be false bf (fun bi bq br=>(cond (Nat.ble 22 (bb.length)) (G7 N (bb.take 22) false bc bd be false bf (fun bj bs bt=>(Jb N (fun bu=>(cond ((!bu)==false) (cond ((cond false true (bq != bs))==false) (cond (cond false true (((bi:Nat):Int) != ((bj:Nat):Int))) (r0 false) (q3 bi bj br bt)) (r0 false)) (r0 false)))))) none))) none)
def E4 (r0:Bool→O R) (bc:Int) (bb bd:LA) (be:Nat) (bg bf:Bool):O R:=(G8 N r0 bc bb (fun an ao aj ak=>(Dg N r0 an ao aj ak)) bd be bg bf)
def G9 (r0:Bool→O R) (ah:Int) (d:LA) (c:Nat) (ai e:Bool) (f:List UInt8) (g i l:Int) (m:LA) (o:Nat) (al a:Bool) (p q r s t u v w x y z aa ab:Int) (ac:LA) (ad:Nat) (am b:Bool) (ae af ag:Int) (q3:Nat→Nat→LA→LA→O R):O R :=
 (Hc N [(.str f),(.int .i64 g),(.int .i64 i),(.int .i64 l),(.imm m o 2 false a),(.int .i64 p),(.int .i64 q),(.int .i64 r),(.int .i64 s),(.int .i64 t),(.int .i64 u),(.int .i64 v),(.int .i64 w),(.int .i64 x),(.int .i64 y),(.int .i64 z),(.int .i64 aa),(.int .i64 ab),(.imm ac ad 1 false b),(.int .i64 ae),(.int .i64 af),(.int .i64 ag)] (a||(b||false)) ah d c false e (fun bk bv bw=>(G7 N [(.str f),(.int .i64 g),(.int .i64 i),(.int .i64 l),(.imm m o 2 false a),(.int .i64 p),(.int .i64 q),(.int .i64 r),(.int .i64 s),(.int .i64 t),(.int .i64 u),(.int .i64 v),(.int .i64 w),(.int .i64 x),(.int .i64 y),(.int .i64 z),(.int .i64 aa),(.int .i64 ab),(.imm ac ad 1 false b),(.int .i64 ae),(.int .i64 af),(.int .i64 ag)] (a||(b||false)) ah d c false e (fun bl bx bz=>(Jb N (fun ca=>(cond ((!ca)==false) (cond ((cond false true (bv != bx))==false) (cond (cond false true (((bk:Nat):Int) != ((bl:Nat):Int))) (r0 false) (q3 bk bl bw bz)) (r0 false)) (r0 false))))))))
def H8 (r0:Bool→O R) (ah:Int) (d:LA) (c:Nat) (ai e:Bool) (f:List UInt8) (g i l:Int) (m:LA) (o:Nat) (al a:Bool) (p q r s t u v w x y z aa ab:Int) (ac:LA) (ad:Nat) (am b:Bool) (ae af ag:Int):O R:=(G9 N r0 ah d c ai e f g i l m o al a p q r s t u v w x y z aa ab ac ad am b ae af ag (fun an ao aj ak=>(Dg N r0 an ao aj ak)))
def Ha (r0:Bool→O R) (ah:Int) (d:LA) (c:Nat) (ai e:Bool) (aq:LA) (ar:Nat) (az au:Bool) (av:LA) (aw:Nat) (ba ax ay:Bool) (f:List UInt8) (g i l:Int) (m:LA) (o:Nat) (al a:Bool) (p q r s t u v w x y z aa ab:Int) (ac:LA) (ad:Nat) (am b:Bool) (ae af ag:Int) (q1:Int→LA→LA→Nat→Bool→Bool→O R) (q2:O R):O R :=
 (cond ay (gi N aq ar false au (fun bb bc=>(cond ((Nat.beq 0 0)&&((Nat.beq (bb.length) 22)&&(Nat.beq 22 22))) (cond (Nat.ble 22 (bb.length)) (RW N (bb.take 22) false bc av aw false ax (fun bh ch=>(cond ((Nat.beq 0 0)&&((Nat.beq (bh.length) 3)&&(Nat.beq 3 3))) (Ct 1 bh fun ci cb=>(cond (decide (((cb:Nat):Int)>0)) (Ct 1 bh fun cc cd=>(q1 bc bb cc cd false false)) (q1 bc bb d c ai e))) none))) none) none))) q2)
def E5 (r0:Bool→O R) (ah:Int) (d:LA) (c:Nat) (ai e:Bool) (aq:LA) (ar:Nat) (az au:Bool) (av:LA) (aw:Nat) (ba ax ay:Bool) (f:List UInt8) (g i l:Int) (m:LA) (o:Nat) (al a:Bool) (p q r s t u v w x y z aa ab:Int) (ac:LA) (ad:Nat) (am b:Bool) (ae af ag:Int):O R:=(Ha N r0 ah d c ai e aq ar az au av aw ba ax ay f g i l m o al a p q r s t u v w x y z aa ab ac ad am b ae af ag (fun bc bb bd be bg bf=>(E4 N r0 bc bb bd be bg bf)) (H8 N r0 ah d c ai e f g i l m o al a p q r s t u v w x y z aa ab ac ad am b ae af ag))
def F3 (r0:Bool→O R) (q0:O R) (f:List UInt8) (g i l:Int) (m:LA) (o:Nat) (al a:Bool) (p q r s t u v w x y z aa ab:Int) (ac:LA) (ad:Nat) (am b:Bool) (ae af ag ah:Int) (d:LA) (c:Nat) (ai e:Bool) (aq:LA) (ar:Nat) (az au:Bool) (av:LA) (aw:Nat) (ba ax ay:Bool):O R :=
 (Tf N [(.str f),(.int .i64 g),(.int .i64 i),(.int .i64 l),(.imm m o 2 false a),(.int .i64 p),(.int .i64 q),(.int .i64 r),(.int .i64 s),(.int .i64 t),(.int .i64 u),(.int .i64 v),(.int .i64 w),(.int .i64 x),(.int .i64 y),(.int .i64 z),(.int .i64 aa),(.int .i64 ab),(.imm ac ad 1 false b),(.int .i64 ae),(.int .i64 af),(.int .i64 ag)] (a||(b||false)) (fun ce=>(cond ((!ce)==false) (cond ((cond false true (decide (((c:Nat):Int)>30)))==false) (RN N aq ar false au av aw false ax (fun cf=>(cond (cond false true (!cf)) (r0 true) q0))) (r0 true)) (r0 true))))
def Eh:=(Ah (fun (N:Nat) (f:List UInt8) (g i l:Int) (m:LA) (o:Nat) (al a:Bool) (p q r s t u v w x y z aa ab:Int) (ac:LA) (ad:Nat) (am b:Bool) (ae af ag ah:Int) (d:LA) (c:Nat) (ai e:Bool) (aq:LA) (ar:Nat) (az au:Bool) (av:LA) (aw:Nat) (ba ax ay:Bool) (r0:Bool→O R)=>(F3 N r0 (E5 N r0 ah d c ai e aq ar az au av aw ba ax ay f g i l m o al a p q r s t u v w x y z aa ab ac ad am b ae af ag) f g i l m o al a p q r s t u v w x y z aa ab ac ad am b ae af ag ah d c ai e aq ar az au av aw ba ax ay))).1
theorem Ob (f g i l m o al a p q r s t u v w x y z aa ab ac ad am b ae af ag ah d c ai e aq ar az au av aw ba ax ay r0):(@Eh R N f g i l m o al a p q r s t u v w x y z aa ab ac ad am b ae af ag ah d c ai e aq ar az au av aw ba ax ay r0)=(F3 N r0 (E5 N r0 ah d c ai e aq ar az au av aw ba ax ay f g i l m o al a p q r s t u v w x y z aa ab ac ad am b ae af ag) f g i l m o al a p q r s t u v w x y z aa ab ac ad am b ae af ag ah d c ai e aq ar az au av aw ba ax ay):=by rw[Eh,(Ah _).2]
def Pj:Hints:={ H:=(hS hL (hJ [1,2,3,4,5,6] hL (hJ [1,2,6] hL (hS hL (hS hL (hJ [15,17] hL (hS (hS hL (hS (hP [15,17,19] hL) hL)) hL))))))) }
def Qo:Ek:=[(11,cV N),(26,xt N),(27,Ahl N),(28,yH N),(29,GS N),(30,AJ N),(15,eL N)]
def Dh (F:KF R):=Kk Tryz.f5 Pj (Qo N) [] N F
def A3 (F:KF R):Bool→O R:=(fun cg=>F (.bool cg) [])
def HW (an ao:Nat) (aj ak:LA) (ap:Int):St:=⟨[(15,(.own 300000 0 an)),(17,(.own 300001 0 ao)),(19,(.int .i64 ap))],[(300000,(bQ 2 aj)),(300001,(bQ 2 ak))]⟩
def HX (F:KF R):=Dh N F [1,1,1,1,1,1,0,1,0] []
def HY (an ao:Nat) (aj ak:LA):St:=⟨[(15,(.own 300000 0 an)),(17,(.own 300001 0 ao))],[(300000,(bQ 2 aj)),(300001,(bQ 2 ak))]⟩
def HZ (F:KF R):=Dh N F [1,1,1,1,1,1] []
def H_ (bc:Int) (bb bd:LA) (be:Nat) (bg bf:Bool):St:=⟨[(1,(.int .i64 bc)),(2,(.imm bd be 1 bg bf)),(6,(.optr 300000 0))],[(300000,(bQ 0 bb))]⟩
def H' (F:KF R):=Dh N F [1,1,1] []
def IA (ah:Int) (d:LA) (c:Nat) (ai e:Bool) (f:List UInt8) (g i l:Int) (m:LA) (o:Nat) (al a:Bool) (p q r s t u v w x y z aa ab:Int) (ac:LA) (ad:Nat) (am b:Bool) (ae af ag:Int):St:=⟨[(1,(.int .i64 ah)),(2,(.imm d c 1 ai e)),(6,(.optr 300000 0))],[(300000,⟨false,false,false,false,0,[(.str f),(.int .i64 g),(.int .i64 i),(.int .i64 l),(.imm m o 2 al a),(.int .i64 p),(.int .i64 q),(.int .i64 r),(.int .i64 s),(.int .i64 t),(.int .i64 u),(.int .i64 v),(.int .i64 w),(.int .i64 x),(.int .i64 y),(.int .i64 z),(.int .i64 aa),(.int .i64 ab),(.imm ac ad 1 am b),(.int .i64 ae),(.int .i64 af),(.int .i64 ag)],false⟩)]⟩
def IB (F:KF R):=Dh N F [1,1,1] []
def IC (ah:Int) (d:LA) (c:Nat) (ai e:Bool) (aq:LA) (ar:Nat) (az au:Bool) (av:LA) (aw:Nat) (ba ax ay:Bool) (f:List UInt8) (g i l:Int) (m:LA) (o:Nat) (al a:Bool) (p q r s t u v w x y z aa ab:Int) (ac:LA) (ad:Nat) (am b:Bool) (ae af ag:Int):St:=⟨[(1,(.int .i64 ah)),(2,(.imm d c 1 ai e)),(3,(.imm aq ar 1 az au)),(4,(.imm av aw 1 ba ax)),(5,(.bool ay)),(6,(.optr 300000 0))],[(300000,⟨false,false,false,false,0,[(.str f),(.int .i64 g),(.int .i64 i),(.int .i64 l),(.imm m o 2 al a),(.int .i64 p),(.int .i64 q),(.int .i64 r),(.int .i64 s),(.int .i64 t),(.int .i64 u),(.int .i64 v),(.int .i64 w),(.int .i64 x),(.int .i64 y),(.int .i64 z),(.int .i64 aa),(.int .i64 ab),(.imm ac ad 1 am b),(.int .i64 ae),(.int .i64 af),(.int .i64 ag)],false⟩)]⟩
def ID (F:KF R):=Dh N F [1,1] []
theorem Li (F:KF R) (an ao:Nat) (aj ak:LA):∀ (n:Nat) (ap:Int),Ap (HX N F) n (HW an ao aj ak ap)=(Cm N (A3 F) an ao aj ak n ap)
 | 0,_=>by kernel_rfl
 | n+1,ap=>Eq.trans (by kernel_rfl) (Bs (Ej N (A3 F) an ao aj ak · ap) (funext fun ap=>(Li F an ao aj ak n ap)):_)
theorem Lj (F:KF R):∀ (an ao:Nat) (aj ak:LA),Bb (HZ N F) (HY an ao aj ak)=(Dg N (A3 F) an ao aj ak):=by
 intro an ao aj ak
 exact Eq.trans (by kernel_rfl) (Bs (Oa N (A3 F) · an ao aj ak) (funext fun ap=>(Ak ..).trans (Li N F an ao aj ak N ap)):_)
theorem Zv (F:KF R) (bc:Int) (bb:LA):∀ (bd:LA) (be:Nat) (bg bf:Bool),Bb (H' N F) (H_ bc bb bd be bg bf)=(E4 N (A3 F) bc bb bd be bg bf):=by
 intro bd be bg bf
 exact Eq.trans (by kernel_rfl) (Bs (G8 N (A3 F) bc bb · bd be bg bf) (funext fun an=>funext fun ao=>funext fun aj=>funext fun ak=>(As ..).trans (Lj N F an ao aj ak)):_)
theorem Zw (F:KF R) (ah:Int) (d:LA) (c:Nat) (ai e:Bool) (f:List UInt8) (g i l:Int) (m:LA) (o:Nat) (al a:Bool) (p q r s t u v w x y z aa ab:Int) (ac:LA) (ad:Nat) (am b:Bool) (ae af ag:Int):Bb (IB N F) (IA ah d c ai e f g i l m o al a p q r s t u v w x y z aa ab ac ad am b ae af ag)=(H8 N (A3 F) ah d c ai e f g i l m o al a p q r s t u v w x y z aa ab ac ad am b ae af ag):=by
 exact Eq.trans (by kernel_rfl) (Bs (G9 N (A3 F) ah d c ai e f g i l m o al a p q r s t u v w x y z aa ab ac ad am b ae af ag ·) (funext fun an=>funext fun ao=>funext fun aj=>funext fun ak=>(As ..).trans (Lj N F an ao aj ak)):_)
theorem Zx (F:KF R) (ah:Int) (d:LA) (c:Nat) (ai e:Bool) (aq:LA) (ar:Nat) (az au:Bool) (av:LA) (aw:Nat) (ba ax ay:Bool) (f:List UInt8) (g i l:Int) (m:LA) (o:Nat) (al a:Bool) (p q r s t u v w x y z aa ab:Int) (ac:LA) (ad:Nat) (am b:Bool) (ae af ag:Int):Bb (ID N F) (IC ah d c ai e aq ar az au av aw ba ax ay f g i l m o al a p q r s t u v w x y z aa ab ac ad am b ae af ag)=(E5 N (A3 F) ah d c ai e aq ar az au av aw ba ax ay f g i l m o al a p q r s t u v w x y z aa ab ac ad am b ae af ag):=by
 exact Eq.trans (by kernel_rfl) (bJ (Ha N (A3 F) ah d c ai e aq ar az au av aw ba ax ay f g i l m o al a p q r s t u v w x y z aa ab ac ad am b ae af ag · ·) (funext fun bc=>funext fun bb=>funext fun bd=>funext fun be=>funext fun bg=>funext fun bf=>(As ..).trans (Zv N F bc bb bd be bg bf)) ((As ..).trans (Zw N F ah d c ai e f g i l m o al a p q r s t u v w x y z aa ab ac ad am b ae af ag)):_)
theorem Pk (f:List UInt8) (g i l:Int) (m:LA) (o:Nat) (al a:Bool) (p q r s t u v w x y z aa ab:Int) (ac:LA) (ad:Nat) (am b:Bool) (ae af ag ah:Int) (d:LA) (c:Nat) (ai e:Bool) (aq:LA) (ar:Nat) (az au:Bool) (av:LA) (aw:Nat) (ba ax ay:Bool) (F:KF R):Cn (Qo N) Pj N 5 [(.agg [(.str f),(.int .i64 g),(.int .i64 i),(.int .i64 l),(.imm m o 2 al a),(.int .i64 p),(.int .i64 q),(.int .i64 r),(.int .i64 s),(.int .i64 t),(.int .i64 u),(.int .i64 v),(.int .i64 w),(.int .i64 x),(.int .i64 y),(.int .i64 z),(.int .i64 aa),(.int .i64 ab),(.imm ac ad 1 am b),(.int .i64 ae),(.int .i64 af),(.int .i64 ag)]),(.int .i64 ah),(.imm d c 1 ai e),(.imm aq ar 1 az au),(.imm av aw 1 ba ax),(.bool ay)] [] F=(Eh N f g i l m o al a p q r s t u v w x y z aa ab ac ad am b ae af ag ah d c ai e aq ar az au av aw ba ax ay (A3 F)):=by
 rw[Ob]
 exact Eq.trans (by kernel_rfl) (Bs (F3 N (A3 F) · f g i l m o al a p q r s t u v w x y z aa ab ac ad am b ae af ag ah d c ai e aq ar az au av aw ba ax ay) ((As ..).trans (Zx N F ah d c ai e aq ar az au av aw ba ax ay f g i l m o al a p q r s t u v w x y z aa ab ac ad am b ae af ag)):_)
def Oc (args:List AV) (h:Am) (k:KF R):O R :=
 match args,h with
 | [(.agg [(.str f),(.int .i64 g),(.int .i64 i),(.int .i64 l),(.imm m o 2 al a),(.int .i64 p),(.int .i64 q),(.int .i64 r),(.int .i64 s),(.int .i64 t),(.int .i64 u),(.int .i64 v),(.int .i64 w),(.int .i64 x),(.int .i64 y),(.int .i64 z),(.int .i64 aa),(.int .i64 ab),(.imm ac ad 1 am b),(.int .i64 ae),(.int .i64 af),(.int .i64 ag)]),(.int .i64 ah),(.imm d c 1 ai e),(.imm aq ar 1 az au),(.imm av aw 1 ba ax),(.bool ay)],[]=>(Eh N f g i l m o al a p q r s t u v w x y z aa ab ac ad am b ae af ag ah d c ai e aq ar az au av aw ba ax ay (A3 k))
 | _,_=>none
theorem Pl:Aq N 5 @Oc:=by
 intro R Q args h k j;unfold Oc;split
 exact A2 (Pk ..) (Pk ..) ⟨Ac1 N,Awh N,A02 N,Aw3 N,eH N,aD N,Afw N,trivial⟩
 exact A5
def Pm:=A4 (Pl N)
theorem IE:A1 Tryz.prog 5 (Pm N):=A6 (Pl N) follows
end
end Gx

namespace Gx
open Go Go.Proofs
section
variable {R:Type}
def rq (v:Int):RatD:=A0a (v:Rat)
def tj (l:List Int):LA:=(l.map rq).flatMap RatD.av
theorem A9s (l:List Int):(tj l).length=l.length*3:=by
 induction l with
 | nil=>rfl
 | cons a r k=>unfold tj at k ⊢;rw[List.map_cons,List.flatMap_cons,List.length_append,k];simp[RatD.av];omega
theorem Asg (l:List Int):List.take (l.length*3) (tj l)=tj l:=by rw[←A9s,List.take_length]
theorem Aw4 (l:List Int) (v:Int):List.take (l.length*3) (tj l)++List.take 3 (setCells [(.bool false),.nsl,.nsl] 0 (rq v).av)=tj (l++[v]):=by
 rw[Asg];unfold tj;rw[List.map_append,List.flatMap_append];rfl
theorem Bdj {j:Nat} (h:j≤1000000000000):((Nat.ble (j+1) 140737488355328)&&(Nat.ble ((j+1)*56) 140737488355328))=true:=by
 rw[Bool.and_eq_true,Nat.ble_eq,Nat.ble_eq];omega
def Axj (u:UnitD) (A:List Int):Nat→Int
 | 0=>u.output
 | i+1=>A.getD i 0
structure Gd (u:UnitD) (ks:List Int) (n h:Nat) (v p r:Int):Prop where
 on:Cq ks h=true→((Ty u ks n h).lo≤p∧p≤(Ty u ks n h).hi)∧(0≤r∧r≤u.reserve∧p+r≤u.max)
 was:Cq ks h=true→N7 u ks h=true→p+r - v≤u.rampUp∧v - p≤u.rampDown
 st:Cq ks h=true→N7 u ks h=false→p+r≤u.startRamp
 off:Cq ks h=false→p=0∧r=0
theorem Gd.rng {u:UnitD} {ks:List Int} {n h:Nat} {v p r:Int} (ok:UOk u) (A:uR u) (B:h<n) (g:Gd u ks n h v p r):(0≤p∧p≤1048576)∧(0≤r∧r≤1048576):=by
 unfold uR at A
 cases k:Cq ks h with
 | true =>
  have:=g.on k
  have:=Awn (ks:=ks) (n:=n) ok (n - 1 - h) h (by omega)
  have:=Awm (ks:=ks) (n:=n) ok h
  have:=Ahx (ks:=ks) ok h
  omega
 | false=>have:=g.off k;omega
def GdA (u:UnitD) (ks:List Int) (n m:Nat) (A B:List Int):Prop:=A.length=m∧B.length=m∧∀ i,i<m→Gd u ks n i (Axj u A i) (A.getD i 0) (B.getD i 0)
theorem GdA.snoc {u:UnitD} {ks:List Int} {n m:Nat} {A B:List Int} (g:GdA u ks n m A B) {p r:Int} (h:Gd u ks n m (Axj u A m) p r):GdA u ks n (m+1) (A++[p]) (B++[r]):=by
 obtain⟨k,C,D⟩:=g
 have gl:∀ {L:List Int} {x:Int} {i:Nat},i<L.length→(L++[x]).getD i 0=L.getD i 0:=fun {L x i} hi=>by
  rw[List.getD_eq_getElem?_getD,List.getD_eq_getElem?_getD,List.getElem?_append_left hi]
 have gs:∀ {L:List Int} {x:Int},(L++[x]).getD L.length 0=x:=fun {L x}=>by
  rw[List.getD_eq_getElem?_getD,List.getElem?_append_right (Nat.le_refl _)];simp
 have pv:∀ i,i≤m→Axj u (A++[p]) i=Axj u A i:=fun i hi=>by
  cases i with
  | zero=>rfl
  | succ i=>exact gl (by omega)
 refine⟨by simp[k],by simp[C],fun i hi=>?_⟩
 rw[pv i (by omega)]
 by_cases e:i=m
 ·subst e
  have e1:(A++[p]).getD i 0=p:=by rw[←k];exact gs
  have F:(B++[r]).getD i 0=r:=by rw[←C];exact gs
  rw[e1,F];exact h
 ·rw[gl (by omega),gl (by omega)];exact D i (by omega)
theorem Bb0 {u:UnitD} {ks:List Int} {n h:Nat} {A B:List Int} (ok:UOk u) (G:K8 u ks n=false) (I:h<n) (C:Cq ks h=true) (g:GdA u ks n h A B):(Ty u ks n h).lo≤(Ty u ks n h).hi∧(N7 u ks h=true→(Ty u ks n h).lo≤Axj u A h+u.rampUp∧Axj u A h - u.rampDown≤(Ty u ks n h).hi)∧(N7 u ks h=false→(Ty u ks n h).hi≤u.startRamp)∧u.min≤(Ty u ks n h).lo∧(Ty u ks n h).hi≤u.max:=by
 have e:(Ty u ks n h).lo≤(Ty u ks n h).hi:=by
  rw[Ahy ok,List.any_eq_false] at G
  have:=G h (by simpa using I)
  simp at this;omega
 have r1:=Awn (ks:=ks) (n:=n) ok (n - 1 - h) h (by omega)
 have D:=Awm (ks:=ks) (n:=n) ok h
 have L:=Ahx (ks:=ks) ok h
 have M:=L.2.2.2.2 C
 refine⟨e,fun F=>?_,fun F=>?_,by omega,by omega⟩
 ·cases h with
  | zero =>
   have f:Z2 u ks 0=⟨Ig u.min (u.output - u.rampDown),Bv u.max (u.output+u.rampUp)⟩:=by
    rw[Z2,C,show(u.state==2)=true from F];rfl
   rw[f] at D
   simp only[Kg,R6] at D
   have O:=ok.b
   show _≤u.output+_∧u.output - _≤_
   omega
  | succ h =>
   have k:Cq ks h=true:=F
   have gd:=(g.2.2 h (by omega)).on k
   have st:=HP u ks (n:=n) (h:=h) I
   rw[k,C] at st
   simp only[Bool.and_true,cond_true] at st
   rw[st] at gd
   simp only[Kg,R6] at gd
   show _≤A.getD h 0+_∧A.getD h 0 - _≤_
   omega
 ·have f:Z2 u ks h=⟨u.min,u.startRamp⟩:=by rw[Bau C,F];rfl
  rw[f] at D
  simp only at D
  omega
section
variable {N n:Nat} {X:Option R} {u:UnitD} {ks raw:List Int} {K0 K1:LA→Option R} {l g i:Bool}
theorem A2q {k0:Int→Int→Nat→Nat→LA→LA→Option R} {A B:List Int} {p:Nat} {a b:Int} {o:LA} (hN:4000≤N) (F:p≤1000) (C:A.length=p) (D:B.length=p) (G:0≤a∧a≤1048576) (I:0≤b∧b≤1048576) :
  Gk N k0 K0 K1 (n:Int) n (Av raw) raw.length l g n (Av ks) i u.av o (p:Int) a b p p (tj A) (tj B)=k0 a ((p+1:Nat):Int) (p+1) (p+1) (tj (A++[a])) (tj (B++[b])):=by
 unfold Gk
 rw[Agf (by omega) hN,show((Nat.beq (List.length (A0a (a:Rat)).av) 3)&&(Nat.ble 3 3))=true from rfl,ct,Bdj (by omega),ct,Agf (by omega) hN,show((Nat.beq (List.length (A0a (b:Rat)).av) 3)&&(Nat.ble 3 3))=true from rfl,ct,ct,wS (by omega)]
 have e1:=Aw4 A a
 have k:=Aw4 B b
 rw[C] at e1;rw[D] at k
 unfold rq at e1 k
 rw[e1,k]
theorem A9t {k0:Int→Int→Nat→Nat→LA→LA→Option R} {A B:List Int} {p:Nat} (hN:4000≤N) (I:p<n) (hn:n≤1000) (ok:UOk u) (D:uR u) (U:K8 u ks n=false) (F:Cq ks p=true) (gg:GdA u ks n p A B)
  (H:∀ a b,Gd u ks n p (Axj u A p) a b→k0 a ((p+1:Nat):Int) (p+1) (p+1) (tj (A++[a])) (tj (B++[b]))=X) :
  Ji N k0 K0 K1 (n:Int) n (Av raw) raw.length l g n (Ty u ks n p).lo (Ty u ks n p).hi u.max (Av ks) i u.av (tb n (Ty u ks n)) (Axj u A p) (p:Int) (N7 u ks p) p p (tj A) (tj B)=X:=by
 have G:=D
 unfold uR at G
 obtain⟨w1,V,w3,w4,w5⟩:=Bb0 ok U I F gg
 have r1:=Awn (ks:=ks) (n:=n) ok (n - 1 - p) p (by omega)
 have Y:0≤Axj u A p∧Axj u A p≤1048576:=by
  cases p with
  | zero=>show 0≤u.output∧u.output≤_;omega
  | succ q=>exact((gg.2.2 q (by omega)).rng ok D (by omega)).1
 unfold Ji Sz
 have L:∀ lo hi top:Int,0≤lo→lo≤hi→hi≤1048576→hi≤top→top≤2097152→(∀ a b,lo≤a→a≤hi→0≤b→b≤u.reserve→a+b≤top→Gd u ks n p (Axj u A p) a b) →
   N8 N k0 K0 K1 (n:Int) n (Av raw) raw.length l g n (Av ks) i u.av (tb n (Ty u ks n)) (p:Int) lo hi top p p (tj A) (tj B)=X:=by
  intro lo hi top h0 M O S T hg
  unfold N8 Sw
  rw[i64 (a:=2*(p:Int)) (by omega),i64 (a:=hi - lo) (by omega),i64 (a:=2*(p:Int)+1) (by omega)]
  obtain⟨v,v1,v2,ev⟩:=Aoe (R:=R) (N:=N) (raw:=raw) (g:=false) (i:=g) (n:=raw.length) (a:=2*(p:Int)) (c:=hi - lo) rfl (by omega) (by omega) (K:=fun _=>none)
  rw[ev]
  rw[Bc7,i64 (a:=lo+v) (by omega),i64 (a:=top - (lo+v)) (by omega)]
  obtain⟨w,x1,x2,ew⟩:=Aoe (R:=R) (N:=N) (raw:=raw) (g:=false) (i:=g) (n:=raw.length) (a:=2*(p:Int)+1) (c:=Bv u.reserve (top - (lo+v))) rfl (by omega) (by rw[Kg];omega) (K:=fun _=>none)
  rw[ew]
  rw[Kg] at x2
  have gd:=hg (lo+v) w (by omega) (by omega) x1 (by omega) (by omega)
  have gr:=gd.rng ok D I
  dsimp only
  rw[A2q hN (by omega) gg.1 gg.2.1 gr.1 gr.2]
  exact H _ _ gd
 cases C:N7 u ks p with
 | true =>
  obtain⟨y1,y2⟩:=V C
  rw[ct,u7,u6,u6,i64 (a:=Axj u A p - u.rampDown) (by omega),i64 (a:=Axj u A p+u.rampUp) (by omega)]
  simp only[Kg,R6]
  refine L _ _ _ (by omega) (by omega) (by omega) (by omega) (by omega) fun a b M O S T h5=>⟨fun _=>by omega,fun _ _=>by omega,fun _ k=>?_,fun k=>?_⟩
  ·rw[C] at k;cases k
  ·rw[F] at k;cases k
 | false =>
  have y:=w3 C
  have oc:=ok.c
  rw[cf,u8]
  simp only[Kg]
  refine L _ _ _ (by omega) (by omega) (by omega) (by omega) (by omega) fun a b M O S T h5=>⟨fun _=>by omega,fun _ k=>?_,fun _ _=>by omega,fun k=>?_⟩
  ·rw[C] at k;cases k
  ·rw[F] at k;cases k
theorem Aof (hN:4000≤N) (hn:n≤1000) (G:ks.length=n) (ok:UOk u) (I:uR u) (L:K8 u ks n=false) (H:∀ A B,GdA u ks n n A B→K1 [(.imm (Av ks) n 1 false false),(.imm (tj A) n 3 false false),(.imm (tj B) n 3 false false)]=X) :
  ∀ (m p fuel:Nat) (A B:List Int),p+m=n→m<fuel→GdA u ks n p A B→Cb N K0 K1 (n:Int) n (Av raw) raw.length l g n (Av ks) i u.av (tb n (Ty u ks n)) fuel (Axj u A p) (p:Int) p p (tj A) (tj B)=X
 | 0,p,fuel+1,A,B,S,_,gg=>by
  rw[Cb];unfold Mp
  obtain rfl:p=n:=by omega
  have e1:=Asg A
  have M:=Asg B
  rw[gg.1] at e1
  rw[gg.2.1] at M
  rw[Lb (Nat.le_refl _),cf,e1,M,Nat.mul_one]
  have e3:=Ef ks
  rw[G] at e3
  rw[show List.take p (Av ks)=Av ks by rw[←e3,List.take_length]]
  exact H A B gg
 | m+1,p,fuel+1,A,B,S,T,gg=>by
  rw[Cb];unfold Mp
  have h:p<n:=by omega
  have D:p<ks.length:=by omega
  have O:∀ a b,Gd u ks n p (Axj u A p) a b→Cb N K0 K1 (n:Int) n (Av raw) raw.length l g n (Av ks) i u.av (tb n (Ty u ks n)) fuel a ((p+1:Nat):Int) (p+1) (p+1) (tj (A++[a])) (tj (B++[b]))=X:=fun a b gd=>by
   have:=Aof hN hn G ok I L H m (p+1) fuel (A++[a]) (B++[b]) (by omega) (by omega) (gg.snoc gd)
   rwa [show Axj u (A++[a]) (p+1)=a by show(A++[a]).getD p 0=a;rw[List.getD_eq_getElem?_getD,←gg.1,List.getElem?_append_right (Nat.le_refl _)];simp] at this
  rw[Jp h,ct,Aa h,ct,Nat.zero_add,C3 D,←G6 D]
  cases F:Cq ks p with
  | false =>
   rw[cf]
   dsimp only
   rw[A2q hN (by omega) gg.1 gg.2.1 (by omega) (by omega)]
   exact O 0 0 ⟨fun C=>(by rw[F] at C;cases C),fun C=>(by rw[F] at C;cases C),fun C=>(by rw[F] at C;cases C),fun _=>⟨rfl,rfl⟩⟩
  | true =>
   have k:=A9t (k0:=Cb N K0 K1 (n:Int) n (Av raw) raw.length l g n (Av ks) i u.av (tb n (Ty u ks n)) fuel) (K0:=K0) (K1:=K1) (raw:=raw) (l:=l) (g:=g) (i:=i) hN h hn ok I L F gg O
   rw[ct,ct,rJ h,ct,rK h,u3]
   cases p with
   | zero =>
    rw[show((((0:Nat):Int)==0)==true)=true from rfl,ct,A46]
    rw[show N7 u ks 0=(u.state==2) from rfl] at k
    cases hs:(u.state==2) with
    | true=>rw[hs] at k;exact k
    | false=>rw[hs] at k;exact k
   | succ q =>
    rw[show((((q+1:Nat):Int)==0)==true)=false by simp;omega,cf,show(decide (((q+1:Nat):Int)>0)==true)=true by simp,ct,show IntKind.wrap .i64 (((q+1:Nat):Int) - 1)=(q:Int) by rw[i64 (by omega)];omega,Aa (by omega),ct,Nat.zero_add,C3 (by omega),←G6 (by omega)]
    rw[show N7 u ks (q+1)=Cq ks q from rfl] at k
    cases hs:Cq ks q with
    | true=>rw[hs] at k;exact k
    | false=>rw[hs] at k;exact k
theorem Ak5 {h:Int} {m:Nat} (O:m=raw.length) (hn:n=ks.length) (S:u.away.l.length≤1000) (T:ks.length≤1000) (hN:4096≤N)
  (U:nD u h ks≠0→K0 [(.imm [] 0 1 false false),(.imm [] 0 3 false false),(.imm [] 0 3 false false)]=X)
  (G:nD u h ks=0→∀ A B,GdA u ks n n A B→K1 [(.imm (Av ks) n 1 false false),(.imm (tj A) n 3 false false),(.imm (tj B) n 3 false false)]=X):La N u.av i h n (Av raw) m l g (Av ks) K0 K1=X:=by
 subst O
 rw[HU];unfold Sa
 rw[D8,ct,Cg,Nat.mul_one,hn,←Ef ks,List.take_length,Ef,←hn]
 refine AK S T hN hn (fun k=>?_) (fun k=>?_)
 ·rw[show((0:Int) != 0)=false from rfl,cf,Bad]
  have G:=G k
  unfold nD at k
  cases F:Fg u h with
  | false=>rw[F] at k;simp at k
  | true =>
   rw[F] at k
   have ok:=Ah2 F
   obtain⟨hs,V,Y⟩:=zf F
   simp only[Bool.not_true,cond_false] at k
   cases D:((ks.length:Int) != h) with
   | true=>rw[D] at k;simp at k
   | false =>
    rw[D] at k
    have C:(ks.length:Int)=h:=by simpa using D
    cases L:(N6 u 0 (Mo u) ks).2 with
    | false=>rw[L] at k;simp at k
    | true =>
     rw[L] at k
     cases M:((u.state==2&&!Cq ks 0)&&decide (u.output>u.stopRamp)) with
     | true=>rw[M] at k;simp at k
     | false =>
      rw[M] at k
      cases I:K8 u ks ks.length with
      | true=>rw[I] at k;simp at k
      | false =>
       rw[←hn] at I C
       rw[←C]
       exact Aof (by omega) (by omega) hn.symm ok V I G n 0 N [] [] (by omega) (by omega) ⟨rfl,rfl,fun i hi=>by omega⟩
 ·rw[show(nD u h ks != 0)=true by simpa using k,ct]
  exact U k
end
end
end Gx

namespace Gx
open Go Go.Proofs
set_option maxRecDepth 100000
section
variable {R:Type}
variable {N:Nat} {u:UnitD} {p:PlanD} {f e:Bool} {c:Int}
def Bdt (ks:List Int) (en re:List RatD) (a b c:Bool):PlanD:=⟨.of ks false a,.of en false b,.of re false c⟩
theorem Bb1 {ks:List Int} {en re:List RatD} {a b c:Bool}:[AV.imm (Av ks) ks.length 1 false a,.imm (en.flatMap RatD.av) en.length 3 false b,.imm (re.flatMap RatD.av) re.length 3 false c]=(Bdt ks en re a b c).av:=by
 rw[←Ee];rfl
end
end Gx

namespace Gx.Cf
open Go Go.Proofs
inductive Sl (α:Type) where
 | nil
 | of (l:List α) (t o:Bool)
def Sl.l {α:Type}:Sl α→List α
 | .nil=>[]
 | .of l _ _=>l
def Sl.av {α:Type} (sz:Nat) (e:α→List AV):Sl α→AV
 | .nil=>.nsl
 | .of l t o=>.imm (l.flatMap e) l.length sz t o
def AE (n:Int):List AV:=[.int .i64 n]
def Av (l:List Int):List AV:=l.map fun n=>.int .i64 n
theorem Ee:∀ l:List Int,l.flatMap AE=Av l
 | []=>rfl
 | a::r=>by rw[List.flatMap_cons,Ee r];rfl
theorem Ef (l:List Int):(Av l).length=l.length:=by simp[Av]
theorem yI (l m:List Int):Av l++Av m=Av (l++m):=by simp[Av]
structure FracD where
 num:Int
 den:Int
structure BusD where
 name:List UInt8
 demand:Sl Int
 shed:Int
structure LineD where
 name:List UInt8
 fr:Int
 to:Int
 re:FracD
 smin:FracD
 smax:FracD
 limit:Int
 emer:Int
 away:Sl Int
structure SegD where
 width:Int
 price:Int
structure UnitD where
 name:List UInt8
 bus:Int
 min:Int
 max:Int
 segs:Sl SegD
 noLoad:Int
 rampUp:Int
 rampDown:Int
 startRamp:Int
 stopRamp:Int
 upTime:Int
 downTime:Int
 startTime:Int
 hotCost:Int
 coldCost:Int
 hotHours:Int
 reserve:Int
 reservePrice:Int
 away:Sl Int
 state:Int
 hours:Int
 output:Int
structure StoreD where
 name:List UInt8
 bus:Int
 capacity:Int
 initial:Int
 final:Int
 charge:Int
 discharge:Int
 eff:FracD
structure TieD where
 name:List UInt8
 bus:Int
 imp:Sl Int
 exp:Sl Int
 price:Sl Int
structure MoveD where
 unit:Int
 up:Int
 down:Int
structure OutD where
 name:List UInt8
 lines:Sl Int
 corr:Bool
 moves:Sl MoveD
structure CaseD where
 hours:Int
 reserve:Sl Int
 buses:Sl BusD
 lines:Sl LineD
 units:Sl UnitD
 stores:Sl StoreD
 ties:Sl TieD
 outs:Sl OutD
def BusD.av (b:BusD):List AV:=[.str b.name,b.demand.av 1 AE,.int .i64 b.shed]
def LineD.av (b:LineD):List AV:=[.str b.name,.int .i64 b.fr,.int .i64 b.to,.int .i64 b.re.num,.int .i64 b.re.den,.int .i64 b.smin.num,.int .i64 b.smin.den,.int .i64 b.smax.num,.int .i64 b.smax.den,.int .i64 b.limit,.int .i64 b.emer,b.away.av 1 AE]
def SegD.av (s:SegD):List AV:=[.int .i64 s.width,.int .i64 s.price]
def UnitD.av (u:UnitD):List AV:=[.str u.name,.int .i64 u.bus,.int .i64 u.min,.int .i64 u.max,u.segs.av 2 SegD.av,.int .i64 u.noLoad,.int .i64 u.rampUp,.int .i64 u.rampDown,.int .i64 u.startRamp,.int .i64 u.stopRamp,.int .i64 u.upTime,.int .i64 u.downTime,.int .i64 u.startTime,.int .i64 u.hotCost,.int .i64 u.coldCost,.int .i64 u.hotHours,.int .i64 u.reserve,.int .i64 u.reservePrice,u.away.av 1 AE,.int .i64 u.state,.int .i64 u.hours,.int .i64 u.output]
def StoreD.av (s:StoreD):List AV:=[.str s.name,.int .i64 s.bus,.int .i64 s.capacity,.int .i64 s.initial,.int .i64 s.final,.int .i64 s.charge,.int .i64 s.discharge,.int .i64 s.eff.num,.int .i64 s.eff.den]
def TieD.av (t:TieD):List AV:=[.str t.name,.int .i64 t.bus,t.imp.av 1 AE,t.exp.av 1 AE,t.price.av 1 AE]
def MoveD.av (m:MoveD):List AV:=[.int .i64 m.unit,.int .i64 m.up,.int .i64 m.down]
def OutD.av (o:OutD):List AV:=[.str o.name,o.lines.av 1 AE,.bool o.corr,o.moves.av 3 MoveD.av]
def CaseD.av (c:CaseD):List AV:=[.int .i64 c.hours,c.reserve.av 1 AE,c.buses.av 3 BusD.av,c.lines.av 12 LineD.av,c.units.av 22 UnitD.av,c.stores.av 9 StoreD.av,c.ties.av 5 TieD.av,c.outs.av 4 OutD.av]
section
variable {R:Type}
theorem Hz {α:Type} {sz:Nat} {e:α→List AV} {s:Sl α} {r:List AV} {f:List AV→Nat→Option R}:Ct sz (s.av sz e::r) f=f (s.l.flatMap e) s.l.length:=by
 cases s<;>simp[Ct,Sl.av,Sl.l,A24]
theorem IF {s:List UInt8} {r:List AV} {f:List UInt8→Option R}:Ass (.str s::r) f=f s:=by simp[Ass,uH]
theorem A8a {b:Bool} {r:List AV} {f:Bool→Option R}:N_ (.bool b::r) f=f b:=by simp[N_,asBool]
theorem E9 (a b:Nat):Nat.ble a b=decide (a≤b):=by
  cases h:Nat.ble a b with
  | true=>simp at h;simp[h]
  | false => have : ¬ a ≤ b := fun k => by rw [Nat.ble_eq_true_of_le k] at h; cases h
             simp[this]
theorem Ash (a b:Nat):Nat.beq a b=decide (a=b):=by
  cases h:Nat.beq a b with
  | true=>have:=Nat.eq_of_beq_eq_true h;simp[this]
  | false => have : a ≠ b := fun e => by subst e; rw [Nat.beq_refl] at h; cases h
             simp[this]
theorem ct (x y:Option R):cond true x y=x:=rfl
theorem cf (x y:Option R):cond false x y=y:=rfl
theorem Bn {α:Type} {e:α→List AV} {sz:Nat} (k:∀ a,(e a).length=sz):∀ (l:List α) (j:Nat) (h:j<l.length),List.drop (j*sz) (l.flatMap e)=e l[j]++(l.drop (j+1)).flatMap e
 | a::r,0,_=>by simp
 | a::r,j+1,h=>by
  have:=Bn k r j (by simpa using h)
  rw[List.flatMap_cons,List.drop_append,k,show(j+1)*sz - sz=j*sz by rw[Nat.add_mul];omega,List.drop_eq_nil_of_le (by rw[k,Nat.add_mul];omega)]
  simpa using this
theorem PW {l:List Int} {i:Nat} (h:i<l.length) {f:Int→Option R}:Ao .i64 (List.drop i (Av l)) f=f l[i]:=by
 rw[Av,List.drop_eq_getElem_cons (by simpa using h)];simp[Az]
abbrev J5:=Option ((Int×Int×Int)×{ e:Int // e≠0 })
def nd (p:J5) (ok:Bool) (w:Int×Int×Int) (e:{ e:Int // e≠0 }):J5:=match p with
 | some x=>some x
 | none=>cond ok none (some (w,e))
theorem VT (p:J5) (w:Int×Int×Int) (e:{ e:Int // e≠0 }):nd p true w e=p:=by cases p<;>rfl
theorem A9u (x:(Int×Int×Int)×{ e:Int // e≠0 }) (ok:Bool) (w:Int×Int×Int) (e:{ e:Int // e≠0 }):nd (some x) ok w e=some x:=rfl
theorem Aw5 (p:J5) (a b:Bool) (w:Int×Int×Int) (e:{ e:Int // e≠0 }):nd (nd p a w e) b w e=nd p (a&&b) w e:=by cases p<;>cases a<;>cases b<;>rfl
def A8b (p:J5) (k i:Int):List AV:=match p with
 | none=>[.int .i64 k,.int .i64 i,.int .i64 0,.int .i64 0]
 | some ((a,b,f),e)=>[.int .i64 a,.int .i64 b,.int .i64 f,.int .i64 e.1]
def Fj (lo hi n:Int):Bool:=decide (lo≤n)&&decide (n≤hi)
end
end Gx.Cf

namespace Gx.Cf
open Go Go.Proofs
section
variable {R:Type}
def S5 (n N:Nat):Prop:=n<N∧n<4611686018427387904
theorem Fi {j:Nat} (h:j<4611686018427387904):IntKind.wrap .i64 ((j:Int)+1)=((j+1:Nat):Int):=by rw[Yh _ (by omega)];omega
theorem Ah4 {l:List Int} {j:Nat} (h:j<l.length) {f:Int→Option R}:Ao .i64 (List.drop ((Int.toNat (j:Int))*1) (Av l)) f=f l[j]:=by
 rw[Int.toNat_natCast,Nat.mul_one,PW h]
theorem Jp {j n:Nat} (h:j<n):decide ((j:Int)<(n:Int))=true:=by simp;omega
theorem Lb {j n:Nat} (h:n≤j):decide ((j:Int)<(n:Int))=false:=by simp;omega
theorem Eg {α:Type} {l:List α} {j:Nat} (h:j<l.length):l.drop j=l[j]::l.drop (j+1):=List.drop_eq_getElem_cons h
theorem Fw {α:Type} {l:List α} {j:Nat} (h:l.length≤j):l.drop j=[]:=List.drop_eq_nil_of_le h
theorem RX {N:Nat} {lo hi:Int} {l:List Int} {t o:Bool} {K:Bool→Option R} (hs:l.length<4611686018427387904):∀ (m j fuel:Nat),j+m=l.length→m<fuel →
  H3 N K lo hi (Av l) l.length t o fuel (j:Int)=K ((l.drop j).all (Fj lo hi))
 | 0,j,fuel+1,B,_=>by
  rw[H3];unfold Rz
  rw[Lb (by omega),cf,Fw (by omega)];rfl
 | m+1,j,fuel+1,B,D=>by
  rw[H3];unfold Rz
  have h:j<l.length:=by omega
  rw[Jp h,ct,Aa h,ct,Ah4 h,ct,Ah4 h,Fi (by omega),RX hs m (j+1) fuel (by omega) (by omega),Eg h,List.all_cons]
  unfold Fj
  by_cases k:l[j]<lo
  ·have:¬ lo≤l[j]:=by omega
   simp[k,this]
  ·have:lo≤l[j]:=by omega
   by_cases A:l[j]>hi
   ·have:¬ l[j]≤hi:=by omega
    simp[k,A,this]
   ·have C:l[j]≤hi:=by omega
    simp[k,A,this,C]
theorem Hl {N:Nat} {lo hi:Int} {l:List Int} {n:Nat} {t o:Bool} {K:Bool→Option R} (hn:n=l.length) (hs:S5 l.length N):Aw N lo hi (Av l) n t o K=K (l.all (Fj lo hi)):=by
 subst hn
 rw[YQ];unfold DF
 have:=RX (R:=R) (N:=N) (lo:=lo) (hi:=hi) (t:=t) (o:=o) (K:=K) hs.2 l.length 0 N (by omega) hs.1
 simpa using this
theorem D7 {N:Nat} {lo hi a:Int} {t o:Bool} {K:Bool→Option R} (hN:8≤N):Aw N lo hi [.int .i64 a] 1 t o K=K (Fj lo hi a):=by
 have:=Hl (R:=R) (N:=N) (lo:=lo) (hi:=hi) (l:=[a]) (t:=t) (o:=o) (K:=K) rfl ⟨by simp;omega,by simp⟩
 simpa[Av] using this
theorem z6 {N:Nat} {lo hi a b:Int} {t o:Bool} {K:Bool→Option R} (hN:8≤N):Aw N lo hi [.int .i64 a,.int .i64 b] 2 t o K=K (Fj lo hi a&&Fj lo hi b):=by
 have:=Hl (R:=R) (N:=N) (lo:=lo) (hi:=hi) (l:=[a,b]) (t:=t) (o:=o) (K:=K) rfl ⟨by simp;omega,by simp⟩
 simpa[Av] using this
def Aim:List Int→Bool
 | a::b::r=>decide (a<b)&&Aim (b::r)
 | _=>true
theorem RY (a b:Int) (r:List Int):Aim (a::b::r)=(decide (a<b)&&Aim (b::r)):=by rw[Aim]
theorem rY (a:Int):Aim [a]=true:=by rw[Aim];intros;simp_all
theorem Asi:Aim []=true:=by rw[Aim];intros;simp_all
theorem Ah5 {j:Nat} (h:j+1<4611686018427387904):IntKind.wrap .i64 (((j+1:Nat):Int) - 1)=(j:Int):=by rw[Yh _ (by omega)];omega
theorem aE {N:Nat} {l:List Int} {t o:Bool} {K:Bool→Option R} (hs:l.length<4611686018427387904):∀ (m j fuel:Nat),j+1+m=l.length→m<fuel →
  Hd N K (Av l) l.length t o fuel ((j+1:Nat):Int)=K (Aim (l.drop j))
 | 0,j,fuel+1,A,_=>by
  rw[Hd];unfold O4
  rw[Lb (by omega),cf,Eg (by omega),Fw (by omega),rY]
 | m+1,j,fuel+1,A,B=>by
  rw[Hd];unfold O4
  have h:j+1<l.length:=by omega
  have h':j<l.length:=by omega
  rw[Jp h,ct,Aa h,ct,Ah4 h,Ah5 (by omega),Aa h',ct,Ah4 h',Fi (by omega),aE hs m (j+1) fuel (by omega) (by omega),Eg h',Eg h,RY]
  by_cases k:l[j+1]≤l[j]
  ·have:¬ l[j]<l[j+1]:=by omega
   simp[k,this]
  ·have:l[j]<l[j+1]:=by omega
   simp[k,this]
theorem AL {N:Nat} {l:List Int} {n:Nat} {t o:Bool} {K:Bool→Option R} (hn:n=l.length) (hs:S5 l.length N):O5 N (Av l) n t o K=K (Aim l):=by
 subst hn
 rw[eo];unfold LN
 rcases l with _ | ⟨a,r⟩
 ·have hN:=hs.1
  rcases N with _ | N
  ·simp at hN
  ·dsimp only;rw[Hd];unfold O4;simp[Asi]
 ·have:=aE (R:=R) (N:=N) (t:=t) (o:=o) (K:=K) hs.2 r.length 0 N (by simp;omega) (by have:=hs.1;simp at this;omega)
  simpa using this
theorem rZ {N:Nat} {v:Int} {l:List Int} {t o:Bool} {K:Bool→Option R} (hs:l.length<4611686018427387904):∀ (m j fuel:Nat),j+m=l.length→m<fuel →
  Ss N K (Av l) l.length t o v fuel (j:Int)=K ((l.drop j).contains v)
 | 0,j,fuel+1,k,_=>by
  rw[Ss];unfold LO
  rw[Lb (by omega),cf,Fw (by omega)];rfl
 | m+1,j,fuel+1,k,A=>by
  rw[Ss];unfold LO
  have h:j<l.length:=by omega
  rw[Jp h,ct,Aa h,ct,Ah4 h,Fi (by omega),rZ hs m (j+1) fuel (by omega) (by omega),Eg h,List.contains_cons,BEq.comm]
  cases B:v==l[j]<;>simp
theorem VU {N:Nat} {v:Int} {l:List Int} {n:Nat} {t o:Bool} {K:Bool→Option R} (hn:n=l.length) (hs:S5 l.length N):LP N (Av l) n t o v K=K (l.contains v):=by
 subst hn
 rw[xR];unfold qa
 have:=rZ (R:=R) (N:=N) (v:=v) (t:=t) (o:=o) (K:=K) hs.2 l.length 0 N (by omega) hs.1
 simpa using this
end
end Gx.Cf

namespace Gx.Cf
open Go Go.Proofs
section
variable {R:Type}
def Ii:J5→Int
 | none=>0
 | some x=>x.2.1
theorem RZ {c:CaseD} {f:Int→Option R}:Ao .i64 c.av f=f c.hours:=by simp[CaseD.av,Az]
theorem A1a {c:CaseD} {f:List AV→Nat→Option R}:Ct 1 (List.drop 1 c.av) f=f (Av c.reserve.l) c.reserve.l.length:=by simp[CaseD.av,Hz,Ee]
theorem Vd {c:CaseD} {f:List AV→Nat→Option R}:Ct 3 (List.drop 2 c.av) f=f (c.buses.l.flatMap BusD.av) c.buses.l.length:=by simp[CaseD.av,Hz]
theorem Ro {c:CaseD} {f:List AV→Nat→Option R}:Ct 12 (List.drop 3 c.av) f=f (c.lines.l.flatMap LineD.av) c.lines.l.length:=by simp[CaseD.av,Hz]
theorem IG {c:CaseD} {f:List AV→Nat→Option R}:Ct 22 (List.drop 4 c.av) f=f (c.units.l.flatMap UnitD.av) c.units.l.length:=by simp[CaseD.av,Hz]
theorem EF {c:CaseD} {f:List AV→Nat→Option R}:Ct 9 (List.drop 5 c.av) f=f (c.stores.l.flatMap StoreD.av) c.stores.l.length:=by simp[CaseD.av,Hz]
theorem gp {c:CaseD} {f:List AV→Nat→Option R}:Ct 5 (List.drop 6 c.av) f=f (c.ties.l.flatMap TieD.av) c.ties.l.length:=by simp[CaseD.av,Hz]
theorem DO {c:CaseD} {f:List AV→Nat→Option R}:Ct 4 (List.drop 7 c.av) f=f (c.outs.l.flatMap OutD.av) c.outs.l.length:=by simp[CaseD.av,Hz]
def C8 (p:J5):List AV:=A8b p 0 0
theorem Ag {N:Nat} {p:J5} {k i f e:Int} {ok:Bool} {K:List AV→Option R} (B:e≠0) :
  Ab N ok k i f e (C8 p) K=K (C8 (nd p ok (k,i,f) ⟨e,B⟩)):=by
 rw[Y1];unfold N0 Kb
 rcases p with _ | ⟨⟨a,b,f'⟩,e',A⟩
 ·cases ok<;>simp[C8,A8b,Az,nd,E9,Cr]
 ·have:(e'==0)=false:=by simpa using A
  simp[C8,A8b,Az,nd,this]
def Aog (h:Int) (l:List Int) (lo hi:Int) (w:Int×Int×Int) (p:J5):J5:=nd (nd p ((l.length:Int)==h) w ⟨4,by decide⟩) (l.all (Fj lo hi)) w ⟨3,by decide⟩
def Ah6 (h:Int) (l:List Int) (w:Int×Int×Int) (p:J5):J5:=nd (nd p (l.all (Fj 0 (IntKind.wrap .i64 (h - 1)))) w ⟨3,by decide⟩) (Aim l) w ⟨11,by decide⟩
theorem Ei {N:Nat} {c:CaseD} {p:J5} {k i f lo hi:Int} {l:List Int} {n:Nat} {t o o1:Bool} {K:List AV→Option R} (hn:n=l.length) (hs:S5 l.length N) :
  Cc N c.av o1 (Av l) n t o lo hi k i f (C8 p) K=K (C8 (Aog c.hours l lo hi (k,i,f) p)):=by
 rw[Uq];unfold Qr
 rw[RZ,Ag (by decide),Hl hn hs,Ag (by decide),hn];rfl
theorem Vv {N:Nat} {c:CaseD} {p:J5} {k i f:Int} {l:List Int} {n:Nat} {t o o1:Bool} {K:List AV→Option R} (hn:n=l.length) (hs:S5 l.length N) :
  Fr N c.av o1 (Av l) n t o k i f (C8 p) K=K (C8 (Ah6 c.hours l (k,i,f) p)):=by
 rw[Y9];unfold Ut
 rw[RZ,Hl hn hs,Ag (by decide),AL hn hs,Ag (by decide)];rfl
def yJ (c:CaseD) (b:Int):Bool:=decide (0≤b)&&decide (b<(c.buses.l.length:Int))
theorem A1b (n:Nat) (b:Int) (h:n<4611686018427387904):Fj 0 (IntKind.wrap .i64 ((n:Int) - 1)) b=(decide (0≤b)&&decide (b<(n:Int))):=by
 rw[Yh _ (by omega),Fj]
 congr 1
 simp;omega
theorem Jj {N:Nat} {c:CaseD} {p:J5} {k i f b:Int} {o1:Bool} {K:List AV→Option R} (hN:8≤N) (A:c.buses.l.length<4611686018427387904) :
  Di N c.av o1 b k i f (C8 p) K=K (C8 (nd p (yJ c b) (k,i,f) ⟨12,by decide⟩)):=by
 rw[BO];unfold Wv
 rw[Vd,D7 hN,A1b _ _ A,Ag (by decide)];rfl
def S6 (f:FracD):Bool:=Fj 1 1048576 f.den&&Fj (-1048576) 1048576 f.num
theorem MH {N:Nat} {f:FracD} {o:Bool} {K:Bool→Option R} (hN:8≤N):G3 N [.int .i64 f.num,.int .i64 f.den] o K=K (S6 f):=by
 rw[QM];unfold ND
 simp only[List.drop_succ_cons,List.drop_zero,Az,D7 hN]
 unfold S6
 cases Fj 1 1048576 f.den<;>simp
def Asj (c:UInt8):Bool:=decide (97≤c.toNat)&&decide (c.toNat≤122)
def Bb2 (c:UInt8):Bool:=Asj c||(decide (48≤c.toNat)&&decide (c.toNat≤57))||decide (c.toNat=95)
def Ask (s:List UInt8):Bool:=decide (1≤s.length)&&(decide (s.length≤16)&&(!(s==[99,111,114,114,101,99,116,105,118,101])&&(Asj (s.getD 0 0)&&s.all Bb2)))
theorem A2r {s:List UInt8} {j:Nat} (h:j<s.length):List.getD s (Int.toNat (j:Int)) 0=s[j]:=by
 rw[Int.toNat_natCast,List.getD_eq_getElem?_getD,List.getElem?_eq_getElem h];rfl
theorem lK {N:Nat} {s:List UInt8} {K:Bool→Option R} (hs:s.length<4611686018427387904):∀ (m j fuel:Nat),j+m=s.length→m<fuel →
  O3 N K s fuel (j:Int)=K ((decide (j≠0)||(decide (s.length=0)||Asj (s.getD 0 0)))&&(s.drop j).all Bb2)
 | 0,j,fuel+1,D,_=>by
  rw[O3];unfold DG
  rw[Lb (by omega),cf,Fw (by omega)]
  by_cases h:j=0
  ·have:s.length=0:=by omega
   simp[this]
  ·simp[h]
 | m+1,j,fuel+1,D,M=>by
  rw[O3];unfold DG LL
  dsimp only
  have h:j<s.length:=by omega
  rw[Jp h,ct,Aa h,ct,Fi (by omega),lK hs m (j+1) fuel (by omega) (by omega),Eg h,List.all_cons,A2r h]
  have F:j=0→s.getD 0 0=s[j]:=fun e=>by
   have:=A2r h;rw[←this,e];rfl
  unfold Bb2 Asj
  by_cases k:j=0
  ·rw[F k]
   have A:decide (s.length=0)=false:=decide_eq_false (by omega)
   have e:((j:Int)==0)=true:=by simp;omega
   simp only[ct,k,ne_eq,not_true_eq_false,decide_false,Bool.false_or,A,Nat.zero_add,show decide (¬ (1=0))=true by decide,Bool.true_or,Bool.true_and]
   simp only[k] at *
   generalize s[0].toNat=v
   by_cases B:97≤v<;>by_cases C:v≤122<;>simp[B,C,show((97:Int)≤v)↔97≤v by omega,show((v:Int)≤122)↔v≤122 by omega]
  ·have e:((j:Int)==0)=false:=by simp;omega
   simp only[ct,e,k,ne_eq,not_false_eq_true,decide_true,Bool.true_or,Bool.true_and,show decide (¬ (j+1=0))=true by simp]
   generalize s[j].toNat=v
   generalize (s.drop (j+1)).all _=r
   by_cases B:97≤v<;>by_cases C:v≤122<;>by_cases G:48≤v<;>by_cases I:v≤57<;>by_cases L:v=95 <;>
    simp[B,C,G,I,show((97:Int)≤v)↔97≤v by omega,show((v:Int)≤122)↔v≤122 by omega,show((v:Int)<48)↔¬ 48≤v by omega,show((57:Int)<v)↔¬ v≤57 by omega,show((v:Int) != 95)=!decide (v=95) by (by_cases v=95<;>simp_all<;>omega),L]
theorem Ak6 {N:Nat} {s:List UInt8} {K:Bool→Option R} (hN:64≤N):QL N s K=K (Ask s):=by
 rw[qX];unfold gf LM U_
 dsimp only
 unfold Ask
 by_cases k:1≤s.length
 ·by_cases A:s.length≤16
  ·have B:=lK (R:=R) (N:=N) (s:=s) (K:=K) (by omega) s.length 0 N (by omega) (by omega)
   simp only[List.drop_zero,Int.natCast_zero] at B
   rw[B]
   simp only[k,A,show(decide ((s.length:Int)<1))=false by simp;omega,show(decide ((s.length:Int)>16))=false by simp;omega,decide_true,cond_true,cond_false,beq_self_eq_true]
   have:s.length≠0:=by omega
   cases s==[99,111,114,114,101,99,116,105,118,101]<;>simp[this]
  ·simp[k,A,show((s.length:Int)<1)↔¬ 1≤s.length by omega,show((16:Int)<s.length)↔¬ s.length≤16 by omega]
 ·simp[k,show((s.length:Int)<1)↔¬ 1≤s.length by omega]
end
end Gx.Cf

namespace Gx.Cf
open Go Go.Proofs
section
variable {R:Type}
def r7 (names:List (List UInt8)) (k i:Int) (s:List UInt8) (p:J5):J5:=nd (nd p (Ask s) (k,i,0) ⟨9,by decide⟩) (names.all fun x=>!(x==s)) (k,i,0) ⟨10,by decide⟩
theorem R_ (a:BusD):a.av.length=3:=rfl
theorem Hm (a:LineD):a.av.length=12:=rfl
theorem Qj (a:UnitD):a.av.length=22:=rfl
theorem Pn (a:StoreD):a.av.length=9:=rfl
theorem Zy (a:TieD):a.av.length=5:=rfl
theorem Po (a:OutD):a.av.length=4:=rfl
end
end Gx.Cf

namespace Gx.Cf
open Go Go.Proofs
section
variable {R:Type}
structure Small (c:CaseD) (N:Nat):Prop where
 n64:64≤N
 res:S5 c.reserve.l.length N
 bus:S5 c.buses.l.length N
 lin:S5 c.lines.l.length N
 uni:S5 c.units.l.length N
 sto:S5 c.stores.l.length N
 tie:S5 c.ties.l.length N
 out:S5 c.outs.l.length N
 dem:∀ b ∈ c.buses.l,S5 b.demand.l.length N
 law:∀ b ∈ c.lines.l,S5 b.away.l.length N
 seg:∀ b ∈ c.units.l,S5 b.segs.l.length N
 uaw:∀ b ∈ c.units.l,S5 b.away.l.length N
 tim:∀ b ∈ c.ties.l,S5 b.imp.l.length N
 tex:∀ b ∈ c.ties.l,S5 b.exp.l.length N
 tpr:∀ b ∈ c.ties.l,S5 b.price.l.length N
 oli:∀ b ∈ c.outs.l,S5 b.lines.l.length N
 omo:∀ b ∈ c.outs.l,S5 b.moves.l.length N
 omb:∀ b ∈ c.outs.l,b.moves.l.length<8796093022208
 top:c.buses.l.length≤1000000∧c.lines.l.length≤1000000∧c.units.l.length≤1000000∧c.stores.l.length≤1000000∧c.ties.l.length≤1000000∧c.outs.l.length≤1000000
def Gm {α:Type} (f:Nat→α→J5→J5):List α→Nat→J5→J5
 | [],_,p=>p
 | a::r,j,p=>Gm f r (j+1) (f j a p)
theorem Pp {α:Type} {f:Nat→α→J5→J5} {x:(Int×Int×Int)×{ e:Int // e≠0 }} (k:∀ j a,f j a (some x)=some x):∀ (l:List α) (j:Nat),Gm f l j (some x)=some x
 | [],_=>rfl
 | a::r,j=>by rw[Gm,k];exact Pp k r (j+1)
abbrev e1:{ e:Int // e≠0 }:=⟨1,by decide⟩
abbrev e3:{ e:Int // e≠0 }:=⟨3,by decide⟩
abbrev e4:{ e:Int // e≠0 }:=⟨4,by decide⟩
abbrev e8:{ e:Int // e≠0 }:=⟨8,by decide⟩
abbrev Bb3:{ e:Int // e≠0 }:=⟨11,by decide⟩
abbrev A5z:{ e:Int // e≠0 }:=⟨12,by decide⟩
abbrev Bd3:{ e:Int // e≠0 }:=⟨13,by decide⟩
abbrev Bc2:{ e:Int // e≠0 }:=⟨16,by decide⟩
def A1c (c:CaseD) (p:J5):J5 :=
 let p:=nd p (Fj 1 24 c.hours) (0,0,0) e3
 let p:=Aog c.hours c.reserve.l 0 1048576 (0,0,1) p
 let p:=nd p (Fj 1 32 (c.buses.l.length:Int)) (0,0,2) e8
 let p:=nd p (decide ((c.lines.l.length:Int)≤64)) (0,0,3) e8
 let p:=nd p (decide ((c.units.l.length:Int)≤16)) (0,0,4) e8
 let p:=nd p (decide ((c.stores.l.length:Int)≤8)) (0,0,5) e8
 let p:=nd p (decide ((c.ties.l.length:Int)≤8)) (0,0,6) e8
 nd p (decide ((c.outs.l.length:Int)≤64)) (0,0,7) e8
def A9v (c:CaseD) (j:Nat) (b:BusD) (p:J5):J5 :=
 let p:=r7 ((c.buses.l.map (·.name)).take j) 1 j b.name p
 let p:=Aog c.hours b.demand.l 0 1048576 (1,j,1) p
 nd p (Fj 0 1048576 b.shed) (1,j,2) e3
def Aoh (c:CaseD) (j:Nat) (x:LineD) (p:J5):J5 :=
 let p:=r7 ((c.lines.l.map (·.name)).take j) 2 j x.name p
 let p:=nd p (yJ c x.fr) (2,j,1) A5z
 let p:=nd p (yJ c x.to) (2,j,2) A5z
 let p:=nd p (x.to != x.fr) (2,j,2) e1
 let p:=nd p (S6 x.re&&decide (x.re.num>0)) (2,j,3) e3
 let p:=nd p (S6 x.smin&&decide (x.smin.num≤0)) (2,j,4) e3
 let p:=nd p (S6 x.smax&&decide (x.smax.num≥0)) (2,j,5) e3
 let p:=nd p (Fj 0 1048576 x.limit) (2,j,6) e3
 let p:=nd p (Fj x.limit 1048576 x.emer) (2,j,7) e3
 Ah6 c.hours x.away.l (2,j,8) p
def Ah7 (c:CaseD) (j:Nat) (x:StoreD) (p:J5):J5 :=
 let p:=r7 ((c.stores.l.map (·.name)).take j) 4 j x.name p
 let p:=nd p (yJ c x.bus) (4,j,1) A5z
 let p:=nd p (Fj 0 1048576 x.capacity) (4,j,2) e3
 let p:=nd p (Fj 0 x.capacity x.initial) (4,j,3) e3
 let p:=nd p (Fj 0 x.capacity x.final) (4,j,4) e3
 let p:=nd p (Fj 0 1048576 x.charge) (4,j,5) e3
 let p:=nd p (Fj 0 1048576 x.discharge) (4,j,6) e3
 nd p (S6 x.eff&&(decide (x.eff.num>0)&&decide (x.eff.num≤x.eff.den))) (4,j,7) e3
def A9w (c:CaseD) (j:Nat) (x:TieD) (p:J5):J5 :=
 let p:=r7 ((c.ties.l.map (·.name)).take j) 5 j x.name p
 let p:=nd p (yJ c x.bus) (5,j,1) A5z
 let p:=Aog c.hours x.imp.l 0 1048576 (5,j,2) p
 let p:=Aog c.hours x.exp.l 0 1048576 (5,j,3) p
 Aog c.hours x.price.l (-1048576) 1048576 (5,j,4) p
end
end Gx.Cf

namespace Gx.Cf
open Go Go.Proofs
section
variable {R:Type}
theorem IH (a:SegD):a.av.length=2:=rfl
theorem Qk (a:MoveD):a.av.length=3:=rfl
def Gh (s:SegD):Bool:=Fj 1 1048576 s.width&&Fj (-1048576) 1048576 s.price
def VV (a:Int):List SegD→Int
 | []=>a
 | s::r=>VV (IntKind.wrap .i64 (a+s.width)) r
def f6:List SegD→Bool
 | a::b::r=>decide (b.price≥a.price)&&f6 (b::r)
 | _=>true
theorem VW (a b:SegD) (r:List SegD):f6 (a::b::r)=(decide (b.price≥a.price)&&f6 (b::r)):=by rw[f6]
theorem Ah8 (a:SegD):f6 [a]=true:=by rw[f6];intros;simp_all
theorem Aw6:f6 []=true:=by rw[f6];intros;simp_all
def A8c (u:UnitD) (j:Nat) (p:J5):J5 :=
 let p:=nd p (decide ((u.segs.l.length:Int)≤8)) (3,j,4) e8
 let p:=nd p (u.segs.l.all Gh) (3,j,4) e3
 let p:=nd p (f6 u.segs.l) (3,j,4) Bb3
 nd p (VV 0 u.segs.l==IntKind.wrap .i64 (u.max - u.min)) (3,j,4) e4
theorem tn {u:UnitD} {f:List AV→Nat→Option R}:Ct 2 (List.drop 4 u.av) f=f (u.segs.l.flatMap SegD.av) u.segs.l.length:=by simp[UnitD.av,Hz]
theorem Baw {u:UnitD} {f:Int→Option R}:Ao .i64 (List.drop 3 u.av) f=f u.max:=by simp[UnitD.av,Az]
theorem Bax {u:UnitD} {f:Int→Option R}:Ao .i64 (List.drop 2 u.av) f=f u.min:=by simp[UnitD.av,Az]
theorem Aoi {l:List SegD} {j:Nat} (h:j<l.length) {f:Int→Option R}:Ao .i64 (List.drop 1 (List.drop ((Int.toNat (j:Int))*2) (l.flatMap SegD.av))) f=f l[j].price:=by
 rw[Int.toNat_natCast,Bn IH _ _ h];simp[SegD.av,Az]
theorem A50 {l:List SegD} {j:Nat} (h:j<l.length) {f:Int→Option R}:Ao .i64 (List.drop ((Int.toNat (j:Int))*2) (l.flatMap SegD.av)) f=f l[j].width:=by
 rw[Int.toNat_natCast,Bn IH _ _ h];simp[SegD.av,Az]
def Aw7 (c:CaseD) (j:Nat) (u:UnitD) (p:J5):J5 :=
 let p:=r7 ((c.units.l.map (·.name)).take j) 3 j u.name p
 let p:=nd p (yJ c u.bus) (3,j,1) A5z
 let p:=nd p (Fj 0 1048576 u.min) (3,j,2) e3
 let p:=nd p (Fj u.min 1048576 u.max) (3,j,3) e3
 let p:=A8c u j p
 let p:=nd p (Fj 0 1048576 u.noLoad) (3,j,5) e3
 let p:=nd p (Fj 0 1048576 u.rampUp) (3,j,6) e3
 let p:=nd p (Fj 0 1048576 u.rampDown) (3,j,7) e3
 let p:=nd p (Fj u.min u.max u.startRamp) (3,j,8) e3
 let p:=nd p (Fj u.min u.max u.stopRamp) (3,j,9) e3
 let p:=nd p (Fj 0 24 u.upTime) (3,j,10) e3
 let p:=nd p (Fj 0 24 u.downTime) (3,j,11) e3
 let p:=nd p (Fj 0 24 u.startTime) (3,j,12) e3
 let p:=nd p (Fj 0 1048576 u.hotCost) (3,j,13) e3
 let p:=nd p (Fj 0 1048576 u.coldCost) (3,j,14) e3
 let p:=nd p (Fj 0 24 u.hotHours) (3,j,15) e3
 let p:=nd p (Fj 0 1048576 u.reserve) (3,j,16) e3
 let p:=nd p (Fj 0 1048576 u.reservePrice) (3,j,17) e3
 let p:=Ah6 c.hours u.away.l (3,j,18) p
 let p:=nd p (Fj 0 2 u.state) (3,j,19) A5z
 let p:=nd p (u.state != 1||u.startTime != 0) (3,j,19) Bc2
 let p:=nd p (Fj 1 48 u.hours) (3,j,20) e3
 let p:=nd p (u.state != 1||decide (u.hours≤u.startTime)) (3,j,20) e3
 cond (u.state==2) (nd p (Fj u.min u.max u.output) (3,j,21) e3) (nd p (Fj 0 0 u.output) (3,j,21) e3)
def A9x (c:CaseD) (m:MoveD):Bool:=decide (0≤m.unit)&&decide (m.unit<(c.units.l.length:Int))
def A51 (m:MoveD):Bool:=Fj 0 1048576 m.up&&Fj 0 1048576 m.down
def A1d (c:CaseD) (o:OutD) (j:Nat) (p:J5):J5 :=
 let p:=nd p ((o.moves.l.length:Int)==0||o.corr) (6,j,3) Bc2
 let p:=nd p (decide ((o.moves.l.length:Int)≤16)) (6,j,3) e8
 let p:=nd p (o.moves.l.all (A9x c)) (6,j,3) A5z
 let p:=nd p (Aim (o.moves.l.map (·.unit))) (6,j,3) Bb3
 nd p (o.moves.l.all A51) (6,j,3) e3
theorem A2s {u:OutD} {f:List AV→Nat→Option R}:Ct 3 (List.drop 3 u.av) f=f (u.moves.l.flatMap MoveD.av) u.moves.l.length:=by simp[OutD.av,Hz]
theorem Bb4 {u:OutD} {f:Bool→Option R}:N_ (List.drop 2 u.av) f=f u.corr:=by simp[OutD.av,A8a]
def A52 (c:CaseD) (j:Nat) (x:OutD) (p:J5):J5 :=
 let p:=r7 ((c.outs.l.map (·.name)).take j) 6 j x.name p
 let p:=nd p ((x.lines.l.length:Int)==1||(x.lines.l.length:Int)==2) (6,j,1) e4
 let p:=nd p (x.lines.l.all fun n=>decide (0≤n)&&decide (n<(c.lines.l.length:Int))) (6,j,1) A5z
 let p:=nd p (Aim x.lines.l) (6,j,1) Bb3
 A1d c x j p
theorem tp {c:CaseD} {j:Nat} {x:OutD} {y:(Int×Int×Int)×{ e:Int // e≠0 }}:A52 c j x (some y)=some y:=rfl
end
end Gx.Cf

namespace Gx.Cf
open Go Go.Proofs
section
variable {R:Type}
theorem A9y {u:OutD} {f:List AV→Nat→Option R}:Ct 1 (List.drop 1 u.av) f=f (Av u.lines.l) u.lines.l.length:=by simp[OutD.av,Hz,Ee]
end
end Gx.Cf

namespace Gx.Cf
open Go Go.Proofs
section
variable {R:Type}
def Hn (l:List (List UInt8)):List AV:=l.map fun s=>.str s
theorem Tv (l:List (List UInt8)):(Hn l).length=l.length:=by simp[Hn]
theorem Ah9 {l:List (List UInt8)} {i:Nat} (h:i<l.length) {f:List UInt8→Option R}:Ass (List.drop i (Hn l)) f=f l[i]:=by
 rw[Hn,List.drop_eq_getElem_cons (by simpa using h)];simp[IF]
theorem F4 {c:CaseD}:List.take 8 c.av=c.av:=rfl
theorem Pq {c:CaseD}:Nat.ble 8 (List.length c.av)=true:=rfl
theorem SA {N:Nat} {c:CaseD} {o:Bool} {K:Nat→List AV→Option R} (A:c.buses.l.length≤1000000):∀ (m j fuel:Nat),j+m=c.buses.l.length→m<fuel →
  L5 N K o c.av fuel j (j:Int) (Hn ((c.buses.l.take j).map (·.name)))=K c.buses.l.length (Hn (c.buses.l.map (·.name)))
 | 0,j,fuel+1,B,_=>by
  rw[L5];unfold Xx
  have k:j=c.buses.l.length:=by omega
  rw[Vd,Lb (by omega),cf,List.take_of_length_le (by omega),k]
 | m+1,j,fuel+1,B,F=>by
  rw[L5];unfold Xx
  have h:j<c.buses.l.length:=by omega
  have b3:(Nat.ble (j+1) 140737488355328&&Nat.ble ((j+1)*16) 140737488355328)=true:=by rw[E9,E9];simp;omega
  have C:List.take (j*1) (Hn ((c.buses.l.take j).map (·.name)))++[.str c.buses.l[j].name]=Hn ((c.buses.l.take (j+1)).map (·.name)):=by
   rw[List.take_of_length_le (by simp[Tv];omega),List.take_succ_eq_append_getElem h,List.map_append];simp[Hn]
  have D:∀ f:List UInt8→Option R,Ass (List.drop (j*3) (List.flatMap BusD.av c.buses.l)) f=f c.buses.l[j].name:=fun f=>by rw[Bn R_ _ _ h];simp[BusD.av,IF]
  rw[Vd,Jp h,ct,Vd,Aa h,ct,Int.toNat_natCast,D,b3,ct,C,Fi (by omega),SA A m (j+1) fuel (by omega) (by omega)]
theorem Aw8 {N:Nat} {c:CaseD} {o:Bool} {K:Nat→List AV→Option R} (hs:Small c N):Hi N c.av o 1 K=K (c.buses.l.map (·.name)).length (Hn (c.buses.l.map (·.name))):=by
 rw[Jy];unfold Mb
 have:=SA (R:=R) (N:=N) (c:=c) (o:=o) (K:=K) hs.top.1 c.buses.l.length 0 N (by omega) hs.bus.1
 simpa[Hn] using this
theorem SB {N:Nat} {c:CaseD} {o:Bool} {K:Nat→List AV→Option R} (A:c.lines.l.length≤1000000):∀ (m j fuel:Nat),j+m=c.lines.l.length→m<fuel →
  L6 N K o c.av fuel j (j:Int) (Hn ((c.lines.l.take j).map (·.name)))=K c.lines.l.length (Hn (c.lines.l.map (·.name)))
 | 0,j,fuel+1,B,_=>by
  rw[L6];unfold Xy
  have k:j=c.lines.l.length:=by omega
  rw[Ro,Lb (by omega),cf,List.take_of_length_le (by omega),k]
 | m+1,j,fuel+1,B,F=>by
  rw[L6];unfold Xy
  have h:j<c.lines.l.length:=by omega
  have b3:(Nat.ble (j+1) 140737488355328&&Nat.ble ((j+1)*16) 140737488355328)=true:=by rw[E9,E9];simp;omega
  have C:List.take (j*1) (Hn ((c.lines.l.take j).map (·.name)))++[.str c.lines.l[j].name]=Hn ((c.lines.l.take (j+1)).map (·.name)):=by
   rw[List.take_of_length_le (by simp[Tv];omega),List.take_succ_eq_append_getElem h,List.map_append];simp[Hn]
  have D:∀ f:List UInt8→Option R,Ass (List.drop (j*12) (List.flatMap LineD.av c.lines.l)) f=f c.lines.l[j].name:=fun f=>by rw[Bn Hm _ _ h];simp[LineD.av,IF]
  rw[Ro,Jp h,ct,Ro,Aa h,ct,Int.toNat_natCast,D,b3,ct,C,Fi (by omega),SB A m (j+1) fuel (by omega) (by omega)]
theorem yK {N:Nat} {c:CaseD} {o:Bool} {K:Nat→List AV→Option R} (hs:Small c N):Hi N c.av o 2 K=K (c.lines.l.map (·.name)).length (Hn (c.lines.l.map (·.name))):=by
 rw[Jy];unfold Mb
 have:=SB (R:=R) (N:=N) (c:=c) (o:=o) (K:=K) hs.top.2.1 c.lines.l.length 0 N (by omega) hs.lin.1
 simpa[Hn] using this
theorem SC {N:Nat} {c:CaseD} {o:Bool} {K:Nat→List AV→Option R} (A:c.units.l.length≤1000000):∀ (m j fuel:Nat),j+m=c.units.l.length→m<fuel →
  L7 N K o c.av fuel j (j:Int) (Hn ((c.units.l.take j).map (·.name)))=K c.units.l.length (Hn (c.units.l.map (·.name)))
 | 0,j,fuel+1,B,_=>by
  rw[L7];unfold Xz
  have k:j=c.units.l.length:=by omega
  rw[IG,Lb (by omega),cf,List.take_of_length_le (by omega),k]
 | m+1,j,fuel+1,B,F=>by
  rw[L7];unfold Xz
  have h:j<c.units.l.length:=by omega
  have b3:(Nat.ble (j+1) 140737488355328&&Nat.ble ((j+1)*16) 140737488355328)=true:=by rw[E9,E9];simp;omega
  have C:List.take (j*1) (Hn ((c.units.l.take j).map (·.name)))++[.str c.units.l[j].name]=Hn ((c.units.l.take (j+1)).map (·.name)):=by
   rw[List.take_of_length_le (by simp[Tv];omega),List.take_succ_eq_append_getElem h,List.map_append];simp[Hn]
  have D:∀ f:List UInt8→Option R,Ass (List.drop (j*22) (List.flatMap UnitD.av c.units.l)) f=f c.units.l[j].name:=fun f=>by rw[Bn Qj _ _ h];simp[UnitD.av,IF]
  rw[IG,Jp h,ct,IG,Aa h,ct,Int.toNat_natCast,D,b3,ct,C,Fi (by omega),SC A m (j+1) fuel (by omega) (by omega)]
theorem yL {N:Nat} {c:CaseD} {o:Bool} {K:Nat→List AV→Option R} (hs:Small c N):Hi N c.av o 3 K=K (c.units.l.map (·.name)).length (Hn (c.units.l.map (·.name))):=by
 rw[Jy];unfold Mb
 have:=SC (R:=R) (N:=N) (c:=c) (o:=o) (K:=K) hs.top.2.2.1 c.units.l.length 0 N (by omega) hs.uni.1
 simpa[Hn] using this
theorem MI {N:Nat} {c:CaseD} {o:Bool} {K:Nat→List AV→Option R} (A:c.stores.l.length≤1000000):∀ (m j fuel:Nat),j+m=c.stores.l.length→m<fuel →
  L8 N K o c.av fuel j (j:Int) (Hn ((c.stores.l.take j).map (·.name)))=K c.stores.l.length (Hn (c.stores.l.map (·.name)))
 | 0,j,fuel+1,B,_=>by
  rw[L8];unfold X0
  have k:j=c.stores.l.length:=by omega
  rw[EF,Lb (by omega),cf,List.take_of_length_le (by omega),k]
 | m+1,j,fuel+1,B,F=>by
  rw[L8];unfold X0
  have h:j<c.stores.l.length:=by omega
  have b3:(Nat.ble (j+1) 140737488355328&&Nat.ble ((j+1)*16) 140737488355328)=true:=by rw[E9,E9];simp;omega
  have C:List.take (j*1) (Hn ((c.stores.l.take j).map (·.name)))++[.str c.stores.l[j].name]=Hn ((c.stores.l.take (j+1)).map (·.name)):=by
   rw[List.take_of_length_le (by simp[Tv];omega),List.take_succ_eq_append_getElem h,List.map_append];simp[Hn]
  have D:∀ f:List UInt8→Option R,Ass (List.drop (j*9) (List.flatMap StoreD.av c.stores.l)) f=f c.stores.l[j].name:=fun f=>by rw[Bn Pn _ _ h];simp[StoreD.av,IF]
  rw[EF,Jp h,ct,EF,Aa h,ct,Int.toNat_natCast,D,b3,ct,C,Fi (by omega),MI A m (j+1) fuel (by omega) (by omega)]
theorem r8 {N:Nat} {c:CaseD} {o:Bool} {K:Nat→List AV→Option R} (hs:Small c N):Hi N c.av o 4 K=K (c.stores.l.map (·.name)).length (Hn (c.stores.l.map (·.name))):=by
 rw[Jy];unfold Mb
 have:=MI (R:=R) (N:=N) (c:=c) (o:=o) (K:=K) hs.top.2.2.2.1 c.stores.l.length 0 N (by omega) hs.sto.1
 simpa[Hn] using this
theorem aF {N:Nat} {c:CaseD} {o:Bool} {K:Nat→List AV→Option R} (A:c.ties.l.length≤1000000):∀ (m j fuel:Nat),j+m=c.ties.l.length→m<fuel →
  L9 N K o c.av fuel j (j:Int) (Hn ((c.ties.l.take j).map (·.name)))=K c.ties.l.length (Hn (c.ties.l.map (·.name)))
 | 0,j,fuel+1,B,_=>by
  rw[L9];unfold X1
  have k:j=c.ties.l.length:=by omega
  rw[gp,Lb (by omega),cf,List.take_of_length_le (by omega),k]
 | m+1,j,fuel+1,B,F=>by
  rw[L9];unfold X1
  have h:j<c.ties.l.length:=by omega
  have b3:(Nat.ble (j+1) 140737488355328&&Nat.ble ((j+1)*16) 140737488355328)=true:=by rw[E9,E9];simp;omega
  have C:List.take (j*1) (Hn ((c.ties.l.take j).map (·.name)))++[.str c.ties.l[j].name]=Hn ((c.ties.l.take (j+1)).map (·.name)):=by
   rw[List.take_of_length_le (by simp[Tv];omega),List.take_succ_eq_append_getElem h,List.map_append];simp[Hn]
  have D:∀ f:List UInt8→Option R,Ass (List.drop (j*5) (List.flatMap TieD.av c.ties.l)) f=f c.ties.l[j].name:=fun f=>by rw[Bn Zy _ _ h];simp[TieD.av,IF]
  rw[gp,Jp h,ct,gp,Aa h,ct,Int.toNat_natCast,D,b3,ct,C,Fi (by omega),aF A m (j+1) fuel (by omega) (by omega)]
theorem Aia {N:Nat} {c:CaseD} {o:Bool} {K:Nat→List AV→Option R} (hs:Small c N):Hi N c.av o 5 K=K (c.ties.l.map (·.name)).length (Hn (c.ties.l.map (·.name))):=by
 rw[Jy];unfold Mb
 have:=aF (R:=R) (N:=N) (c:=c) (o:=o) (K:=K) hs.top.2.2.2.2.1 c.ties.l.length 0 N (by omega) hs.tie.1
 simpa[Hn] using this
theorem aG {N:Nat} {c:CaseD} {o:Bool} {K:Nat→List AV→Option R} (A:c.outs.l.length≤1000000):∀ (m j fuel:Nat),j+m=c.outs.l.length→m<fuel →
  Ma N K o c.av fuel j (j:Int) (Hn ((c.outs.l.take j).map (·.name)))=K c.outs.l.length (Hn (c.outs.l.map (·.name)))
 | 0,j,fuel+1,B,_=>by
  rw[Ma];unfold X2
  have k:j=c.outs.l.length:=by omega
  rw[DO,Lb (by omega),cf,List.take_of_length_le (by omega),k]
 | m+1,j,fuel+1,B,F=>by
  rw[Ma];unfold X2
  have h:j<c.outs.l.length:=by omega
  have b3:(Nat.ble (j+1) 140737488355328&&Nat.ble ((j+1)*16) 140737488355328)=true:=by rw[E9,E9];simp;omega
  have C:List.take (j*1) (Hn ((c.outs.l.take j).map (·.name)))++[.str c.outs.l[j].name]=Hn ((c.outs.l.take (j+1)).map (·.name)):=by
   rw[List.take_of_length_le (by simp[Tv];omega),List.take_succ_eq_append_getElem h,List.map_append];simp[Hn]
  have D:∀ f:List UInt8→Option R,Ass (List.drop (j*4) (List.flatMap OutD.av c.outs.l)) f=f c.outs.l[j].name:=fun f=>by rw[Bn Po _ _ h];simp[OutD.av,IF]
  rw[DO,Jp h,ct,DO,Aa h,ct,Int.toNat_natCast,D,b3,ct,C,Fi (by omega),aG A m (j+1) fuel (by omega) (by omega)]
theorem Aib {N:Nat} {c:CaseD} {o:Bool} {K:Nat→List AV→Option R} (hs:Small c N):Hi N c.av o 6 K=K (c.outs.l.map (·.name)).length (Hn (c.outs.l.map (·.name))):=by
 rw[Jy];unfold Mb
 have:=aG (R:=R) (N:=N) (c:=c) (o:=o) (K:=K) hs.top.2.2.2.2.2 c.outs.l.length 0 N (by omega) hs.out.1
 simpa[Hn] using this
theorem Vw {N:Nat} {L:List (List UInt8)} {k:Int} {n:Nat} {K:List AV→Option R} (hn:n<L.length) (hs:n<4611686018427387904):∀ (m j fuel:Nat) (p:J5),j+m=n→m<fuel →
  Du N K k (n:Int) L.length (Hn L) fuel (j:Int) (C8 p)=K (C8 (nd p (((L.take n).drop j).all fun x=>!(x==L[n])) (k,n,0) ⟨10,by decide⟩))
 | 0,j,fuel+1,p,A,_=>by
  rw[Du];unfold Je
  rw[Lb (by omega),cf,Fw (l:=L.take n) (by simp;omega),List.all_nil,VT]
 | m+1,j,fuel+1,p,A,C=>by
  rw[Du];unfold Je
  have h:j<L.length:=by omega
  have B:j<(L.take n).length:=by simp;omega
  rw[Jp (by omega),ct,Aa h,ct,Int.toNat_natCast,Nat.zero_add,Nat.mul_one,Ah9 h,Aa hn,ct,Int.toNat_natCast,Nat.zero_add,Nat.mul_one,Ah9 hn,Ag (by decide),Fi (by omega),Vw hn hs m (j+1) fuel _ (by omega) (by omega),Eg B,List.all_cons,Aw5]
  have e:(L.take n)[j]=L[j]:=by simp
  rw[e]
theorem D0 {N:Nat} {c:CaseD} {L:List (List UInt8)} {o:Bool} {p:J5} {k:Int} {n:Nat} {K:List AV→Option R} (hN:64≤N) (hL:∀ K:Nat→List AV→Option R,Hi N c.av o k K=K L.length (Hn L)) (hn:n<L.length) (hs:S5 n N) :
  Cj N c.av o k (n:Int) (C8 p) K=K (C8 (r7 (L.take n) k n L[n] p)):=by
 rw[Y7];unfold N1
 rw[F4,Pq,ct,hL,Aa hn,ct,Int.toNat_natCast,Nat.zero_add,Nat.mul_one,Ah9 hn,Ak6 hN,Ag (by decide)]
 have:=Vw (R:=R) (N:=N) (L:=L) (k:=k) (n:=n) (K:=K) hn hs.2 n 0 N (nd p (Ask L[n]) (k,n,0) ⟨9,by decide⟩) (by omega) hs.1
 simpa[r7] using this
theorem VX {N fuel:Nat} {c:CaseD} {o:Bool} {p:J5} {K:List AV→Option R} (hs:Small c N):Bl N K o c.av (fuel+6) 2 (C8 p)=K (C8
  (nd (nd (nd (nd (nd p (decide ((c.lines.l.length:Int)≤64)) (0,0,3) e8) (decide ((c.units.l.length:Int)≤16)) (0,0,4) e8) (decide ((c.stores.l.length:Int)≤8)) (0,0,5) e8) (decide ((c.ties.l.length:Int)≤8)) (0,0,6) e8) (decide ((c.outs.l.length:Int)≤64)) (0,0,7) e8)):=by
 have most:∀ (k:Nat) (n:Int) (K:Int→Option R),k<7→([0,32,64,16,8,8,64]:List Int)[k]?=some n→O2 N (k:Int) K=K n:=by
  intro k n K A B
  rw[qV];unfold tP
  rw[Aa A,ct]
  have e:[(.int .i64 (0:Int)),(.int .i64 (32:Int)),(.int .i64 (64:Int)),(.int .i64 (16:Int)),(.int .i64 (8:Int)),(.int .i64 (8:Int)),(.int .i64 (64:Int))]=Av [0,32,64,16,8,8,64]:=rfl
  rw[e,Int.toNat_natCast,Nat.zero_add,Nat.mul_one,PW (by simpa using A)]
  rw[List.getElem?_eq_getElem (by simpa using A)] at B
  simp only[Option.some.injEq] at B
  rw[B]
 have m2:∀ K:Int→Option R,O2 N 2 K=K 64:=fun K=>most 2 64 K (by omega) rfl
 have m3:∀ K:Int→Option R,O2 N 3 K=K 16:=fun K=>most 3 16 K (by omega) rfl
 have m4:∀ K:Int→Option R,O2 N 4 K=K 8:=fun K=>most 4 8 K (by omega) rfl
 have m5:∀ K:Int→Option R,O2 N 5 K=K 8:=fun K=>most 5 8 K (by omega) rfl
 have m6:∀ K:Int→Option R,O2 N 6 K=K 64:=fun K=>most 6 64 K (by omega) rfl
 have C:IntKind.wrap .i64 (2+1)=3:=rfl
 have w3:IntKind.wrap .i64 (3+1)=4:=rfl
 have D:IntKind.wrap .i64 (4+1)=5:=rfl
 have F:IntKind.wrap .i64 (5+1)=6:=rfl
 have G:IntKind.wrap .i64 (6+1)=7:=rfl
 rw[Bl];unfold Ch
 rw[show decide ((2:Int)≤6)=true from rfl,ct,Pq,ct,F4,yK hs,m2,Ag (by decide),C]
 rw[Bl];unfold Ch
 rw[show decide ((3:Int)≤6)=true from rfl,ct,Pq,ct,F4,yL hs,m3,Ag (by decide),w3]
 rw[Bl];unfold Ch
 rw[show decide ((4:Int)≤6)=true from rfl,ct,Pq,ct,F4,r8 hs,m4,Ag (by decide),D]
 rw[Bl];unfold Ch
 rw[show decide ((5:Int)≤6)=true from rfl,ct,Pq,ct,F4,Aia hs,m5,Ag (by decide),F]
 rw[Bl];unfold Ch
 rw[show decide ((6:Int)≤6)=true from rfl,ct,Pq,ct,F4,Aib hs,m6,Ag (by decide),G]
 rw[Bl];unfold Ch
 rw[show decide ((7:Int)≤6)=false from rfl,cf]
 simp only[List.length_map]
theorem VY {N:Nat} {c:CaseD} {o:Bool} {p:J5} {K:List AV→Option R} (hs:Small c N):Gi N c.av o (C8 p) K=K (C8 (A1c c p)):=by
 have hN:=hs.n64
 rw[Vn];unfold Mc
 have:=fun p=>VX (fuel:=N - 6) (o:=o) (p:=p) (K:=K) hs
 rw[show N - 6+6=N by omega] at this
 simp only[RZ,D7 (show 8≤N by omega),Ag (show(3:Int)≠0 by decide),Ag (show(8:Int)≠0 by decide),Pq,ct,F4,A1a,Vd,Ei rfl hs.res,this]
 rfl
end
end Gx.Cf

namespace Gx.Cf
open Go Go.Proofs
section
variable {R:Type}
theorem NK {p:J5} {f:Int→Option R}:Ao .i64 (List.drop 3 (C8 p)) f=f (Ii p):=by
 rcases p with _ | ⟨⟨a,b,f'⟩,e,k⟩<;>simp[C8,A8b,Az,Ii]
theorem Nq {N:Nat} {i:Int} {u:UnitD} {o:Bool} {p:J5} {K:List AV→Option R} (hs:u.segs.l.length<4611686018427387904):∀ (m j fuel:Nat) (a:Int),j+m=u.segs.l.length→m<fuel →
  C7 N K i (C8 p) o u.av fuel a (j:Int)=K (C8 (nd p (VV a (u.segs.l.drop j)==IntKind.wrap .i64 (u.max - u.min)) (3,i,4) e4))
 | 0,j,fuel+1,a,A,_=>by
  rw[C7];unfold F0
  simp only[tn,Baw,Bax,NK,Ag (show(4:Int)≠0 by decide)]
  rw[Lb (by omega),Fw (l:=u.segs.l) (by omega),VV,VT]
  rcases p with _ | ⟨x,e,k⟩
  ·simp[Ii]
  ·have:(e != 0)=true:=by simpa using k
   simp[Ii,this,nd]
 | m+1,j,fuel+1,a,A,D=>by
  rw[C7];unfold F0
  have h:j<u.segs.l.length:=by omega
  simp only[tn,Baw,Bax,NK,Ag (show(4:Int)≠0 by decide),A50 h,Aa h]
  rw[Jp h,Fi (by omega),Nq hs m (j+1) fuel _ (by omega) (by omega),Eg h,VV,VT]
  rcases p with _ | ⟨x,e,k⟩
  ·simp[Ii]
  ·have B:(e != 0)=true:=by simpa using k
   have C:(e==0)=false:=by simpa using k
   simp[Ii,B,C,nd]
theorem Vx {N:Nat} {i:Int} {u:UnitD} {o:Bool} {K:List AV→Option R} (hs:S5 u.segs.l.length N):∀ (m j fuel:Nat) (p:J5),j+1+m=u.segs.l.length→m<fuel →
  Ck N K i o u.av fuel ((j+1:Nat):Int) (C8 p)=K (C8 (nd (nd p (f6 (u.segs.l.drop j)) (3,i,4) Bb3) (VV 0 u.segs.l==IntKind.wrap .i64 (u.max - u.min)) (3,i,4) e4))
 | 0,j,fuel+1,p,k,_=>by
  rw[Ck];unfold D4
  rw[tn,Lb (by omega),cf,Eg (l:=u.segs.l) (j:=j) (by omega),Fw (l:=u.segs.l) (j:=j+1) (by omega),Ah8,VT]
  have:=Nq (R:=R) (N:=N) (i:=i) (u:=u) (o:=o) (p:=p) (K:=K) hs.2 u.segs.l.length 0 N 0 (by omega) hs.1
  simpa using this
 | m+1,j,fuel+1,p,k,B=>by
  rw[Ck];unfold D4
  have h:j+1<u.segs.l.length:=by omega
  have h':j<u.segs.l.length:=by omega
  have A:=hs.2
  simp only[tn]
  rw[Jp h,ct,Aa h,ct,Aoi h,Ah5 (by omega),Aa h',ct,Aoi h',Fi (by omega),Ag (by decide),Vx hs m (j+1) fuel _ (by omega) (by omega),Eg h',Eg h,VW,Aw5]
theorem Vy {N:Nat} {i:Int} {u:UnitD} {o:Bool} {K:List AV→Option R} (hN:8≤N) (hs:S5 u.segs.l.length N):∀ (m j fuel:Nat) (p:J5),j+m=u.segs.l.length→m<fuel →
  Cl N K i (u.segs.l.flatMap SegD.av) u.segs.l.length o u.av fuel (u.segs.l.length:Int) (j:Int) (C8 p) =
   K (C8 (nd (nd (nd p ((u.segs.l.drop j).all Gh) (3,i,4) e3) (f6 u.segs.l) (3,i,4) Bb3) (VV 0 u.segs.l==IntKind.wrap .i64 (u.max - u.min)) (3,i,4) e4))
 | 0,j,fuel+1,p,A,_=>by
  rw[Cl];unfold F1
  rw[Lb (by omega),cf,Fw (l:=u.segs.l) (by omega),List.all_nil,VT]
  rcases k:u.segs.l with _ | ⟨b,r⟩
  ·rw[Aw6,VT]
   have l2:=Nq (R:=R) (N:=N) (i:=i) (u:=u) (o:=o) (p:=p) (K:=K) hs.2 u.segs.l.length 0 N 0 (by omega) hs.1
   rcases N with _ | N
   ·omega
   ·dsimp only
    rw[Ck];unfold D4
    rw[tn,k]
    simp only[List.length_nil,Int.natCast_zero]
    rw[show decide ((1:Int)<0)=false by decide,cf]
    rw[k] at l2
    simpa using l2
  ·have:=Vx (R:=R) (N:=N) (i:=i) (u:=u) (o:=o) (K:=K) hs r.length 0 N p (by rw[k];simp;omega) (by have:=hs.1;rw[k] at this;simp at this;omega)
   rw[k] at this
   simpa using this
 | m+1,j,fuel+1,p,A,F=>by
  rw[Cl];unfold F1
  have h:j<u.segs.l.length:=by omega
  have B:=hs.2
  rw[Jp h,ct,Aa h,ct,Int.toNat_natCast,Bn IH _ _ h,Eg h,List.all_cons,Fi (by omega)]
  have C:Nat.ble 2 (List.length (u.segs.l[j].av++List.flatMap SegD.av (List.drop (j+1) u.segs.l)))=true:=by rw[E9,List.length_append,IH];simp
  have D:List.take 2 (u.segs.l[j].av++List.flatMap SegD.av (List.drop (j+1) u.segs.l))=u.segs.l[j].av:=List.take_left' (IH _)
  rw[C,ct,D,IH]
  simp only[SegD.av,setCells,Cr,List.nil_append,List.append_nil,List.drop_nil,List.drop_succ_cons,List.drop_zero,List.take_zero,List.length_cons,List.length_nil,Az,E9,Ash,Bd,Nat.reduceAdd,decide_true,Bool.and_true,Bool.or_true,Bool.not_false,cond_true,Nat.zero_add,Nat.le_refl,D7 hN,Ag (show(3:Int)≠0 by decide),Vy hN hs m (j+1) fuel _ (show j+1+m=_ by omega) (show m<fuel by omega)]
  unfold Gh
  rw[Aw5,Aw5]
  cases Fj 1 1048576 u.segs.l[j].width<;>rfl
theorem IL {N:Nat} {p:J5} {j:Nat} {u:UnitD} {o:Bool} {K:List AV→Option R} (hN:8≤N) (hs:S5 u.segs.l.length N) :
  De N u.av o (j:Int) (C8 p) K=K (C8 (A8c u j p)):=by
 rw[Ri];unfold Ib
 simp only[tn,Ag (show(8:Int)≠0 by decide)]
 have:=Vy (R:=R) (N:=N) (i:=j) (u:=u) (o:=o) (K:=K) hN hs u.segs.l.length 0 N (nd p (decide ((u.segs.l.length:Int)≤8)) (3,j,4) e8) (by omega) hs.1
 simpa[A8c] using this
theorem Zz {N:Nat} {i:Int} {l:List MoveD} {o:Bool} {K:List AV→Option R} (hN:8≤N) (hs:l.length<4611686018427387904):∀ (m j fuel:Nat) (p:J5),j+m=l.length→m<fuel →
  Dy N K i (l.flatMap MoveD.av) l.length o fuel (l.length:Int) (j:Int) (C8 p)=K (C8 (nd p ((l.drop j).all A51) (6,i,3) e3))
 | 0,j,fuel+1,p,k,_=>by
  rw[Dy];unfold G4
  rw[Lb (by omega),cf,Fw (by omega),List.all_nil,VT]
 | m+1,j,fuel+1,p,k,C=>by
  rw[Dy];unfold G4
  have h:j<l.length:=by omega
  rw[Jp h,ct,Aa h,ct,Int.toNat_natCast,Bn Qk _ _ h,Eg h,List.all_cons,Fi (by omega)]
  have A:Nat.ble 3 (List.length (l[j].av++List.flatMap MoveD.av (List.drop (j+1) l)))=true:=by rw[E9,List.length_append,Qk];simp
  have B:List.take 3 (l[j].av++List.flatMap MoveD.av (List.drop (j+1) l))=l[j].av:=List.take_left' (Qk _)
  rw[A,ct,B,Qk]
  simp only[MoveD.av,setCells,Cr,List.nil_append,List.append_nil,List.drop_nil,List.drop_succ_cons,List.drop_zero,List.take_zero,List.length_cons,List.length_nil,Az,E9,Ash,Bd,Nat.reduceAdd,decide_true,Bool.and_true,Bool.or_true,Bool.not_false,cond_true,Nat.zero_add,Nat.le_refl,z6 hN,Ag (show(3:Int)≠0 by decide),Zz hN hs m (j+1) fuel _ (show j+1+m=_ by omega) (show m<fuel by omega)]
  rw[Aw5];rfl
theorem Z0 {N:Nat} {c:CaseD} {i:Int} {u:OutD} {o:Bool} {p:J5} {K:List AV→Option R} (hN:8≤N) (k:c.units.l.length≤1000000) (hs:S5 u.moves.l.length N) (A:u.moves.l.length<8796093022208):∀ (m j fuel:Nat),j+m=u.moves.l.length→m<fuel →
  Dz N K i (u.moves.l.flatMap MoveD.av) u.moves.l.length o (C8 p) c.av u.av fuel j (u.moves.l.length:Int) (j:Int) (Av ((u.moves.l.take j).map (·.unit))) =
   K (C8 (nd (nd (nd p (u.moves.l.all (A9x c)) (6,i,3) A5z) (Aim (u.moves.l.map (·.unit))) (6,i,3) Bb3) (u.moves.l.all A51) (6,i,3) e3))
 | 0,j,fuel+1,B,_=>by
  rw[Dz];unfold G5
  have C:j=u.moves.l.length:=by omega
  rw[Lb (by omega),cf,Nat.mul_one,List.take_of_length_le (by simp[Ef];omega),List.take_of_length_le (show u.moves.l.length≤j by omega)]
  rw[IG,Hl (by simp;omega) (by simpa using hs),Ag (by decide),AL (by simp;omega) (by simpa using hs),Ag (by decide),A2s]
  have:=Zz (R:=R) (N:=N) (i:=i) (l:=u.moves.l) (o:=o) (K:=K) hN hs.2 u.moves.l.length 0 N (nd (nd p (u.moves.l.all (A9x c)) (6,i,3) A5z) (Aim (u.moves.l.map (·.unit))) (6,i,3) Bb3) (by omega) hs.1
  have e:(u.moves.l.map (·.unit)).all (Fj 0 (IntKind.wrap .i64 ((c.units.l.length:Int) - 1)))=u.moves.l.all (A9x c):=by
   rw[List.all_map];congr 1;funext m;exact A1b _ _ (by omega)
  rw[e]
  simpa using this
 | m+1,j,fuel+1,B,I=>by
  rw[Dz];unfold G5
  have h:j<u.moves.l.length:=by omega
  have D:Nat.ble 3 (List.length (u.moves.l[j].av++List.flatMap MoveD.av (List.drop (j+1) u.moves.l)))=true:=by rw[E9,List.length_append,Qk];simp
  have F:List.take 3 (u.moves.l[j].av++List.flatMap MoveD.av (List.drop (j+1) u.moves.l))=u.moves.l[j].av:=List.take_left' (Qk _)
  have b3:(decide (j≤140737488355327)&&decide ((j+1)*8≤140737488355328))=true:=by simp;omega
  have G:List.take (j*1) (Av ((u.moves.l.take j).map (·.unit)))++[.int .i64 u.moves.l[j].unit]=Av ((u.moves.l.take (j+1)).map (·.unit)):=by
   rw[List.take_of_length_le (by simp[Ef];omega),List.take_succ_eq_append_getElem h,List.map_append,←yI];rfl
  rw[Jp h,ct,Aa h,ct,Int.toNat_natCast,Bn Qk _ _ h,Fi (by omega),D,ct,F,Qk]
  simp only[MoveD.av,setCells,Cr,List.nil_append,List.append_nil,List.drop_nil,List.drop_succ_cons,List.take_zero,List.length_cons,List.length_nil,Az,E9,Ash,Bd,Nat.reduceAdd,Nat.reduceLeDiff,decide_true,Bool.and_true,Bool.or_true,Bool.not_false,cond_true,Nat.zero_add,Nat.le_refl,b3,G,Z0 hN k hs A m (j+1) fuel (show j+1+m=_ by omega) (show m<fuel by omega)]
theorem f7 {N:Nat} {c:CaseD} {p:J5} {o:Bool} {j:Nat} {K:List AV→Option R} (hs:Small c N) (h:j<c.ties.l.length) :
  Iz N c.av o (j:Int) (C8 p) K=K (C8 (A9w c j c.ties.l[j] p)):=by
 have hN:=hs.n64
 have hN8:8≤N:=by omega
 have A:=hs.tie
 have I:=hs.top
 have C:c.ties.l[j] ∈ c.ties.l:=List.getElem_mem h
 have L:=hs.tim _ C;have D:=hs.tex _ C;have F:=hs.tpr _ C
 have B:=@D0 R N c (c.ties.l.map (·.name)) o (k:=5) (n:=j) (hN:=hN) (hL:=fun K=>Aia hs) (hn:=by simpa using h) (hs:=⟨by have:=A.1;omega,by have:=A.2;omega⟩)
 have G:(c.ties.l.map (·.name))[j]'(by simpa using h)=c.ties.l[j].name:=by simp
 rw[G] at B
 rw[CB];unfold Ww 
 rw[gp,Aa h,ct,Int.toNat_natCast,Bn Zy _ _ h]
 generalize c.ties.l[j]=b at *
 have M:Nat.ble 5 (List.length (b.av++List.flatMap TieD.av (List.drop (j+1) c.ties.l)))=true:=by rw[E9,List.length_append,Zy];simp
 have O:List.take 5 (b.av++List.flatMap TieD.av (List.drop (j+1) c.ties.l))=b.av:=List.take_left' (Zy b)
 rw[M,ct,O,Zy]
 simp only[F4,B,TieD.av,List.drop_succ_cons,List.drop_zero,Az,Hz,Ee,E9,Ash,decide_true,Bool.and_true,cond_true]
 simp only[Jj hN8 (show c.buses.l.length<4611686018427387904 by omega),Ei rfl L,Ei rfl D,Ei rfl F]
 rfl
theorem VZ {N:Nat} {c:CaseD} {p:J5} {o:Bool} {j:Nat} {K:List AV→Option R} (hs:Small c N) (h:j<c.stores.l.length) :
  Gj N c.av o (j:Int) (C8 p) K=K (C8 (Ah7 c j c.stores.l[j] p)):=by
 have hN:=hs.n64
 have hN8:8≤N:=by omega
 have A:=hs.sto
 have D:=hs.top
 have I:c.stores.l[j] ∈ c.stores.l:=List.getElem_mem h
 skip
 have B:=@D0 R N c (c.stores.l.map (·.name)) o (k:=4) (n:=j) (hN:=hN) (hL:=fun K=>r8 hs) (hn:=by simpa using h) (hs:=⟨by have:=A.1;omega,by have:=A.2;omega⟩)
 have C:(c.stores.l.map (·.name))[j]'(by simpa using h)=c.stores.l[j].name:=by simp
 rw[C] at B
 rw[Vp];unfold Sp 
 rw[EF,Aa h,ct,Int.toNat_natCast,Bn Pn _ _ h]
 generalize c.stores.l[j]=b at *
 have F:Nat.ble 9 (List.length (b.av++List.flatMap StoreD.av (List.drop (j+1) c.stores.l)))=true:=by rw[E9,List.length_append,Pn];simp
 have G:List.take 9 (b.av++List.flatMap StoreD.av (List.drop (j+1) c.stores.l))=b.av:=List.take_left' (Pn b)
 rw[F,ct,G,Pn]
 simp only[F4,B,StoreD.av,List.drop_succ_cons,List.drop_zero,List.take_succ_cons,List.take_zero,List.length_cons,List.length_nil,Az,E9,Ash,Bd,Nat.reduceAdd,decide_true,Bool.and_true,Bool.or_true,cond_true,Nat.zero_add,Nat.le_refl]
 simp only[Jj hN8 (show c.buses.l.length<4611686018427387904 by omega),D7 hN8,Ag (show(3:Int)≠0 by decide),MH hN8]
 unfold Ah7;cases S6 b.eff<;>cases decide (b.eff.num>0)<;>rfl
theorem aS {N:Nat} {c:CaseD} {p:J5} {o:Bool} {j:Nat} {K:List AV→Option R} (hs:Small c N) (h:j<c.lines.l.length) :
  Hj N c.av o (j:Int) (C8 p) K=K (C8 (Aoh c j c.lines.l[j] p)):=by
 have hN:=hs.n64
 have hN8:8≤N:=by omega
 have A:=hs.lin
 have D:=hs.top
 have F:c.lines.l[j] ∈ c.lines.l:=List.getElem_mem h
 have G:=hs.law _ F
 have B:=@D0 R N c (c.lines.l.map (·.name)) o (k:=2) (n:=j) (hN:=hN) (hL:=fun K=>yK hs) (hn:=by simpa using h) (hs:=⟨by have:=A.1;omega,by have:=A.2;omega⟩)
 have C:(c.lines.l.map (·.name))[j]'(by simpa using h)=c.lines.l[j].name:=by simp
 rw[C] at B
 rw[Zb];unfold N2 Kd O7 Qu O6 Qt
 rw[Ro,Aa h,ct,Int.toNat_natCast,Bn Hm _ _ h]
 generalize c.lines.l[j]=b at *
 have I:Nat.ble 12 (List.length (b.av++List.flatMap LineD.av (List.drop (j+1) c.lines.l)))=true:=by rw[E9,List.length_append,Hm];simp
 have L:List.take 12 (b.av++List.flatMap LineD.av (List.drop (j+1) c.lines.l))=b.av:=List.take_left' (Hm b)
 rw[I,ct,L,Hm]
 simp only[F4,B,LineD.av,List.drop_succ_cons,List.drop_zero,List.take_succ_cons,List.take_zero,List.length_cons,List.length_nil,Az,Hz,Ee,E9,Ash,Bd,Nat.reduceAdd,Nat.reduceLeDiff,decide_true,Bool.and_true,Bool.or_true,cond_true,Nat.zero_add]
 simp only[Jj hN8 (show c.buses.l.length<4611686018427387904 by omega),D7 hN8,Ag (show(1:Int)≠0 by decide),Ag (show(3:Int)≠0 by decide),MH hN8,Vv rfl G]
 unfold Aoh;rw[show(b.fr != b.to)=(b.to != b.fr) by simp[bne,BEq.comm (a:=b.fr)]];cases S6 b.re<;>cases S6 b.smin<;>cases S6 b.smax<;>rfl
end
end Gx.Cf

namespace Gx.Cf
open Go Go.Proofs
section
variable {R:Type}
def A2t (c:CaseD) (j:Nat) (u:UnitD) (p:J5):J5 :=
 let p:=r7 ((c.units.l.map (·.name)).take j) 3 j u.name p
 let p:=nd p (yJ c u.bus) (3,j,1) A5z
 let p:=nd p (Fj 0 1048576 u.min) (3,j,2) e3
 let p:=nd p (Fj u.min 1048576 u.max) (3,j,3) e3
 let p:=A8c u j p
 let p:=nd p (Fj 0 1048576 u.noLoad) (3,j,5) e3
 let p:=nd p (Fj 0 1048576 u.rampUp) (3,j,6) e3
 let p:=nd p (Fj 0 1048576 u.rampDown) (3,j,7) e3
 let p:=nd p (Fj u.min u.max u.startRamp) (3,j,8) e3
 let p:=nd p (Fj u.min u.max u.stopRamp) (3,j,9) e3
 let p:=nd p (Fj 0 24 u.upTime) (3,j,10) e3
 nd p (Fj 0 24 u.downTime) (3,j,11) e3
def A8d (c:CaseD) (j:Nat) (u:UnitD) (p:J5):J5 :=
 let p:=nd p (Fj 0 24 u.startTime) (3,j,12) e3
 let p:=nd p (Fj 0 1048576 u.hotCost) (3,j,13) e3
 let p:=nd p (Fj 0 1048576 u.coldCost) (3,j,14) e3
 let p:=nd p (Fj 0 24 u.hotHours) (3,j,15) e3
 let p:=nd p (Fj 0 1048576 u.reserve) (3,j,16) e3
 let p:=nd p (Fj 0 1048576 u.reservePrice) (3,j,17) e3
 let p:=Ah6 c.hours u.away.l (3,j,18) p
 let p:=nd p (Fj 0 2 u.state) (3,j,19) A5z
 let p:=nd p (u.state != 1||decide (u.startTime>0)) (3,j,19) Bc2
 let p:=nd p (Fj 1 48 u.hours) (3,j,20) e3
 let p:=nd p (u.state != 1||decide (u.hours≤u.startTime)) (3,j,20) e3
 cond (u.state==2) (nd p (Fj u.min u.max u.output) (3,j,21) e3) (nd p (u.output==0) (3,j,21) e3)
theorem Bcs (n:Int):Fj 0 0 n=(n==0):=by
 unfold Fj
 by_cases h:n=0
 ·simp[h]
 ·have:(n==0)=false:=by simpa using h
  rw[this];simp;omega
theorem A9z {c:CaseD} {j:Nat} {u:UnitD} {p:J5}:A8d c j u (A2t c j u p)=Aw7 c j u p:=by
 show _=(let p:=nd (A2t c j u p) (Fj 0 24 u.startTime) (3,j,12) e3
  let p:=nd p (Fj 0 1048576 u.hotCost) (3,j,13) e3
  let p:=nd p (Fj 0 1048576 u.coldCost) (3,j,14) e3
  let p:=nd p (Fj 0 24 u.hotHours) (3,j,15) e3
  let p:=nd p (Fj 0 1048576 u.reserve) (3,j,16) e3
  let p:=nd p (Fj 0 1048576 u.reservePrice) (3,j,17) e3
  let p:=Ah6 c.hours u.away.l (3,j,18) p
  let p:=nd p (Fj 0 2 u.state) (3,j,19) A5z
  let p:=nd p (u.state != 1||u.startTime != 0) (3,j,19) Bc2
  let p:=nd p (Fj 1 48 u.hours) (3,j,20) e3
  let p:=nd p (u.state != 1||decide (u.hours≤u.startTime)) (3,j,20) e3
  cond (u.state==2) (nd p (Fj u.min u.max u.output) (3,j,21) e3) (nd p (Fj 0 0 u.output) (3,j,21) e3))
 unfold A8d
 rw[Bcs]
 cases A:nd (A2t c j u p) (Fj 0 24 u.startTime) (3,(j:Int),12) e3 with
 | some x=>simp only[A9u,Ah6]
 | none =>
  have k:Fj 0 24 u.startTime=true:=by
   cases B:Fj 0 24 u.startTime with
   | true=>rfl
   | false =>
    rw[B] at A
    cases C:A2t c j u p<;>rw[C] at A<;>simp[nd] at A
  have:decide (u.startTime>0)=(u.startTime != 0):=by
   unfold Fj at k
   simp at k
   by_cases h:u.startTime=0
   ·simp[h]
   ·have D:(u.startTime != 0)=true:=by simpa using h
    rw[D];simp;omega
  rw[this]
theorem aT {N:Nat} {c:CaseD} {p:J5} {o:Bool} {j:Nat} {K:List AV→Option R} (hs:Small c N) (h:j<c.units.l.length) :
  Hk N c.av o (j:Int) (C8 p) K=K (C8 (Aw7 c j c.units.l[j] p)):=by
 have hN:=hs.n64
 have hN8:8≤N:=by omega
 have A:=hs.uni
 have G:=hs.top
 have I:c.units.l[j] ∈ c.units.l:=List.getElem_mem h
 have L:=hs.seg _ I;have C:=hs.uaw _ I
 have B:=@D0 R N c (c.units.l.map (·.name)) o (k:=3) (n:=j) (hN:=hN) (hL:=fun K=>yL hs) (hn:=by simpa using h) (hs:=⟨by have:=A.1;omega,by have:=A.2;omega⟩)
 have D:(c.units.l.map (·.name))[j]'(by simpa using h)=c.units.l[j].name:=by simp
 rw[D] at B
 rw[Zd];unfold N3 Ke Pb Qw
 rw[IG,Aa h,ct,Int.toNat_natCast,Bn Qj _ _ h]
 generalize c.units.l[j]=b at *
 have M:Nat.ble 22 (List.length (b.av++List.flatMap UnitD.av (List.drop (j+1) c.units.l)))=true:=by rw[E9,List.length_append,Qj];simp
 have O:List.take 22 (b.av++List.flatMap UnitD.av (List.drop (j+1) c.units.l))=b.av:=List.take_left' (Qj b)
 rw[M,ct,O,Qj]
 have F:∀ (p:J5) (K:List AV→Option R),De N [.str b.name,.int .i64 b.bus,.int .i64 b.min,.int .i64 b.max,b.segs.av 2 SegD.av,.int .i64 b.noLoad,.int .i64 b.rampUp,.int .i64 b.rampDown,.int .i64 b.startRamp,.int .i64 b.stopRamp,.int .i64 b.upTime,.int .i64 b.downTime,.int .i64 b.startTime,.int .i64 b.hotCost,.int .i64 b.coldCost,.int .i64 b.hotHours,.int .i64 b.reserve,.int .i64 b.reservePrice,b.away.av 1 AE,.int .i64 b.state,.int .i64 b.hours,.int .i64 b.output] o j (C8 p) K=K (C8 (A8c b j p)):=fun p K=>IL hN8 L
 simp only[F4,B,UnitD.av,List.drop_succ_cons,List.drop_zero,List.take_succ_cons,List.take_zero,Az,Hz,Ee,E9,Ash,decide_true,Bool.and_true,cond_true,cond_false,Nat.le_refl]
 simp only[Jj hN8 (show c.buses.l.length<4611686018427387904 by omega),D7 hN8,Ag (show(3:Int)≠0 by decide),Ag (show(12:Int)≠0 by decide),Ag (show(16:Int)≠0 by decide),F,Vv rfl C]
 rw[←A9z]
 unfold A8d
 by_cases s1:b.state=1
 ·simp[s1];rfl
 ·have a4:(b.state != 1)=true:=by simpa using s1
  rw[a4]
  cases b.state==2<;>rfl
theorem SD {N:Nat} {c:CaseD} {p:J5} {o:Bool} {j:Nat} {K:List AV→Option R} (hs:Small c N) (h:j<c.outs.l.length) :
  Fs N c.av o (j:Int) (C8 p) K=K (C8 (A52 c j c.outs.l[j] p)):=by
 have hN:=hs.n64
 have hN8:8≤N:=by omega
 have A:=hs.out
 have B:=hs.top
 have F:c.outs.l[j] ∈ c.outs.l:=List.getElem_mem h
 have L:=hs.oli _ F;have C:=hs.omo _ F;have G:=hs.omb _ F
 have D:=@D0 R N c (c.outs.l.map (·.name)) o (k:=6) (n:=j) (hN:=hN) (hL:=fun K=>Aib hs) (hn:=by simpa using h) (hs:=⟨by have:=A.1;omega,by have:=A.2;omega⟩)
 have I:(c.outs.l.map (·.name))[j]'(by simpa using h)=c.outs.l[j].name:=by simp
 rw[I] at D
 rw[Uv];unfold Kf Ic Me
 rw[DO,Aa h,ct,Int.toNat_natCast,Bn Po _ _ h]
 generalize c.outs.l[j]=b at *
 have M:Nat.ble 4 (List.length (b.av++List.flatMap OutD.av (List.drop (j+1) c.outs.l)))=true:=by rw[E9,List.length_append,Po];simp
 have O:List.take 4 (b.av++List.flatMap OutD.av (List.drop (j+1) c.outs.l))=b.av:=List.take_left' (Po b)
 rw[M,ct,O,Po]
 have l1:=fun p=>Z0 (R:=R) (N:=N) (c:=c) (i:=j) (u:=b) (o:=o) (p:=p) (K:=K) hN8 B.2.2.1 C G b.moves.l.length 0 N (by omega) C.1
 simp only[List.take_zero,List.map_nil,Int.natCast_zero,Av] at l1
 simp only[Ash,decide_true,Bool.and_true,cond_true,Pq,F4,D,A9y,A2s,Bb4,D7 hN8,Hl rfl L,AL rfl L,Ro,Ag (show(4:Int)≠0 by decide),Ag (show(8:Int)≠0 by decide),Ag (show(11:Int)≠0 by decide),Ag (show(12:Int)≠0 by decide),Ag (show(16:Int)≠0 by decide),l1]
 have a1:Fj 1 2 (b.lines.l.length:Int)=((b.lines.l.length:Int)==1||(b.lines.l.length:Int)==2):=by
  unfold Fj
  by_cases x1:b.lines.l.length=1
  ·simp[x1]
  ·by_cases x2:b.lines.l.length=2
   ·simp[x2]
   ·have y1:((b.lines.l.length:Int)==1)=false:=by simp;omega
    have y2:((b.lines.l.length:Int)==2)=false:=by simp;omega
    rw[y1,y2];simp;omega
 have a2:b.lines.l.all (Fj 0 (IntKind.wrap .i64 ((c.lines.l.length:Int) - 1)))=b.lines.l.all fun n=>decide (0≤n)&&decide (n<(c.lines.l.length:Int)):=by
  congr 1;funext n;exact A1b _ _ (by omega)
 rw[a1,a2]
 unfold A52 A1d
 cases b.corr
 ·simp
 ·simp
end
end Gx.Cf

namespace Gx.Cf
inductive Conn (es:List (Nat×Nat)):Nat→Nat→Prop
 | refl (a:Nat):Conn es a a
 | fwd {u v b:Nat}:(u,v) ∈ es→Conn es v b→Conn es u b
 | bwd {u v b:Nat}:(u,v) ∈ es→Conn es u b→Conn es v b
theorem Conn.trans {es:List (Nat×Nat)} {a b c:Nat} (C:Conn es a b) (k:Conn es b c):Conn es a c:=by
 induction C with
 | refl=>exact k
 | fwd A _ B=>exact .fwd A (B k)
 | bwd A _ B=>exact .bwd A (B k)
theorem Conn.symm {es:List (Nat×Nat)} {a b:Nat} (h:Conn es a b):Conn es b a:=by
 induction h with
 | refl=>exact .refl _
 | fwd k _ A=>exact A.trans (.bwd k (.refl _))
 | bwd k _ A=>exact A.trans (.fwd k (.refl _))
theorem Conn.mono {es fs:List (Nat×Nat)} (hs:∀ e ∈ es,e ∈ fs) {a b:Nat} (h:Conn es a b):Conn fs a b:=by
 induction h with
 | refl=>exact .refl _
 | fwd k _ A=>exact .fwd (hs _ k) A
 | bwd k _ A=>exact .bwd (hs _ k) A
def yM (es:List (Nat×Nat)) (b:Nat):Prop:=∀ a,a<b→¬ Conn es a b
open Classical in
noncomputable def Z1 (n:Nat) (es:List (Nat×Nat)):Nat:=((List.range n).filter fun b=>decide (yM es b)).length
theorem A1e {n:Nat} {es fs:List (Nat×Nat)} (h:∀ e ∈ es,e ∈ fs):Z1 n fs≤Z1 n es:=by
 unfold Z1
 have:∀ (l:List Nat),(l.filter fun b=>@decide (yM fs b) (Classical.propDecidable _)).length≤(l.filter fun b=>@decide (yM es b) (Classical.propDecidable _)).length:=by
  intro l
  induction l with
  | nil=>simp
  | cons a r k =>
   rw[List.filter_cons,List.filter_cons]
   by_cases x:yM fs a
   ·have:yM es a:=fun b A B=>x b A (B.mono h)
    simp[x,this,k]
   ·by_cases y:yM es a<;>simp[x,y]<;>omega
 exact this _
def Rp (n:Nat):List Int:=(List.range n).map fun b:Nat=>(b:Int)
theorem Aoj {n a:Nat} (h:a<n):(Rp n).getD a 0=(a:Int):=by
 rw[List.getD_eq_getElem?_getD,Rp,List.getElem?_map,List.getElem?_range h];rfl
structure LeastOk (n:Nat) (es:List (Nat×Nat)) (L:List Int):Prop where
 len:L.length=n
 low:∀ b,b<n→0≤L.getD b 0∧L.getD b 0≤b
 con:∀ b,b<n→Conn es (L.getD b 0).toNat b
def A2u (es:List (Nat×Nat)) (L:List Int):Prop:=∀ e ∈ es,L.getD e.1 0=L.getD e.2 0
def A90 (L:List Int):Nat:=((List.range L.length).filter fun b=>L.getD b 0==(b:Int)).length
theorem yN {n:Nat} {es:List (Nat×Nat)} {L:List Int} (h:LeastOk n es L) (D:A2u es L) (F:∀ e ∈ es,e.1<n∧e.2<n):A90 L=Z1 n es:=by
 unfold A90 Z1
 rw[h.len]
 congr 1
 apply List.filter_congr
 intro b A
 have A:b<n:=by simpa using A
 have conn_eq:∀ a b,Conn es a b→L.getD a 0=L.getD b 0:=by
  intro a b B
  induction B with
  | refl=>rfl
  | fwd k _ C=>exact(D _ k).trans C
  | bwd k _ C=>exact(D _ k).symm.trans C
 have G:=h.low b A
 by_cases x:L.getD b 0=(b:Int)
 ·have:yM es b:=fun a I B=>by
   have e:=conn_eq a b B
   have:=(h.low a (by omega)).2
   omega
  have x':(L.getD b 0==(b:Int))=true:=by simpa using x
  rw[x'];simp[this]
 ·have x':(L.getD b 0==(b:Int))=false:=by simpa using x
  have:¬ yM es b:=fun k=>k (L.getD b 0).toNat (by omega) (h.con b A)
  rw[x'];simp[this]
end Gx.Cf

namespace Gx.Cf
open Go Go.Proofs
section
variable {R:Type}
theorem V_ {l:List Int} {j:Nat} (h:j<l.length):l.getD j 0=l[j]:=by rw[List.getD_eq_getElem?_getD,List.getElem?_eq_getElem h];rfl
theorem Aok {x:Int} {n:Nat} (k:0≤x) (A:x.toNat<n):Ad x n=true:=by simp[Ad];omega
theorem A8e {l:List Int} {x:Int} (h:x.toNat<l.length) {f:Int→Option R}:Ao .i64 (List.drop (0+((Int.toNat x)*1)) (Av l)) f=f (l.getD x.toNat 0):=by
 rw[Nat.zero_add,Nat.mul_one,PW h,V_ h]
theorem r9 (l:List Int) (j:Nat) (v:Int):List.set (Av l) j (.int .i64 v)=Av (l.set j v):=by simp[Av,List.map_set]
theorem Asl {l:List Int} {x:Nat} (h:x<l.length):((Nat.beq 1 1)&&((Nat.ble ((0+(x*1))+1) (List.length (Av l)))&&(!false)))=true:=by
 rw[Ash,E9,Ef];simp;omega
def Io (c:CaseD) (l:Int):Nat×Nat:=match c.lines.l[l.toNat]? with
 | some x=>(x.fr.toNat,x.to.toNat)
 | none=>(0,0)
structure LnV (c:CaseD) (l:Int) (x:LineD):Prop where
 l0:0≤l
 lt:l.toNat<c.lines.l.length
 at':c.lines.l[l.toNat]?=some x
 f0:0≤x.fr
 f1:x.fr.toNat<c.buses.l.length
 t0:0≤x.to
 t1:x.to.toNat<c.buses.l.length
theorem A2v {c:CaseD} {l:Int} {x:LineD} (h:LnV c l x):Io c l=(x.fr.toNat,x.to.toNat):=by unfold Io;rw[h.at']
theorem Bct {c:CaseD} {l:Int} {x:LineD} (h:LnV c l x) {f:Int→Option R}:Ao .i64 (List.drop 1 (List.drop ((Int.toNat l)*12) (c.lines.l.flatMap LineD.av))) f=f x.fr:=by
 have e:c.lines.l[l.toNat]'h.lt=x:=by have:=h.at';rw[List.getElem?_eq_getElem h.lt] at this;simpa using this
 rw[Bn Hm _ _ h.lt,e];simp[LineD.av,Az]
theorem Bcu {c:CaseD} {l:Int} {x:LineD} (h:LnV c l x) {f:Int→Option R}:Ao .i64 (List.drop 2 (List.drop ((Int.toNat l)*12) (c.lines.l.flatMap LineD.av))) f=f x.to:=by
 have e:c.lines.l[l.toNat]'h.lt=x:=by have:=h.at';rw[List.getElem?_eq_getElem h.lt] at this;simpa using this
 rw[Bn Hm _ _ h.lt,e];simp[LineD.av,Az]
theorem A1f {L:List Int} {n j:Nat} (A:L.length=n) (h:j<n):((Rp n).take j++L.drop j).set j (j:Int)=(Rp n).take (j+1)++L.drop (j+1):=by
 have hi:(Rp n).length=n:=by simp[Rp]
 have e:(Rp n)[j]'(by omega)=(j:Int):=by simp[Rp]
 have k:j - ((Rp n).take j).length=0:=by simp[hi];omega
 rw[List.set_append_right _ _ (by simp;omega),k,List.take_succ_eq_append_getElem (by omega),Eg (l:=L) (by omega),e,List.set_cons_zero,List.append_assoc];rfl
end
end Gx.Cf

namespace Gx.Cf
open Go Go.Proofs
section
variable {R:Type}
def tq (h:Int):List LineD→Nat→List Int
 | [],_=>[]
 | x::r,j=>cond (x.away.l.contains h) (tq h r (j+1)) ((j:Int)::tq h r (j+1))
theorem f8 (h:Int):∀ (l:List LineD) (j:Nat),(tq h l j).length≤l.length
 | [],_=>by simp[tq]
 | x::r,j=>by rw[tq];have:=f8 h r (j+1);cases x.away.l.contains h<;>simp<;>omega
theorem Aw9 (h:Int):∀ (l:List LineD) (j:Nat) (a:Int),a ∈ tq h l j→(j:Int)≤a∧a<j+l.length
 | [],_,_,k=>by simp[tq] at k
 | x::r,j,a,k=>by
  rw[tq] at k
  have A:=Aw9 h r (j+1) a
  cases B:x.away.l.contains h<;>rw[B] at k<;>simp at k
  ·rcases k with rfl | k
   ·simp;omega
   ·have:=A k;simp at this ⊢;omega
  ·have:=A k;simp at this ⊢;omega
def Be (c:CaseD) (h:Int):List Int:=tq h c.lines.l 0
theorem Asm {A B:List Int} {n:Nat} (h:n=A.length):(List.take (n*1) (Av A))++Av B=Av (A++B):=by
 rw[Nat.mul_one,List.take_of_length_le (by simp[Ef,h]),yI]
theorem f9 {N:Nat} {c:CaseD} {h:Int} {o:Bool} {K:Nat→List AV→Option R} (hs:Small c N):∀ (m j fuel:Nat) (A:List Int),j+m=c.lines.l.length→m<fuel→A.length≤j →
  Ft N K h o c.av fuel A.length (j:Int) (Av A)=K (A++tq h (c.lines.l.drop j) j).length (Av (A++tq h (c.lines.l.drop j) j))
 | 0,j,fuel+1,A,G,_,_=>by
  rw[Ft];unfold N4
  rw[Ro,Lb (by omega),cf,Fw (l:=c.lines.l) (by omega),tq,List.append_nil]
 | m+1,j,fuel+1,A,G,S,hA=>by
  rw[Ft];unfold N4
  have k:j<c.lines.l.length:=by omega
  have F:=hs.top.2.1
  have I:c.lines.l[j] ∈ c.lines.l:=List.getElem_mem k
  have L:=hs.law _ I
  simp only[Ro]
  rw[Jp k,ct,Aa k,ct,Int.toNat_natCast,Bn Hm _ _ k,Eg (l:=c.lines.l) k,tq]
  have C:=f9 (N:=N) (c:=c) (h:=h) (o:=o) (K:=K) hs m (j+1) fuel (A++[(j:Int)]) (by omega) (by omega) (by simp;omega)
  have D:=f9 (N:=N) (c:=c) (h:=h) (o:=o) (K:=K) hs m (j+1) fuel A (by omega) (by omega) (by omega)
  generalize c.lines.l[j]=b at *
  have b3:(Nat.ble (A.length+1) 140737488355328&&Nat.ble ((A.length+1)*8) 140737488355328)=true:=by rw[E9,E9];simp;omega
  have M:∀ (r:List AV) (f:List AV→Nat→Option R),Ct 1 (List.drop 11 (b.av++r)) f=f (Av b.away.l) b.away.l.length:=fun r f=>by simp[LineD.av,Hz,Ee]
  have O:List.take (A.length*1) (Av A)++[.int .i64 (j:Int)]=Av (A++[(j:Int)]):=Asm (B:=[(j:Int)]) rfl
  rw[M,VU rfl L,b3,ct,O,Fi (by omega)]
  cases b.away.l.contains h with
  | true=>simp only[Bool.not_true,cond_false,cond_true];exact D
  | false =>
   simp only[Bool.not_false,cond_true,cond_false]
   rw[List.length_append] at C
   simpa using C
theorem Axa {N:Nat} {c:CaseD} {h:Int} {o:Bool} {K:Nat→List AV→Option R} (hs:Small c N):Nj N c.av o h K=K (Be c h).length (Av (Be c h)):=by
 rw[LQ];unfold Ux
 have:=f9 (R:=R) (N:=N) (c:=c) (h:=h) (o:=o) (K:=K) hs c.lines.l.length 0 N [] (by omega) hs.lin.1 (by simp)
 simpa[Be,Av] using this
def B5 (e:Nat×Nat):List AV:=[.int .i64 (e.1:Int),.int .i64 (e.2:Int)]
theorem Ve (e:Nat×Nat):(B5 e).length=2:=rfl
theorem gq (es:List (Nat×Nat)):(es.flatMap B5).length=es.length*2:=by
 induction es with
 | nil=>rfl
 | cons e r k=>rw[List.flatMap_cons,List.length_append,k,Ve];simp;omega
theorem Aic {N:Nat} {c:CaseD} {o:Bool} {ls:List Int} {K:Nat→Nat→List AV→List AV→Option R} (B:ls.length≤1000000) (A:∀ l ∈ ls,∃ x,LnV c l x):∀ (m j fuel:Nat),j+m=ls.length→m<fuel →
  Mf N K ls.length o c.av (Av ls) fuel j (ls.length:Int) (j:Int) (((ls.take j).map (Io c)).flatMap B5)=K ls.length ls.length ((ls.map (Io c)).flatMap B5) (Av ls)
 | 0,j,fuel+1,C,_=>by
  rw[Mf];unfold X3
  have:j=ls.length:=by omega
  rw[Lb (by omega),cf,List.take_of_length_le (by omega),this]
 | m+1,j,fuel+1,C,F=>by
  rw[Mf];unfold X3
  have h:j<ls.length:=by omega
  obtain⟨x,k⟩:=A ls[j] (List.getElem_mem h)
  have b3:(Nat.ble (j+1) 140737488355328&&Nat.ble ((j+1)*16) 140737488355328)=true:=by rw[E9,E9];simp;omega
  have D:List.take (j*2) (((ls.take j).map (Io c)).flatMap B5)++[.int .i64 x.fr,.int .i64 x.to]=((ls.take (j+1)).map (Io c)).flatMap B5:=by
   rw[List.take_of_length_le (by rw[gq];simp;omega),List.take_succ_eq_append_getElem h,List.map_append,List.flatMap_append]
   simp only[List.map_cons,List.map_nil,A2v k,List.flatMap_cons,List.flatMap_nil,List.append_nil,B5]
   have:=k.f0;have:=k.t0
   rw[Int.toNat_of_nonneg k.f0,Int.toNat_of_nonneg k.t0]
  rw[Jp h,ct,Aa h,ct,A8e (by simpa using h),Int.toNat_natCast,V_ h]
  simp only[Ro,Bct k,Bcu k]
  rw[Aok k.l0 k.lt,ct,ct,b3,ct,D,Fi (by omega),Aic B A m (j+1) fuel (by omega) (by omega)]
theorem A1g {N:Nat} {c:CaseD} {h:Int} {o:Bool} {K:Nat→Nat→List AV→List AV→Option R} (hs:Small c N) (B:∀ l ∈ Be c h,∃ x,LnV c l x) :
  ED N c.av o h K=K (Be c h).length (Be c h).length (((Be c h).map (Io c)).flatMap B5) (Av (Be c h)):=by
 rw[kg];unfold VG
 have C:=f8 h c.lines.l 0
 have k:=hs.top.2.1
 have A:=hs.lin.1
 have:=Aic (R:=R) (N:=N) (c:=c) (o:=o) (ls:=Be c h) (K:=K) (by unfold Be;omega) B (Be c h).length 0 N (by omega) (by unfold Be;omega)
 rw[Pq,ct,F4,Axa hs]
 simpa using this
def Fv (st:Bool×List Int) (e:Nat×Nat):Bool×List Int :=
 let m:=Bv (st.2.getD e.1 0) (st.2.getD e.2 0)
 ((st.1||(st.2.getD e.1 0 != m))||(st.2.getD e.2 0 != m),(st.2.set e.1 m).set e.2 m)
theorem yO {N:Nat} {es:List (Nat×Nat)} {n:Nat} {t o:Bool} {K1:Bool→List AV→Option R} {K:Nat→List AV→Option R} (hs:es.length<4611686018427387904) (C:∀ e ∈ es,e.1<n∧e.2<n):∀ (m j fuel:Nat) (st:Bool×List Int),j+m=es.length→m<fuel→st.2.length=n →
  H5 N K1 K (es.flatMap B5) es.length t o n fuel st.1 (es.length:Int) (j:Int) (Av st.2)=K1 ((es.drop j).foldl Fv st).1 (Av ((es.drop j).foldl Fv st).2)
 | 0,j,fuel+1,st,D,_,_=>by
  rw[H5];unfold R3
  rw[Lb (by omega),cf,Fw (l:=es) (by omega)];rfl
 | m+1,j,fuel+1,st,D,U,k=>by
  rw[H5];unfold R3
  have h:j<es.length:=by omega
  obtain⟨A,B⟩:=C es[j] (List.getElem_mem h)
  have F:=yO (N:=N) (es:=es) (n:=n) (t:=t) (o:=o) (K1:=K1) (K:=K) hs C m (j+1) fuel (Fv st es[j]) (by omega) (by omega) (by simp[Fv,k])
  rw[Jp h,ct,Aa h,ct,Int.toNat_natCast,Bn Ve _ _ h,Eg (l:=es) h,List.foldl_cons,←F]
  generalize es[j]=e at *
  have G:Nat.ble 2 (List.length (B5 e++List.flatMap B5 (List.drop (j+1) es)))=true:=by rw[E9,List.length_append,Ve];simp
  have I:List.take 2 (B5 e++List.flatMap B5 (List.drop (j+1) es))=B5 e:=List.take_left' (Ve e)
  rw[G,ct,I,Ve]
  have iu:Ad (e.1:Int) n=true:=Aa A
  have iv:Ad (e.2:Int) n=true:=Aa B
  have ru:∀ f:Int→Option R,Ao .i64 (List.drop (0+((Int.toNat (e.1:Int))*1)) (Av st.2)) f=f (st.2.getD e.1 0):=fun f=>by rw[A8e (by rw[k];simpa using A)];rfl
  have rv:∀ f:Int→Option R,Ao .i64 (List.drop (0+((Int.toNat (e.2:Int))*1)) (Av st.2)) f=f (st.2.getD e.2 0):=fun f=>by rw[A8e (by rw[k];simpa using B)];rfl
  have s1:=Asl (l:=st.2) (x:=(Int.toNat (e.1:Int))) (by rw[k];simpa using A)
  have s2:∀ m:Int,((Nat.beq 1 1)&&((Nat.ble ((0+((Int.toNat (e.2:Int))*1))+1) (List.length (List.set (Av st.2) (0+((Int.toNat (e.1:Int))*1)) (.int .i64 m))))&&(!false)))=true:=fun m=>by
   rw[r9];exact Asl (by simpa[k] using B)
  have L:∀ m:Int,List.set (List.set (Av st.2) (0+((Int.toNat (e.1:Int))*1)) (.int .i64 m)) (0+((Int.toNat (e.2:Int))*1)) (.int .i64 m)=Av ((st.2.set e.1 m).set e.2 m):=fun m=>by
   rw[r9,r9];simp
  have p1:(!o||Bd (B5 e))=true:=by simp[B5,Bd]
  have p2:(Nat.beq 2 2&&(Nat.ble 2 2&&!false))=true:=rfl
  have M:setCells [(.int .i64 (0:Int)),(.int .i64 (0:Int))] 0 (B5 e)=B5 e:=rfl
  have O:∀ f:Int→Option R,Ao .i64 (B5 e) f=f e.1:=fun f=>by simp[B5,Az]
  have S:∀ f:Int→Option R,Ao .i64 (List.drop 1 (B5 e)) f=f e.2:=fun f=>by simp[B5,Az]
  simp only[p1,p2,M,O,S,ct,iu,iv,ru,rv,s1,s2,L,Fi (show j<4611686018427387904 by omega)]
  unfold Fv
  cases st.1
  ·cases T:(st.2.getD e.1 0 != Bv (st.2.getD e.1 0) (st.2.getD e.2 0))<;>simp only[T,Bool.false_or,Bool.true_or,cond_true,cond_false,beq_self_eq_true,show(true==false)=false from rfl]
  ·simp only[Bool.true_or,cond_false,show(true==false)=false from rfl]
def nE (L:List Int):Nat:=(L.map Int.toNat).sum
theorem A2w {L:List Int} {x:Nat} {v:Int} (h:x<L.length):nE (L.set x v)+(L.getD x 0).toNat=nE L+v.toNat:=by
 unfold nE
 rw[V_ h]
 induction L generalizing x with
 | nil=>simp at h
 | cons a r k =>
  cases x with
  | zero=>simp;omega
  | succ x=>have:=k (x:=x) (by simpa using h);simp at this ⊢;omega
theorem Aid {L:List Int} {x y:Nat} {v:Int} (h:x<L.length):(L.set x v).getD y 0=if x=y then v else L.getD y 0:=by
 rw[List.getD_eq_getElem?_getD,List.getD_eq_getElem?_getD,List.getElem?_set]
 by_cases e:x=y
 ·subst e;simp[h]
 ·simp[e]
theorem A91 (a b:Int):Bv a b≤a∧Bv a b≤b∧(Bv a b=a∨Bv a b=b):=by
 unfold Bv
 by_cases h:b<a
 ·simp[h];omega
 ·simp[h];omega
theorem A53 {n:Nat} {es:List (Nat×Nat)} {e:Nat×Nat} (M:e ∈ es) (D:e.1<n) (F:e.2<n) {b:Bool} {L:List Int} (h:LeastOk n es L) :
    LeastOk n es (Fv (b,L) e).2∧(((Fv (b,L) e).1=true∧nE (Fv (b,L) e).2<nE L)∨((Fv (b,L) e)=(b,L)∧L.getD e.1 0=L.getD e.2 0)):=by
  obtain⟨u,v⟩:=e
  simp only at D F
  obtain⟨m1,m2,m3⟩:=A91 (L.getD u 0) (L.getD v 0)
  have k:u<L.length:=by rw[h.len];exact D
  have B:v<L.length:=by rw[h.len];exact F
  have A:Conn es u v:=.fwd M (.refl _)
  have Au:∀ y,((L.set u (Bv (L.getD u 0) (L.getD v 0))).set v (Bv (L.getD u 0) (L.getD v 0))).getD y 0=if v=y then Bv (L.getD u 0) (L.getD v 0) else if u=y then Bv (L.getD u 0) (L.getD v 0) else L.getD y 0:=fun y=>by
    rw[Aid (by simpa using B),Aid k]
  have lu:=h.low u D
  have lv:=h.low v F
  refine⟨⟨by simp[Fv,h.len],fun y I=>?_,fun y I=>?_⟩,?_⟩
  · simp only[Fv,Au]
    split
    · rename_i e;subst e;omega
    · split
      · rename_i e;subst e;omega
      · exact h.low y I
  · simp only[Fv,Au]
    have cm:Conn es (Bv (L.getD u 0) (L.getD v 0)).toNat u:=by
      rcases m3 with e | e<;>rw[e]
      · exact h.con u D
      · exact(h.con v F).trans A.symm
    split
    · rename_i e;subst e;exact cm.trans A
    · split
      · rename_i e;subst e;exact cm
      · exact h.con y I
  · by_cases e1:L.getD u 0=Bv (L.getD u 0) (L.getD v 0)<;>by_cases G:L.getD v 0=Bv (L.getD u 0) (L.getD v 0)
    · right
      have q:(L.set u (Bv (L.getD u 0) (L.getD v 0))).set v (Bv (L.getD u 0) (L.getD v 0))=L:=by
        have key:∀ m:Int,L.getD u 0=m→L.getD v 0=m→(L.set u m).set v m=L:=by
          intro m O S
          have a1:L.set u m=L:=by rw[←O,V_ k,List.set_getElem_self]
          have a2:L.set v m=L:=by rw[←S,V_ B,List.set_getElem_self]
          rw[a1,a2]
        exact key _ e1 G
      have x1:(L.getD u 0 != Bv (L.getD u 0) (L.getD v 0))=false:=by simpa using e1
      have x2:(L.getD v 0 != Bv (L.getD u 0) (L.getD v 0))=false:=by simpa using G
      refine⟨by simp only[Fv,q,x1,x2,Bool.or_false],by rw[e1];exact G.symm⟩
    all_goals
      left
      have T:=A2w (v:=Bv (L.getD u 0) (L.getD v 0)) k
      have C:=A2w (L:=L.set u (Bv (L.getD u 0) (L.getD v 0))) (x:=v) (v:=Bv (L.getD u 0) (L.getD v 0)) (by simpa using B)
      rw[Aid k] at C
      refine⟨?_,?_⟩
      · first
          | (have x2 : (L.getD v 0 != Bv (L.getD u 0) (L.getD v 0)) = true := by simpa using G
             simp only[Fv,x2,Bool.or_true])
          | (have x1 : (L.getD u 0 != Bv (L.getD u 0) (L.getD v 0)) = true := by simpa using e1
             simp only[Fv,x1,Bool.or_true,Bool.true_or])
      · simp only[Fv]
        split at C
        · rename_i e;subst e;omega
        · omega
theorem Asn {n:Nat} {es:List (Nat×Nat)} (A:∀ e ∈ es,e.1<n∧e.2<n):∀ (fs:List (Nat×Nat)) (b:Bool) (L:List Int),(∀ e ∈ fs,e ∈ es)→LeastOk n es L →
  LeastOk n es (fs.foldl Fv (b,L)).2∧(((fs.foldl Fv (b,L)).1=true∧(nE (fs.foldl Fv (b,L)).2<nE L∨(b=true∧nE (fs.foldl Fv (b,L)).2≤nE L)))∨((fs.foldl Fv (b,L))=(b,L)∧A2u fs L))
 | [],b,L,_,h=>⟨h,.inr ⟨rfl,fun e A=>by simp at A⟩⟩
 | e::r,b,L,F,h=>by
  have G:=F e (by simp)
  obtain⟨S,T⟩:=A53 G (A e G).1 (A e G).2 (b:=b) h
  rw[List.foldl_cons]
  rcases T with⟨I,M⟩ | ⟨I,M⟩
  ·have e':Fv (b,L) e=(true,(Fv (b,L) e).2):=by rw[←I]
   rw[e']
   obtain⟨O,B⟩:=Asn A r true (Fv (b,L) e).2 (fun x k=>F x (List.mem_cons_of_mem _ k)) S
   refine⟨O,.inl ?_⟩
   rcases B with⟨C,D⟩ | ⟨C,_⟩
   ·exact⟨C,.inl (by rcases D with D | ⟨_,D⟩<;>omega)⟩
   ·rw[C];exact⟨rfl,.inl M⟩
  ·rw[I]
   obtain⟨O,B⟩:=Asn A r b L (fun x k=>F x (List.mem_cons_of_mem _ k)) h
   refine⟨O,?_⟩
   rcases B with B | ⟨C,D⟩
   ·exact .inl B
   ·refine .inr ⟨C,fun x k=>?_⟩
    rcases List.mem_cons.1 k with rfl | k
    ·exact M
    ·exact D x k
theorem yP {N:Nat} {es:List (Nat×Nat)} {n:Nat} {t o:Bool} (hs:S5 es.length N) (A:∀ e ∈ es,e.1<n∧e.2<n):∀ (s fuel:Nat) (L:List Int),LeastOk n es L→nE L≤s→s+2<fuel →
  ∃ L',LeastOk n es L'∧A2u es L'∧∀ K:Nat→List AV→Option R,Df N K (es.flatMap B5) es.length t o n fuel true (Av L)=K n (Av L')
 | s,fuel+1,L,h,hL,I=>by
  obtain⟨C,D⟩:=Asn A es false L (fun _ F=>F) h
  have step:∀ K:Nat→List AV→Option R,Df N K (es.flatMap B5) es.length t o n (fuel+1) true (Av L)=Df N K (es.flatMap B5) es.length t o n fuel (es.foldl Fv (false,L)).1 (Av (es.foldl Fv (false,L)).2):=fun K=>by
   rw[Df];unfold R4
   have:=yO (R:=R) (N:=N) (es:=es) (n:=n) (t:=t) (o:=o) (K1:=Df N K (es.flatMap B5) es.length t o n fuel) (K:=K) hs.2 A es.length 0 N (false,L) (by omega) hs.1 h.len
   simpa using this
  rcases D with⟨B,k⟩ | ⟨B,k⟩
  ·have G:nE (es.foldl Fv (false,L)).2<nE L:=by
    rcases k with k | ⟨k,_⟩
    ·exact k
    ·cases k
   obtain⟨L',a1,a2,a3⟩:=yP hs A (s - 1) fuel _ C (by omega) (by omega)
   exact⟨L',a1,a2,fun K=>by rw[step,B];exact a3 K⟩
  ·refine⟨L,h,k,fun K=>?_⟩
   rw[step,B]
   rcases fuel with _ | fuel
   ·omega
   ·rw[Df];unfold R4;rfl
 termination_by s=>s
 decreasing_by omega
theorem yQ {N:Nat} {es:List (Nat×Nat)} {n:Nat} {t o:Bool} {K:Nat→List AV→Option R} (hn:n<4611686018427387904) (L:List Int) (hL:L.length=n):∀ (m j fuel:Nat),j+m=n→m<fuel →
  H6 N K (n:Int) (es.flatMap B5) es.length t o fuel n (j:Int) (Av ((Rp n).take j++L.drop j))=Df N K (es.flatMap B5) es.length t o n N true (Av (Rp n))
 | 0,j,fuel+1,A,_=>by
  rw[H6];unfold R5
  rw[Lb (by omega),cf,Fw (by omega),List.append_nil,List.take_of_length_le (by simp[Rp];omega)]
 | m+1,j,fuel+1,A,B=>by
  rw[H6];unfold R5
  have h:j<n:=by omega
  have k:((Rp n).take j++L.drop j).length=n:=by simp[Rp];omega
  rw[Jp h,ct,Aa h,ct,Asl (by rw[k];simpa using h),ct,Int.toNat_natCast,Nat.zero_add,Nat.mul_one,r9,A1f hL h,Fi (by omega),yQ hn L hL m (j+1) fuel (by omega) (by omega)]
theorem A1h (n:Nat) (es:List (Nat×Nat)):LeastOk n es (Rp n):=by
 refine⟨by simp[Rp],fun b k=>?_,fun b k=>?_⟩
 ·rw[Aoj k];omega
 ·rw[Aoj k];exact .refl _
theorem Bb5 {L:List Int} {b:Nat}:(∀ x ∈ L,x.toNat≤b)→nE L≤L.length*b:=by
 unfold nE
 induction L with
 | nil=>intro _;simp
 | cons a r k =>
  intro h
  have B:=h a (by simp)
  have C:=k (fun x A=>h x (List.mem_cons_of_mem _ A))
  simp[Nat.add_mul];omega
theorem r_ {N:Nat} {es:List (Nat×Nat)} {n:Nat} {t o:Bool} (hs:S5 es.length N) (hn:n≤1000) (hN:n*n+1000<N) (B:∀ e ∈ es,e.1<n∧e.2<n) :
  ∃ L,LeastOk n es L∧A2u es L∧∀ (m:Nat) (K:Nat→List AV→Option R),m=es.length→Pc N (n:Int) (es.flatMap B5) m t o K=K n (Av L):=by
 have k:nE (Rp n)≤n*n:=by
  have:=Bb5 (L:=Rp n) (b:=n) (by
   intro x A;simp[Rp] at A;obtain⟨a,I,rfl⟩:=A;simp;omega)
  simpa[Rp] using this
 obtain⟨L,C,D,F⟩:=yP (R:=R) (N:=N) (es:=es) (n:=n) (t:=t) (o:=o) hs B (n*n) N (Rp n) (A1h n es) k (by omega)
 refine⟨L,C,D,fun m K G=>?_⟩
 subst G
 rw[ZD];unfold DH
 have ok:(decide ((0:Int)≤(n:Int))&&(decide ((n:Int)≤(n:Int))&&(decide ((n:Int)≤(140737488355328:Int))&&decide (((n:Int)*((8:Nat):Int))≤(140737488355328:Int)))))=true:=by simp;omega
 have e:List.replicate n (AV.int .i64 (0:Int))=Av (List.replicate n 0):=by simp[Av]
 have:=yQ (R:=R) (N:=N) (es:=es) (n:=n) (t:=t) (o:=o) (K:=K) (by omega) (List.replicate n 0) (by simp) n 0 N (by omega) (by omega)
 rw[ok,ct,Int.toNat_natCast,e,←F K]
 simpa using this
theorem nF {N:Nat} {L:List Int} {t o:Bool} {K:Int→Option R} (hs:L.length<1000000):∀ (m j fuel:Nat) (a:Nat),j+m=L.length→m<fuel→a≤j →
  Mg N K (Av L) L.length t o fuel (a:Int) (j:Int)=K ((a+((List.range' j m).filter fun b=>L.getD b 0==(b:Int)).length:Nat):Int)
 | 0,j,fuel+1,a,k,_,_=>by
  rw[Mg];unfold X4
  rw[Lb (by omega),cf];simp
 | m+1,j,fuel+1,a,k,A,B=>by
  rw[Mg];unfold X4
  have h:j<L.length:=by omega
  rw[Jp h,ct,Aa h,ct,Ah4 h,Fi (by omega),Fi (by omega),List.range'_succ,List.filter_cons,V_ h]
  cases C:L[j]==(j:Int) with
  | true =>
   rw[ct,nF hs m (j+1) fuel (a+1) (by omega) (by omega) (by omega)]
   simp;congr 1;omega
  | false =>
   rw[cf,nF hs m (j+1) fuel a (by omega) (by omega) (by omega)]
   simp
theorem Aie {N:Nat} {L:List Int} {n:Nat} {t o:Bool} {K:Int→Option R} (hn:n=L.length) (hs:L.length<1000000) (hN:L.length<N):Wx N (Av L) n t o K=K (A90 L:Int):=by
 subst hn
 rw[kj];unfold VH
 have:=nF (R:=R) (N:=N) (L:=L) (t:=t) (o:=o) (K:=K) hs L.length 0 N 0 (by omega) hN (by omega)
 simp only[Int.natCast_zero,Nat.zero_add] at this
 rw[A90,List.range_eq_range']
 exact this
def ra (gone:List Int):List (Nat×Nat)→Nat→List (Nat×Nat)
 | [],_=>[]
 | e::r,j=>cond (gone.contains (j:Int)) (ra gone r (j+1)) (e::ra gone r (j+1))
theorem Aif {N:Nat} {es:List (Nat×Nat)} {gone:List Int} {n:Nat} {t o t2 o2:Bool} {K:Bool→Option R} (O:es.length≤1000) (hlN:es.length<N) (hn:n≤1000) (hN:n*n+1000<N) (k:∀ e ∈ es,e.1<n∧e.2<n) (F:S5 gone.length N):∀ (m j fuel:Nat) (A:List (Nat×Nat)),j+m=es.length→m<fuel→A.length≤j→(∀ e ∈ A,e.1<n∧e.2<n) →
  Fu N K (n:Int) (es.flatMap B5) es.length t o (Av gone) gone.length t2 o2 fuel A.length (j:Int) (A.flatMap B5)=K (decide ((Z1 n (A++ra gone (es.drop j) j):Int)>(Z1 n es:Int)))
 | 0,j,fuel+1,A,S,_,hA,hAe=>by
  rw[Fu];unfold N5
  obtain⟨L,a1,a2,a3⟩:=r_ (R:=R) (N:=N) (es:=A) (n:=n) (t:=false) (o:=true) ⟨by omega,by omega⟩ hn hN hAe
  obtain⟨L',C,G,b3⟩:=r_ (R:=R) (N:=N) (es:=es) (n:=n) (t:=false) (o:=o) ⟨by omega,by omega⟩ hn hN k
  have l1:=a1.len;have l2:=C.len
  rw[Lb (by omega),cf,Fw (l:=es) (by omega),ra,List.append_nil,List.take_of_length_le (by rw[gq];exact Nat.le_refl _),a3 _ _ rfl,Nat.mul_one,List.take_of_length_le (by rw[Ef];omega),Aie (by omega) (by omega) (by omega),b3 _ _ rfl,List.take_of_length_le (by rw[Ef];omega),Aie (by omega) (by omega) (by omega),yN a1 a2 hAe,yN C G k]
 | m+1,j,fuel+1,A,S,V,hA,hAe=>by
  rw[Fu];unfold N5
  have h:j<es.length:=by omega
  have B:=Aif (N:=N) (es:=es) (gone:=gone) (n:=n) (t:=t) (o:=o) (t2:=t2) (o2:=o2) (K:=K) O hlN hn hN k F m (j+1) fuel (A++[es[j]]) (by omega) (by omega) (by simp;omega) (by
   intro e I
   rcases List.mem_append.1 I with D | D
   ·exact hAe e D
   ·simp at D;subst D;exact k _ (List.getElem_mem h))
  have M:=Aif (N:=N) (es:=es) (gone:=gone) (n:=n) (t:=t) (o:=o) (t2:=t2) (o2:=o2) (K:=K) O hlN hn hN k F m (j+1) fuel A (by omega) (by omega) (by omega) hAe
  rw[Jp h,ct,VU rfl F,Aa h,ct,Int.toNat_natCast,Bn Ve _ _ h,Eg (l:=es) h,ra]
  generalize es[j]=e at *
  have C:Nat.ble 2 (List.length (B5 e++List.flatMap B5 (List.drop (j+1) es)))=true:=by rw[E9,List.length_append,Ve];simp
  have G:List.take 2 (B5 e++List.flatMap B5 (List.drop (j+1) es))=B5 e:=List.take_left' (Ve e)
  have b3:(Nat.ble (A.length+1) 140737488355328&&Nat.ble ((A.length+1)*16) 140737488355328)=true:=by rw[E9,E9];simp;omega
  have p1:(!o||Bd (B5 e))=true:=by simp[B5,Bd]
  have T:List.take 2 (setCells [(.int .i64 (0:Int)),(.int .i64 (0:Int))] 0 (B5 e))=B5 e:=rfl
  have U:List.take (A.length*2) (A.flatMap B5)++B5 e=(A++[e]).flatMap B5:=by
   rw[List.take_of_length_le (by rw[gq];exact Nat.le_refl _)];simp
  rw[C,ct,G,p1,ct,Ve,show(Nat.beq 2 2&&Nat.ble 2 2)=true from rfl,ct,b3,ct,T,U,Fi (by omega)]
  cases gone.contains (j:Int) with
  | true=>simp only[Bool.not_true,cond_false,cond_true];exact M
  | false =>
   simp only[Bool.not_false,cond_true,cond_false]
   rw[List.length_append] at B
   simpa using B
theorem Aig {N:Nat} {es:List (Nat×Nat)} {gone:List Int} {n m m2:Nat} {t o t2 o2:Bool} {K:Bool→Option R} (A:m=es.length) (k:m2=gone.length) (B:es.length≤1000) (hlN:es.length<N) (hn:n≤1000) (hN:n*n+1000<N) (C:∀ e ∈ es,e.1<n∧e.2<n) (D:S5 gone.length N) :
  Nk N (n:Int) (es.flatMap B5) m t o (Av gone) m2 t2 o2 K=K (decide ((Z1 n (ra gone es 0):Int)>(Z1 n es:Int))):=by
 subst A k
 rw[LW];unfold U0
 have:=Aif (R:=R) (N:=N) (es:=es) (gone:=gone) (n:=n) (t:=t) (o:=o) (t2:=t2) (o2:=o2) (K:=K) B hlN hn hN C D es.length 0 N [] (by omega) hlN (by simp) (by simp)
 simpa using this
end
end Gx.Cf

namespace Gx.Cf
open Go Go.Proofs
section
variable {R:Type}
theorem Dl {p:J5} {ok:Bool} {w:Int×Int×Int} {e:{ e:Int // e≠0 }} (h:nd p ok w e=none):p=none∧ok=true:=by
 rcases p with _ | x
 ·cases ok
  ·simp[nd] at h
  ·exact⟨rfl,rfl⟩
 ·simp[nd] at h
theorem S7 {α:Type} {f:Nat→α→J5→J5} (A:∀ j a x,f j a (some x)=some x):∀ (l:List α) (j:Nat) (p:J5),Gm f l j p=none→p=none∧∀ i (h:i<l.length),f (j+i) l[i] none=none
 | [],j,p,h=>by rw[Gm] at h;exact⟨h,fun i hi=>by simp at hi⟩
 | a::r,j,p,h=>by
  rw[Gm] at h
  obtain⟨k,B⟩:=S7 A r (j+1) _ h
  have C:p=none:=by
   rcases p with _ | x
   ·rfl
   ·rw[A] at k;cases k
  subst C
  refine⟨rfl,fun i hi=>?_⟩
  cases i with
  | zero=>simpa using k
  | succ i=>have:=B i (by simpa using hi);rw[show j+1+i=j+(i+1) by omega] at this;simpa using this
theorem tt {c:CaseD} (j:Nat) (x:BusD) (y:(Int×Int×Int)×{ e:Int // e≠0 }):A9v c j x (some y)=some y:=rfl
theorem nG {c:CaseD} (j:Nat) (x:LineD) (y:(Int×Int×Int)×{ e:Int // e≠0 }):Aoh c j x (some y)=some y:=rfl
theorem f_ {c:CaseD} (j:Nat) (x:StoreD) (y:(Int×Int×Int)×{ e:Int // e≠0 }):Ah7 c j x (some y)=some y:=rfl
theorem tw {c:CaseD} (j:Nat) (x:TieD) (y:(Int×Int×Int)×{ e:Int // e≠0 }):A9w c j x (some y)=some y:=rfl
theorem nH {c:CaseD} (j:Nat) (x:UnitD) (y:(Int×Int×Int)×{ e:Int // e≠0 }):Aw7 c j x (some y)=some y:=by
 show cond (x.state==2) _ _=_
 cases x.state==2<;>rfl
def A8f (c:CaseD):J5 :=
 let p:=A1c c none
 let p:=Gm (A9v c) c.buses.l 0 p
 let p:=Gm (Aoh c) c.lines.l 0 p
 let p:=Gm (Aw7 c) c.units.l 0 p
 let p:=Gm (Ah7 c) c.stores.l 0 p
 let p:=Gm (A9w c) c.ties.l 0 p
 Gm (A52 c) c.outs.l 0 p
noncomputable def A8g (c:CaseD) (h:Int) (o:OutD):Bool :=
 (Z1 c.buses.l.length (((Be c h).filter fun l=>!o.lines.l.contains l).map (Io c)):Int)==(Z1 c.buses.l.length ((Be c h).map (Io c)):Int)
noncomputable def A8h (c:CaseD) (h:Int) (j:Nat) (o:OutD) (p:J5):J5:=nd p (A8g c h o) (6,j,h) Bd3
noncomputable def nI (c:CaseD):Nat→Nat→J5→J5
 | 0,_,p=>p
 | m+1,j,p=>nI c m (j+1) (Gm (A8h c j) c.outs.l 0 p)
theorem A54 {c:CaseD} {h:Int} (j:Nat) (x:OutD) (y:(Int×Int×Int)×{ e:Int // e≠0 }):A8h c h j x (some y)=some y:=rfl
theorem yR {c:CaseD} {y:(Int×Int×Int)×{ e:Int // e≠0 }}:∀ (m j:Nat),nI c m j (some y)=some y
 | 0,_=>rfl
 | m+1,j=>by rw[nI,Pp (fun j a=>A54 j a y)];exact yR m (j+1)
noncomputable def fb (c:CaseD):J5:=match A8f c with
 | some x=>some x
 | none=>nI c c.hours.toNat 0 none
structure PreV (c:CaseD):Prop where
 hours:1≤c.hours∧c.hours≤24
 nb:c.buses.l.length≤32
 nl:c.lines.l.length≤64
 no:c.outs.l.length≤64
 line:∀ x ∈ c.lines.l,0≤x.fr∧x.fr.toNat<c.buses.l.length∧0≤x.to∧x.to.toNat<c.buses.l.length
 out:∀ x ∈ c.outs.l,x.lines.l.length≤2
theorem A55 {c:CaseD} (h:A8f c=none):PreV c:=by
 unfold A8f at h
 obtain⟨I,o6⟩:=S7 (fun _ _ _=>tp) _ _ _ h
 obtain⟨L,o5⟩:=S7 (fun j a x=>tw j a x) _ _ _ I
 obtain⟨M,o4⟩:=S7 (fun j a x=>f_ j a x) _ _ _ L
 obtain⟨O,o3⟩:=S7 (fun j a x=>nH j a x) _ _ _ M
 obtain⟨S,o2⟩:=S7 (fun j a x=>nG j a x) _ _ _ O
 obtain⟨F,o1⟩:=S7 (fun j a x=>tt j a x) _ _ _ S
 unfold A1c at F
 obtain⟨T,U⟩:=Dl F
 obtain⟨V,_⟩:=Dl T
 obtain⟨Y,_⟩:=Dl V
 obtain⟨w4,_⟩:=Dl Y
 obtain⟨w3,B⟩:=Dl w4
 obtain⟨w2,k⟩:=Dl w3
 obtain⟨w1,_⟩:=Dl w2
 obtain⟨w0,_⟩:=Dl w1
 obtain⟨_,C⟩:=Dl w0
 unfold Fj at C k
 simp at C k B U
 refine⟨C,by omega,by omega,by omega,fun x D=>?_,fun x D=>?_⟩
 ·obtain⟨i,hi,rfl⟩:=List.getElem_of_mem D
  have:=o2 i hi
  unfold Aoh Ah6 at this
  obtain⟨a,_⟩:=Dl this
  obtain⟨a,_⟩:=Dl a
  obtain⟨a,_⟩:=Dl a
  obtain⟨a,_⟩:=Dl a
  obtain⟨a,_⟩:=Dl a
  obtain⟨a,_⟩:=Dl a
  obtain⟨a,_⟩:=Dl a
  obtain⟨a,_⟩:=Dl a
  obtain⟨a,G⟩:=Dl a
  obtain⟨_,A⟩:=Dl a
  unfold yJ at G A
  simp at G A
  omega
 ·obtain⟨i,hi,rfl⟩:=List.getElem_of_mem D
  have:=o6 i hi
  unfold A52 A1d at this
  obtain⟨a,_⟩:=Dl this
  obtain⟨a,_⟩:=Dl a
  obtain⟨a,_⟩:=Dl a
  obtain⟨a,_⟩:=Dl a
  obtain⟨a,_⟩:=Dl a
  obtain⟨a,_⟩:=Dl a
  obtain⟨a,_⟩:=Dl a
  obtain⟨_,A⟩:=Dl a
  simp at A
  omega
theorem PreV.lnV {c:CaseD} (v:PreV c) {h:Int} {l:Int} (A:l ∈ Be c h):∃ x,LnV c l x:=by
 have:=Aw9 h c.lines.l 0 l A
 have B:0≤l:=by omega
 have k:l.toNat<c.lines.l.length:=by omega
 obtain⟨a,b,d,e⟩:=v.line _ (List.getElem_mem k)
 exact⟨c.lines.l[l.toNat],B,k,List.getElem?_eq_getElem k,a,b,d,e⟩
def w3 (p:J5):List AV:=match p with
 | none=>[.int .i64 0,.int .i64 0,.int .i64 0]
 | some ((a,b,f),_)=>[.int .i64 a,.int .i64 b,.int .i64 f]
end
end Gx.Cf

namespace Gx.Cf
open Go Go.Proofs
section
variable {R:Type}
theorem A8i {N:Nat} {c:CaseD} {p:J5} {o:Bool} {j:Nat} {K:Int→List AV→Option R} {K2:List AV→Int→Option R} (hs:Small c N) (h:j<c.buses.l.length) :
  U4 N K K2 o c.av (j:Int) (C8 p)=K ((j+1:Nat):Int) (C8 (A9v c j c.buses.l[j] p)):=by
 have hN:=hs.n64
 have hN8:8≤N:=by omega
 have A:=hs.bus
 have D:c.buses.l[j] ∈ c.buses.l:=List.getElem_mem h
 have F:=hs.dem _ D
 have B:=@D0 R N c (c.buses.l.map (·.name)) o (k:=1) (n:=j) (hN:=hN) (hL:=fun K=>Aw8 hs) (hn:=by simpa using h) (hs:=⟨by have:=A.1;omega,by have:=A.2;omega⟩)
 have C:(c.buses.l.map (·.name))[j]'(by simpa using h)=c.buses.l[j].name:=by simp
 rw[C] at B
 unfold U4
 simp only[Pq,F4,ct,B,Vd]
 rw[Aa h,ct,Int.toNat_natCast,Bn R_ _ _ h]
 generalize c.buses.l[j]=b at *
 have G:∀ (r:List AV) (f:List AV→Nat→Option R),Ct 1 (List.drop 1 (b.av++r)) f=f (Av b.demand.l) b.demand.l.length:=fun r f=>by simp[BusD.av,Hz,Ee]
 have I:∀ (r:List AV) (f:Int→Option R),Ao .i64 (List.drop 2 (b.av++r)) f=f b.shed:=fun r f=>by simp[BusD.av,Az]
 rw[G,Ei rfl F,ct,I,D7 hN8,Ag (by decide),Fi (by have:=A.2;omega)]
 rfl
theorem Aso {p:J5} {K:List AV→Int→Option R}:(cond (Nat.ble 3 (List.length (C8 p))) (Ao .i64 (List.drop 3 (C8 p)) fun x38=>(cond ((Nat.beq (List.length (List.take 3 (C8 p))) 3)&&((Nat.ble 3 3)&&(!false))) (cond (Nat.ble 3 (List.length (setCells [(.int .i64 (0:Int)),(.int .i64 (0:Int)),(.int .i64 (0:Int))] 0 (List.take 3 (C8 p))))) (K (List.take 3 (setCells [(.int .i64 (0:Int)),(.int .i64 (0:Int)),(.int .i64 (0:Int))] 0 (List.take 3 (C8 p)))) x38) none) none)) none)=K (w3 p) (Ii p):=by
 rcases p with _ | ⟨⟨a,b,f⟩,e,k⟩<;>simp[C8,A8b,w3,Ii,E9,setCells,Cr,Az]
theorem yS {N:Nat} {c:CaseD} {o:Bool} {K:List AV→Int→Option R} (hs:Small c N):∀ (m j fuel:Nat) (p:J5),j+m=c.buses.l.length→m<fuel →
  Jg N K o c.av fuel (j:Int) (C8 p)=Ml N K o c.av N 0 (C8 (Gm (A9v c) (c.buses.l.drop j) j p))
 | 0,j,fuel+1,p,A,_=>by
  rw[Jg];unfold Yb
  rw[Vd,Lb (by omega),Fw (l:=c.buses.l) (by omega),Gm];rfl
 | m+1,j,fuel+1,p,A,D=>by
  rw[Jg];unfold Yb
  have h:j<c.buses.l.length:=by omega
  have k:=hs.bus
  rw[Vd,Jp h,NK,Eg (l:=c.buses.l) h,Gm]
  rcases p with _ | ⟨x,e,B⟩
  ·simp only[Ii,beq_self_eq_true,cond_true]
   rw[A8i hs h,yS hs m (j+1) fuel _ (by omega) (by omega)]
  ·have C:(e==0)=false:=by simpa using B
   simp only[Ii,C,beq_self_eq_true,cond_true,cond_false]
   rw[tt,Pp (fun _ _=>tt _ _ _)]
theorem yT {N:Nat} {c:CaseD} {o:Bool} {K:List AV→Int→Option R} (hs:Small c N):∀ (m j fuel:Nat) (p:J5),j+m=c.lines.l.length→m<fuel →
  Ml N K o c.av fuel (j:Int) (C8 p)=Mk N K o c.av N 0 (C8 (Gm (Aoh c) (c.lines.l.drop j) j p))
 | 0,j,fuel+1,p,A,_=>by
  rw[Ml];unfold Ya
  rw[Ro,Lb (by omega),Fw (l:=c.lines.l) (by omega),Gm];rfl
 | m+1,j,fuel+1,p,A,D=>by
  rw[Ml];unfold Ya
  have h:j<c.lines.l.length:=by omega
  have k:=hs.lin
  rw[Ro,Jp h,NK,Eg (l:=c.lines.l) h,Gm]
  rcases p with _ | ⟨x,e,B⟩
  ·simp only[Ii,beq_self_eq_true,cond_true]
   rw[Pq,ct,F4,aS hs h,Fi (by have:=k.2;omega),yT hs m (j+1) fuel _ (by omega) (by omega)]
  ·have C:(e==0)=false:=by simpa using B
   simp only[Ii,C,beq_self_eq_true,cond_true,cond_false]
   rw[nG,Pp (fun _ _=>nG _ _ _)]
theorem yU {N:Nat} {c:CaseD} {o:Bool} {K:List AV→Int→Option R} (hs:Small c N):∀ (m j fuel:Nat) (p:J5),j+m=c.units.l.length→m<fuel →
  Mk N K o c.av fuel (j:Int) (C8 p)=Mj N K o c.av N 0 (C8 (Gm (Aw7 c) (c.units.l.drop j) j p))
 | 0,j,fuel+1,p,A,_=>by
  rw[Mk];unfold X9
  rw[IG,Lb (by omega),Fw (l:=c.units.l) (by omega),Gm];rfl
 | m+1,j,fuel+1,p,A,D=>by
  rw[Mk];unfold X9
  have h:j<c.units.l.length:=by omega
  have k:=hs.uni
  rw[IG,Jp h,NK,Eg (l:=c.units.l) h,Gm]
  rcases p with _ | ⟨x,e,B⟩
  ·simp only[Ii,beq_self_eq_true,cond_true]
   rw[Pq,ct,F4,aT hs h,Fi (by have:=k.2;omega),yU hs m (j+1) fuel _ (by omega) (by omega)]
  ·have C:(e==0)=false:=by simpa using B
   simp only[Ii,C,beq_self_eq_true,cond_true,cond_false]
   rw[nH,Pp (fun _ _=>nH _ _ _)]
theorem yV {N:Nat} {c:CaseD} {o:Bool} {K:List AV→Int→Option R} (hs:Small c N):∀ (m j fuel:Nat) (p:J5),j+m=c.stores.l.length→m<fuel →
  Mj N K o c.av fuel (j:Int) (C8 p)=Mi N K o c.av N 0 (C8 (Gm (Ah7 c) (c.stores.l.drop j) j p))
 | 0,j,fuel+1,p,A,_=>by
  rw[Mj];unfold X8
  rw[EF,Lb (by omega),Fw (l:=c.stores.l) (by omega),Gm];rfl
 | m+1,j,fuel+1,p,A,D=>by
  rw[Mj];unfold X8
  have h:j<c.stores.l.length:=by omega
  have k:=hs.sto
  rw[EF,Jp h,NK,Eg (l:=c.stores.l) h,Gm]
  rcases p with _ | ⟨x,e,B⟩
  ·simp only[Ii,beq_self_eq_true,cond_true]
   rw[Pq,ct,F4,VZ hs h,Fi (by have:=k.2;omega),yV hs m (j+1) fuel _ (by omega) (by omega)]
  ·have C:(e==0)=false:=by simpa using B
   simp only[Ii,C,beq_self_eq_true,cond_true,cond_false]
   rw[f_,Pp (fun _ _=>f_ _ _ _)]
theorem yW {N:Nat} {c:CaseD} {o:Bool} {K:List AV→Int→Option R} (hs:Small c N):∀ (m j fuel:Nat) (p:J5),j+m=c.ties.l.length→m<fuel →
  Mi N K o c.av fuel (j:Int) (C8 p)=Mh N K o c.av N 0 (C8 (Gm (A9w c) (c.ties.l.drop j) j p))
 | 0,j,fuel+1,p,A,_=>by
  rw[Mi];unfold X7
  rw[gp,Lb (by omega),Fw (l:=c.ties.l) (by omega),Gm];rfl
 | m+1,j,fuel+1,p,A,D=>by
  rw[Mi];unfold X7
  have h:j<c.ties.l.length:=by omega
  have k:=hs.tie
  rw[gp,Jp h,NK,Eg (l:=c.ties.l) h,Gm]
  rcases p with _ | ⟨x,e,B⟩
  ·simp only[Ii,beq_self_eq_true,cond_true]
   rw[Pq,ct,F4,f7 hs h,Fi (by have:=k.2;omega),yW hs m (j+1) fuel _ (by omega) (by omega)]
  ·have C:(e==0)=false:=by simpa using B
   simp only[Ii,C,beq_self_eq_true,cond_true,cond_false]
   rw[tw,Pp (fun _ _=>tw _ _ _)]
theorem yX {N:Nat} {c:CaseD} {o:Bool} {K:List AV→Int→Option R} (hs:Small c N):∀ (m j fuel:Nat) (p:J5),j+m=c.outs.l.length→m<fuel →
  Mh N K o c.av fuel (j:Int) (C8 p)=D6 N K o c.av N 0 (C8 (Gm (A52 c) (c.outs.l.drop j) j p))
 | 0,j,fuel+1,p,A,_=>by
  rw[Mh];unfold X6
  rw[DO,Lb (by omega),Fw (l:=c.outs.l) (by omega),Gm];rfl
 | m+1,j,fuel+1,p,A,D=>by
  rw[Mh];unfold X6
  have h:j<c.outs.l.length:=by omega
  have k:=hs.out
  rw[DO,Jp h,NK,Eg (l:=c.outs.l) h,Gm]
  rcases p with _ | ⟨x,e,B⟩
  ·simp only[Ii,beq_self_eq_true,cond_true]
   rw[Pq,ct,F4,SD hs h,Fi (by have:=k.2;omega),yX hs m (j+1) fuel _ (by omega) (by omega)]
  ·have C:(e==0)=false:=by simpa using B
   simp only[Ii,C,beq_self_eq_true,cond_true,cond_false]
   rw[tp,Pp (fun _ _=>tp)]
def II (ol:List Int):List Int→Nat→List Int
 | [],_=>[]
 | a::r,j=>cond (ol.contains a) ((j:Int)::II ol r (j+1)) (II ol r (j+1))
theorem Axb (ol:List Int):∀ (l:List Int) (j:Nat) (x:Int),x ∈ II ol l j→(j:Int)≤x
 | [],_,_,h=>by simp[II] at h
 | a::r,j,x,h=>by
  rw[II] at h
  have k:=Axb ol r (j+1) x
  cases A:ol.contains a<;>rw[A] at h<;>simp at h
  ·have:=k h;omega
  ·rcases h with rfl | h
   ·omega
   ·have:=k h;omega
theorem tz {f:Int→Nat×Nat} (ol:List Int):∀ (l:List Int) (j:Nat) (pre:List Int),(∀ x ∈ pre,x<(j:Int))→ra (pre++II ol l j) (l.map f) j=((l.filter fun a=>!ol.contains a).map f)
 | [],_,_,_=>rfl
 | a::r,j,pre,C=>by
  rw[List.map_cons,ra,II,List.filter_cons]
  have A:¬ (j:Int) ∈ pre:=fun h=>by have:=C _ h;omega
  cases F:ol.contains a with
  | true =>
   have D:(pre++cond true ((j:Int)::II ol r (j+1)) (II ol r (j+1))).contains (j:Int)=true:=by simp
   rw[D]
   have:=tz (f:=f) ol r (j+1) (pre++[(j:Int)]) (by
    intro x k
    rcases List.mem_append.1 k with B | B
    ·have:=C x B;omega
    ·simp at B;omega)
   simp only[cond_true,Bool.not_true,Bool.false_eq_true,if_false]
   rw[←this];simp
  | false =>
   have D:(pre++cond false ((j:Int)::II ol r (j+1)) (II ol r (j+1))).contains (j:Int)=false:=by
    simp only[cond_false]
    rw[List.contains_eq_mem]
    simp only[decide_eq_false_iff_not,List.mem_append,not_or]
    exact⟨A,fun B=>by have:=Axb ol r (j+1) _ B;omega⟩
   rw[D]
   have:=tz (f:=f) ol r (j+1) pre (by intro x k;have:=C x k;omega)
   simp only[cond_false,Bool.not_false,if_true,List.map_cons]
   rw[this]
theorem V' {N:Nat} {c:CaseD} {o:Bool} {hr:Int} {j:Nat} {p:J5} {K7:Int→List AV→Option R} {K9:Int→Int→List AV→Option R} {K:List AV→Int→Option R} (hs:Small c N) (hN:4096≤N) (v:PreV c) (h:j<c.outs.l.length):∀ (m q fuel:Nat) (A:List Int),q+m=(Be c hr).length→m<fuel→A.length≤q →
  A++II c.outs.l[j].lines.l ((Be c hr).drop q) q=II c.outs.l[j].lines.l (Be c hr) 0 →
  Jz N K7 K9 K (Be c hr).length (Be c hr).length o c.av (((Be c hr).map (Io c)).flatMap B5) (Av (Be c hr)) fuel hr (j:Int) A.length (q:Int) (C8 p) (Av A)=K9 hr ((j+1:Nat):Int) (C8 (A8h c hr j c.outs.l[j] p))
 | 0,q,fuel+1,A,hq,_,hA,k=>by
  rw[Jz];unfold U5
  have S:=f8 hr c.lines.l 0
  have T:=v.nl
  have D:=v.nb
  have F:=hs.out
  have hnn:c.buses.l.length*c.buses.l.length≤32*32:=Nat.mul_le_mul D D
  have G:(Be c hr).length≤64:=by unfold Be;omega
  rw[Fw (l:=Be c hr) (by omega),II,List.append_nil] at k
  have M:∀ e ∈ (Be c hr).map (Io c),e.1<c.buses.l.length∧e.2<c.buses.l.length:=by
   intro e M
   simp only[List.mem_map] at M
   obtain⟨l,U,rfl⟩:=M
   obtain⟨x,C⟩:=v.lnV U
   rw[A2v C];exact⟨C.f1,C.t1⟩
  rw[Lb (by omega),cf,Vd,List.take_of_length_le (by rw[gq];simp),Nat.mul_one,List.take_of_length_le (by rw[Ef];exact Nat.le_refl _),
   Aig (by simp) rfl (by simp;omega) (by simp;omega) (by omega) (by omega) M ⟨by omega,by omega⟩,Ag (by decide),Fi (by have:=F.2;omega)]
  have e1:ra A ((Be c hr).map (Io c)) 0=(((Be c hr).filter fun a=>!c.outs.l[j].lines.l.contains a).map (Io c)):=by
   rw[k]
   have:=tz (f:=Io c) c.outs.l[j].lines.l (Be c hr) 0 [] (by simp)
   simpa using this
  rw[e1]
  have Y:Z1 c.buses.l.length ((Be c hr).map (Io c))≤Z1 c.buses.l.length (((Be c hr).filter fun a=>!c.outs.l[j].lines.l.contains a).map (Io c)):=A1e (by
   intro e I
   simp only[List.mem_map,List.mem_filter] at I ⊢
   obtain⟨l,⟨U,_⟩,rfl⟩:=I
   exact⟨l,U,rfl⟩)
  have e2:(!decide ((Z1 c.buses.l.length (((Be c hr).filter fun a=>!c.outs.l[j].lines.l.contains a).map (Io c)):Int)>(Z1 c.buses.l.length ((Be c hr).map (Io c)):Int)))=A8g c hr c.outs.l[j]:=by
   unfold A8g
   generalize Z1 c.buses.l.length ((Be c hr).map (Io c))=x at *
   generalize Z1 c.buses.l.length (((Be c hr).filter fun a=>!c.outs.l[j].lines.l.contains a).map (Io c))=y at *
   by_cases hxy:x=y
   ·subst hxy;simp
   ·have a1:((y:Int)==(x:Int))=false:=by simp;omega
    rw[a1];simp;omega
  rw[e2];rfl
 | m+1,q,fuel+1,A,hq,hf,hA,k=>by
  rw[Jz];unfold U5
  have L:q<(Be c hr).length:=by omega
  have S:=f8 hr c.lines.l 0
  have T:=v.nl
  have G:(Be c hr).length≤64:=by unfold Be;omega
  have hm:c.outs.l[j] ∈ c.outs.l:=List.getElem_mem h
  have hd:=hs.oli _ hm
  have b4:∀ (f:List AV→Nat→Option R),Ct 1 (List.drop 1 (List.drop (j*4) (List.flatMap OutD.av c.outs.l))) f=f (Av c.outs.l[j].lines.l) c.outs.l[j].lines.l.length:=fun f=>by rw[Bn Po _ _ h];simp[OutD.av,Hz,Ee]
  have b3:(Nat.ble (A.length+1) 140737488355328&&Nat.ble ((A.length+1)*8) 140737488355328)=true:=by rw[E9,E9];simp;omega
  have b5:List.take (A.length*1) (Av A)++[.int .i64 (q:Int)]=Av (A++[(q:Int)]):=Asm (B:=[(q:Int)]) rfl
  rw[Jp L,ct,DO,Aa h,ct,Int.toNat_natCast,b4,Aa L,ct,A8e (by simpa using L),Int.toNat_natCast,V_ L,VU rfl hd,b3,ct,b5,Fi (by omega)]
  rw[Eg L,II] at k
  cases C:c.outs.l[j].lines.l.contains (Be c hr)[q] with
  | true =>
   rw[C] at k
   have O:=V' (o:=o) (hr:=hr) (j:=j) (p:=p) (K7:=K7) (K9:=K9) (K:=K) hs hN v h m (q+1) fuel (A++[(q:Int)]) (by omega) (by omega) (by simp;omega) (by simpa using k)
   rw[List.length_append] at O
   simpa using O
  | false =>
   rw[C] at k
   have O:=V' (o:=o) (hr:=hr) (j:=j) (p:=p) (K7:=K7) (K9:=K9) (K:=K) hs hN v h m (q+1) fuel A (by omega) (by omega) (by omega) (by simpa using k)
   simpa using O
theorem yY {N:Nat} {c:CaseD} {o:Bool} {hr:Int} {K7:Int→List AV→Option R} {K:List AV→Int→Option R} (hs:Small c N) (hN:4096≤N) (v:PreV c):∀ (m j fuel:Nat) (p:J5),j+m=c.outs.l.length→m<fuel →
  Jf N K7 K (Be c hr).length (Be c hr).length o c.av (((Be c hr).map (Io c)).flatMap B5) (Av (Be c hr)) fuel hr (j:Int) (C8 p)=K7 (IntKind.wrap .i64 (hr+1)) (C8 (Gm (A8h c hr) (c.outs.l.drop j) j p))
 | 0,j,fuel+1,p,k,_=>by
  rw[Jf];unfold X5
  rw[DO,Lb (by omega),cf,Fw (l:=c.outs.l) (by omega),Gm]
 | m+1,j,fuel+1,p,k,D=>by
  rw[Jf];unfold X5
  have h:j<c.outs.l.length:=by omega
  have A:=f8 hr c.lines.l 0
  have B:=v.nl
  have C:=yY (o:=o) (hr:=hr) (K7:=K7) (K:=K) hs hN v m (j+1) fuel (A8h c hr j c.outs.l[j] p) (by omega) (by omega)
  have l10:=V' (R:=R) (N:=N) (c:=c) (o:=o) (hr:=hr) (j:=j) (p:=p) (K7:=K7) (K9:=Jf N K7 K (Be c hr).length (Be c hr).length o c.av (((Be c hr).map (Io c)).flatMap B5) (Av (Be c hr)) fuel) (K:=K) hs hN v h (Be c hr).length 0 N [] (by omega) (by unfold Be;omega) (by simp) (by simp)
  rw[DO,Jp h,ct,Eg (l:=c.outs.l) h,Gm,←C,←l10]
  rfl
theorem yZ {N H:Nat} {c:CaseD} {o:Bool} {K:List AV→Int→Option R} (hs:Small c N) (hN:4096≤N) (v:PreV c) (hH:c.hours=(H:Int)):∀ (m j fuel:Nat) (p:J5),j+m=H→m<fuel →
  D6 N K o c.av fuel (j:Int) (C8 p)=K (w3 (nI c m j p)) (Ii (nI c m j p))
 | 0,j,fuel+1,p,k,_=>by
  rw[D6];unfold Rm
  rw[RZ,hH,Lb (by omega),Aso,nI];rfl
 | m+1,j,fuel+1,p,k,D=>by
  rw[D6];unfold Rm DI NG
  have F:=v.hours
  rw[RZ,hH,Jp (by omega),NK,Aso]
  rcases p with _ | ⟨x,e,A⟩
  ·simp only[Ii,beq_self_eq_true,cond_true]
   have l9:=yY (R:=R) (N:=N) (c:=c) (o:=o) (hr:=(j:Int)) (K7:=D6 N K o c.av fuel) (K:=K) hs hN v c.outs.l.length 0 N none (by omega) hs.out.1
   rw[Pq,ct,F4,A1g hs (fun l B=>v.lnV B)]
   simp only[List.drop_zero,Int.natCast_zero] at l9
   rw[l9,Fi (by omega),yZ hs hN v hH m (j+1) fuel _ (by omega) (by omega)];rfl
  ·have C:(e==0)=false:=by simpa using A
   simp only[Ii,C,beq_self_eq_true,cond_true,cond_false]
   rw[yR]
theorem Axc {N:Nat} {c:CaseD} {o:Bool} {y:(Int×Int×Int)×{ e:Int // e≠0 }} {K:List AV→Int→Option R} {fuel:Nat}:D6 N K o c.av (fuel+1) 0 (C8 (some y))=K (w3 (some y)) (Ii (some y)):=by
 rw[D6];unfold Rm
 rw[RZ,NK,Aso]
 have k:(y.2.1==0)=false:=by simpa using y.2.2
 cases decide ((0:Int)<c.hours)<;>simp[Ii,k]
theorem Aih {N:Nat} {c:CaseD} {o:Bool} {K:List AV→Int→Option R} (hs:Small c N) (hN:4096≤N):EE N c.av o K=K (w3 (fb c)) (Ii (fb c)):=by
 rw[kp];unfold VI
 have k:[(.int .i64 (0:Int)),(.int .i64 (0:Int)),(.int .i64 (0:Int)),(.int .i64 (0:Int))]=C8 none:=rfl
 rw[Pq,ct,F4,k,VY hs]
 have l0:=fun p=>yS (R:=R) (N:=N) (c:=c) (o:=o) (K:=K) hs c.buses.l.length 0 N p (by omega) hs.bus.1
 have l2:=fun p=>yT (R:=R) (N:=N) (c:=c) (o:=o) (K:=K) hs c.lines.l.length 0 N p (by omega) hs.lin.1
 have l3:=fun p=>yU (R:=R) (N:=N) (c:=c) (o:=o) (K:=K) hs c.units.l.length 0 N p (by omega) hs.uni.1
 have l4:=fun p=>yV (R:=R) (N:=N) (c:=c) (o:=o) (K:=K) hs c.stores.l.length 0 N p (by omega) hs.sto.1
 have l5:=fun p=>yW (R:=R) (N:=N) (c:=c) (o:=o) (K:=K) hs c.ties.l.length 0 N p (by omega) hs.tie.1
 have l6:=fun p=>yX (R:=R) (N:=N) (c:=c) (o:=o) (K:=K) hs c.outs.l.length 0 N p (by omega) hs.out.1
 simp only[List.drop_zero,Int.natCast_zero] at l0 l2 l3 l4 l5 l6
 try dsimp only
 rw[l0,l2,l3,l4,l5,l6]
 show D6 N K o c.av N 0 (C8 (A8f c))=_
 unfold fb
 cases A:A8f c with
 | some y =>
  rcases N with _ | N
  ·omega
  ·exact Axc
 | none =>
  have v:=A55 A
  have B:=v.hours
  have:=yZ (R:=R) (N:=N) (H:=c.hours.toNat) (c:=c) (o:=o) (K:=K) hs hN v (by omega) c.hours.toNat 0 N none (by omega) (by omega)
  simpa using this
end
end Gx.Cf

namespace Gx.Cf
open Go Go.Proofs
section
variable {R:Type}
theorem Bb6 (p:J5):(w3 p).length=3:=by rcases p with _ | ⟨⟨a,b,f⟩,e⟩<;>rfl
end
end Gx.Cf

namespace Gx.Cf
open Go Go.Proofs
section
variable {R:Type}
theorem A8j (v n:Int) (C:1≤n) (D:n≤4611686018427387904):(IntKind.wrap .u64 n==0)=false∧0≤IntKind.wrap .i64 (Int.tmod (IntKind.wrap .u64 v) (IntKind.wrap .u64 n))∧IntKind.wrap .i64 (Int.tmod (IntKind.wrap .u64 v) (IntKind.wrap .u64 n))<n:=by
 have hn:IntKind.wrap .u64 n=n:=IntWalk.u64_in _ (by omega)
 have k:0≤IntKind.wrap .u64 v:=by rw[IntKind.wrap_u64];omega
 rw[hn]
 have A:0≤Int.tmod (IntKind.wrap .u64 v) n:=Int.tmod_nonneg _ k
 have B:Int.tmod (IntKind.wrap .u64 v) n<n:=Int.tmod_lt_of_pos _ (by omega)
 rw[Yh _ (by omega)]
 exact⟨by simp;omega,A,B⟩
theorem nx {N:Nat} {l:List Int} {t o:Bool} (G:l.length≤9223372036854775807) (n:Int) (B:1≤n) (C:n≤4611686018427387904) (k:Nat) (D:k≤l.length) :
  ∃ (v:Int) (k':Nat),0≤v∧v<n∧k'≤l.length∧∀ K:Int→Int→Option R,Af N n (Av l) l.length t o (k:Int) K=K v (k':Int):=by
 by_cases h:k<l.length
 ·obtain⟨a1,a2,a3⟩:=A8j l[k] n B C
  refine⟨_,k+1,a2,a3,by omega,fun K=>?_⟩
  rw[Ws];unfold Xt
  have A:IntKind.wrap .i64 ((k:Int)+1)=((k+1:Nat):Int):=by rw[Yh _ (by omega)];omega
  have F:IntKind.wrap .i64 (IntKind.wrap .i64 ((k:Int)+1) - 1)=(k:Int):=by rw[A,Yh _ (by omega)];omega
  rw[F,A,Aa h,ct,Ah4 h,Agm];unfold Aq9
  rw[a1,cf,show decide ((k:Int)≥(l.length:Int))=false by simp;omega,cf]
 ·refine⟨0,k,by omega,by omega,D,fun K=>?_⟩
  rw[Ws];unfold Xt
  rw[show decide ((k:Int)≥(l.length:Int))=true by simp;omega,ct]
theorem Aii {N m:Nat} {l:List Int} {t o:Bool} (G:l.length≤9223372036854775807) (n:Int) (I:1≤n) (L:n≤4611686018427387904) (M:m≤1000):∀ (r j fuel:Nat) (k:Nat) (A:List Int),j+r=m→r<fuel→k≤l.length→A.length=j →
  ∃ (B:List Int) (k':Nat),B.length=r∧(∀ x ∈ B,0≤x∧x<n)∧k'≤l.length∧∀ K:Nat→Int→List AV→Option R,Fq N K (m:Int) n (Av l) l.length t o fuel j (j:Int) (k:Int) (Av A)=K m (k':Int) (Av (A++B))
 | 0,j,fuel+1,k,A,O,_,C,hA=>by
  refine⟨[],k,rfl,by simp,C,fun K=>?_⟩
  rw[Fq];unfold Nz
  have:j=m:=by omega
  subst this
  rw[Lb (Nat.le_refl _),cf,List.append_nil]
 | r+1,j,fuel+1,k,A,O,hf,C,hA=>by
  obtain⟨v,S,v0,v1,D,T⟩:=nx (R:=R) (N:=N) (t:=t) (o:=o) G n I L k C
  obtain⟨B,U,V,Y,b3,b4⟩:=Aii G n I L M r (j+1) fuel S (A++[v]) (by omega) (by omega) D (by simp[hA])
  refine⟨v::B,U,by simp[V],?_,b3,fun K=>?_⟩
  ·intro x F
   rcases List.mem_cons.1 F with rfl | F
   ·exact⟨v0,v1⟩
   ·exact Y x F
  ·rw[Fq];unfold Nz
   have c3:(Nat.ble (j+1) 140737488355328&&Nat.ble ((j+1)*8) 140737488355328)=true:=by rw[E9,E9];simp;omega
   have c5:List.take (j*1) (Av A)++[.int .i64 v]=Av (A++[v]):=Asm (B:=[v]) hA.symm
   rw[Jp (by omega),ct,T,c3,ct,c5,Fi (by omega),b4]
   simp
theorem IJ {N m:Nat} {l:List Int} {t o:Bool} (hN:1001≤N) (A:l.length≤9223372036854775807) (n:Int) (C:1≤n) (D:n≤4611686018427387904) (F:m≤1000) (k:Nat) (G:k≤l.length) :
  ∃ (B:List Int) (k':Nat),B.length=m∧(∀ x ∈ B,0≤x∧x<n)∧k'≤l.length∧∀ K:Nat→Int→List AV→Option R,Ep N (m:Int) n (Av l) l.length t o (k:Int) K=K m (k':Int) (Av B):=by
 obtain⟨B,k',I,L,b3,M⟩:=Aii (R:=R) (N:=N) (t:=t) (o:=o) A n C D F m 0 N k [] (by omega) (by omega) G rfl
 refine⟨B,k',I,L,b3,fun K=>?_⟩
 rw[LD];unfold Up
 simpa[Av] using M K
theorem uA {N:Nat} {l:List Int} {t o:Bool} (D:l.length≤9223372036854775807) (H:Int) (M:1≤H) (U:H≤1000) (k:Nat) (O:k≤l.length) :
  ∃ (B:List Int) (k':Nat),B.length≤1∧(∀ x ∈ B,0≤x∧x<H)∧k'≤l.length∧∀ K:Nat→Int→List AV→Option R,Jc N H (Av l) l.length t o (k:Int) K=K B.length (k':Int) (Av B):=by
 obtain⟨v,F,v0,v1,A,G⟩:=nx (R:=R) (N:=N) (t:=t) (o:=o) D 6 (by omega) (by omega) k O
 by_cases I:v=5
 ·obtain⟨u,S,u0,u1,C,T⟩:=nx (R:=R) (N:=N) (t:=t) (o:=o) D H M (by omega) F A
  refine⟨[u],S,by simp,by intro x L;simp at L;subst L;exact⟨u0,u1⟩,C,fun K=>?_⟩
  rw[Wt];unfold Xu
  rw[G,T,I];rfl
 ·refine⟨[],F,by simp,by simp,A,fun K=>?_⟩
  rw[Wt];unfold Xu
  have:(v==5)=false:=by simpa using I
  rw[G,this];rfl
def Bdk:List UInt8:=[48,49,50,51,52,53,54,55,56,57,97,98,99,100,101,102]
theorem Tx {N:Nat} {c:UInt8} {i:Nat} (hi:i<16) {K:List UInt8→Option R}:DE N [c] (i:Int) K=K [c,Bdk.getD i 0]:=by
 rw[xF];unfold Agp
 have e1:Int.tmod (i:Int) 16=(i:Int):=Int.tmod_eq_of_lt (by omega) (by omega)
 rw[e1,Fi (by omega)]
 have c1:(decide ((0:Int)≤(i:Int))&&(decide ((i:Int)≤((i+1:Nat):Int))&&(decide (((i+1:Nat):Int)≤(16:Int))&&decide ((16:Int)≤(16:Int)))))=true:=by simp;omega
 rw[c1,ct]
 simp only[Int.toNat_natCast,Nat.add_sub_cancel_left]
 have:List.take 1 (List.drop i ([48,49,50,51,52,53,54,55,56,57,97,98,99,100,101,102]:List UInt8))=[Bdk.getD i 0]:=by
  rw[Eg (by simpa using hi)]
  simp[Bdk,hi]
 rw[this];rfl
end
end Gx.Cf

namespace Gx.Cf
open Go Go.Proofs
section
variable {R:Type}
theorem Ql {a:Int} (h:-9223372036854775808≤a∧a≤9223372036854775807):IntKind.wrap .i64 a=a:=Yh a h
theorem Ip {lo hi n:Int} (h:lo≤n∧n≤hi):Fj lo hi n=true:=by unfold Fj;simp;omega
structure LineG (i:Nat) (fr to H:Int) (x:LineD):Prop where
 name:x.name=[108,Bdk.getD i 0]
 fr:x.fr=fr
 to:x.to=to
 re:(S6 x.re&&decide (x.re.num>0))=true
 smin:(S6 x.smin&&decide (x.smin.num≤0))=true
 smax:(S6 x.smax&&decide (x.smax.num≥0))=true
 lim:Fj 0 1048576 x.limit=true
 em:Fj x.limit 1048576 x.emer=true
 aw:x.away.l.length≤1
 awr:∀ y ∈ x.away.l,0≤y∧y<H
theorem Aol {f:FracD} (h:1≤f.den∧f.den≤1048576∧-1048576≤f.num∧f.num≤1048576):S6 f=true:=by unfold S6;rw[Ip (by omega),Ip (by omega)];rfl
theorem W3 {B:List Int}:List.take (B.length*1) (Av B)=B.flatMap AE:=by rw[Nat.mul_one,List.take_of_length_le (by rw[Ef];exact Nat.le_refl _),Ee]
theorem Aom {N:Nat} {l:List Int} {t o:Bool} (C:l.length≤9223372036854775807) {i:Nat} (hi:i<16) (fr to:Int) {H:Int} (hH:1≤H∧H≤24) (k:Nat) (hk:k≤l.length) :
  ∃ (x:LineD) (k':Nat),LineG i fr to H x∧k'≤l.length∧∀ K:List AV→Int→Option R,Ly N (i:Int) fr to H (Av l) l.length t o (k:Int) K=K x.av (k':Int):=by
 obtain⟨y2,ky2,y20,y21,L,M⟩:=nx (R:=R) (N:=N) (t:=t) (o:=o) C 4 (by omega) (by omega) k hk
 obtain⟨y4,ky4,y40,y41,O,S⟩:=nx (R:=R) (N:=N) (t:=t) (o:=o) C 2 (by omega) (by omega) ky2 L
 obtain⟨y6,ky6,y60,y61,T,U⟩:=nx (R:=R) (N:=N) (t:=t) (o:=o) C 40 (by omega) (by omega) ky4 O
 obtain⟨y8,ky8,y80,y81,V,Y⟩:=nx (R:=R) (N:=N) (t:=t) (o:=o) C 20 (by omega) (by omega) ky6 T
 obtain⟨y10,ky10,y100,y101,A,D⟩:=nx (R:=R) (N:=N) (t:=t) (o:=o) C 5 (by omega) (by omega) ky8 V
 by_cases h4:y10=4
 ·have e4:(y10==4)=true:=by simpa using h4
  obtain⟨y12,ky12,y120,y121,F,hy12⟩:=nx (R:=R) (N:=N) (t:=t) (o:=o) C 4 (by omega) (by omega) ky10 A
  obtain⟨y14,ky14,y140,y141,G,hy14⟩:=nx (R:=R) (N:=N) (t:=t) (o:=o) C 2 (by omega) (by omega) ky12 F
  obtain⟨y16,ky16,y160,y161,I,hy16⟩:=nx (R:=R) (N:=N) (t:=t) (o:=o) C 4 (by omega) (by omega) ky14 G
  obtain⟨B,kB,b1,b2,hkB,hB⟩:=uA (R:=R) (N:=N) (t:=t) (o:=o) C H hH.1 (by omega) ky16 I
  refine⟨⟨[108,Bdk.getD i 0],fr,to,⟨1+y2,1+y4⟩,⟨0 - y12,1+y14⟩,⟨y16,1⟩,4+y6,4+y6+y8,.of B false false⟩,kB,⟨rfl,rfl,rfl,?_,?_,?_,Ip (by simp only;omega),Ip (by simp only;omega),b1,b2⟩,hkB,fun K=>?_⟩
  ·rw[Aol (by simp only;omega)];simp;omega
  ·rw[Aol (by simp only;omega)];simp;omega
  ·rw[Aol (by simp only;omega)];simp;omega
  ·rw[Wu];unfold Xv
   rw[Tx hi,M,S,U,Y,D,e4,ct,hy12,hy14,hy16,hB,W3,Ql (a:=1+y2) (by omega),Ql (a:=1+y4) (by omega),Ql (a:=0 - y12) (by omega),Ql (a:=1+y14) (by omega),Ql (a:=4+y6) (by omega),Ql (a:=4+y6+y8) (by omega)]
   rfl
 ·have e4:(y10==4)=false:=by simpa using h4
  obtain⟨B,kB,b1,b2,hkB,hB⟩:=uA (R:=R) (N:=N) (t:=t) (o:=o) C H hH.1 (by omega) ky10 A
  refine⟨⟨[108,Bdk.getD i 0],fr,to,⟨1+y2,1+y4⟩,⟨0,1⟩,⟨0,1⟩,4+y6,4+y6+y8,.of B false false⟩,kB,⟨rfl,rfl,rfl,?_,?_,?_,Ip (by simp only;omega),Ip (by simp only;omega),b1,b2⟩,hkB,fun K=>?_⟩
  ·rw[Aol (by simp only;omega)];simp;omega
  ·rw[Aol (by simp only;omega)];simp
  ·rw[Aol (by simp only;omega)];simp
  ·rw[Wu];unfold Xv
   rw[Tx hi,M,S,U,Y,D,e4,cf,hB,W3,Ql (a:=1+y2) (by omega),Ql (a:=1+y4) (by omega),Ql (a:=4+y6) (by omega),Ql (a:=4+y6+y8) (by omega)]
   rfl
structure UnitG (i:Nat) (nb H:Int) (u:UnitD):Prop where
 name:u.name=[117,Bdk.getD i 0]
 bus:0≤u.bus∧u.bus<nb
 min:Fj 0 1048576 u.min=true
 max:Fj u.min 1048576 u.max=true
 sl:1≤u.segs.l.length∧u.segs.l.length≤8
 sok:u.segs.l.all Gh=true
 sord:f6 u.segs.l=true
 ssum:(VV 0 u.segs.l==IntKind.wrap .i64 (u.max - u.min))=true
 noLoad:Fj 0 1048576 u.noLoad=true
 rampUp:Fj 0 1048576 u.rampUp=true
 rampDown:Fj 0 1048576 u.rampDown=true
 startRamp:Fj u.min u.max u.startRamp=true
 stopRamp:Fj u.min u.max u.stopRamp=true
 upTime:Fj 0 24 u.upTime=true
 downTime:Fj 0 24 u.downTime=true
 startTime:Fj 0 24 u.startTime=true
 hotCost:Fj 0 1048576 u.hotCost=true
 coldCost:Fj 0 1048576 u.coldCost=true
 hotHours:Fj 0 24 u.hotHours=true
 reserve:Fj 0 1048576 u.reserve=true
 reservePrice:Fj 0 1048576 u.reservePrice=true
 aw:u.away.l.length≤1
 awr:∀ y ∈ u.away.l,0≤y∧y<H
 state:Fj 0 2 u.state=true
 starting:(u.state != 1||u.startTime != 0)=true
 hours:Fj 1 48 u.hours=true
 started:(u.state != 1||decide (u.hours≤u.startTime))=true
 output:cond (u.state==2) (Fj u.min u.max u.output) (Fj 0 0 u.output)=true
theorem Aon {s:SegD}:∀ {S:List SegD},f6 S=true→(∀ x ∈ S,x.price≤s.price)→f6 (S++[s])=true
 | [],_,_=>Ah8 s
 | [a],_,h=>by
  rw[List.cons_append,List.nil_append,VW,Ah8]
  have:=h a (by simp);simp;omega
 | a::b::r,k,h=>by
  rw[VW] at k
  simp only[Bool.and_eq_true] at k
  rw[List.cons_append,List.cons_append,VW,k.1]
  have:=Aon (S:=b::r) k.2 (fun x B=>h x (by rcases List.mem_cons.1 B with A | A<;>simp[A]))
  simpa using this
theorem Aoo {s:SegD}:∀ {S:List SegD} {a:Int},VV a (S++[s])=IntKind.wrap .i64 (VV a S+s.width)
 | [],a=>rfl
 | x::r,a=>by rw[List.cons_append,VV,VV];exact Aoo
theorem A92 (S:List SegD):(S.flatMap SegD.av).length=S.length*2:=by
 induction S with
 | nil=>rfl
 | cons e r k=>rw[List.flatMap_cons,List.length_append,k,IH];simp;omega
theorem uB {S:List SegD} {n:Nat} (h:n=S.length):List.take (n*2) (S.flatMap SegD.av)=S.flatMap SegD.av:=List.take_of_length_le (by rw[A92,h];exact Nat.le_refl _)
theorem Aop {N:Nat} {l:List Int} {t o:Bool} (A:l.length≤9223372036854775807) {i:Nat} {nb H bus mn noLoad:Int} (hb:0≤bus∧bus<nb) (hmn:0≤mn∧mn<8) (hno:0≤noLoad∧noLoad<20) (hH:1≤H∧H≤24):∀ (n fuel:Nat) (p:Int) (k:Nat) (M:Int) (S:List SegD),n<fuel→k≤l.length→S.length+n≤2→1≤S.length+n→(∀ x ∈ S,x.price≤p∧Gh x=true)→f6 S=true→VV 0 S=M - mn→0≤M - mn→M - mn≤15*S.length→-10≤p→p≤20+10*S.length →
  ∃ (u:UnitD) (k':Nat),UnitG i nb H u∧k'≤l.length∧∀ K:List AV→Int→Option R,Fd N K H (Av l) l.length t o [117,Bdk.getD i 0] bus mn noLoad fuel p (n:Int) (k:Int) M S.length (S.flatMap SegD.av)=K u.av (k':Int)
 | 0,fuel+1,p,k,M,S,_,hk,hS,hS1,hp,ho,hw,hM0,hM1,_,_=>by
  obtain⟨y16,ky16,y160,y161,F,hy16⟩:=nx (R:=R) (N:=N) (t:=t) (o:=o) A 20 (by omega) (by omega) k hk
  obtain⟨y18,ky18,y180,y181,G,hy18⟩:=nx (R:=R) (N:=N) (t:=t) (o:=o) A 20 (by omega) (by omega) ky16 F
  obtain⟨y20,ky20,y200,y201,I,hy20⟩:=nx (R:=R) (N:=N) (t:=t) (o:=o) A (M - mn+1) (by omega) (by omega) ky18 G
  obtain⟨y22,ky22,y220,y221,L,hy22⟩:=nx (R:=R) (N:=N) (t:=t) (o:=o) A (M - mn+1) (by omega) (by omega) ky20 I
  obtain⟨y24,ky24,y240,y241,O,hy24⟩:=nx (R:=R) (N:=N) (t:=t) (o:=o) A 3 (by omega) (by omega) ky22 L
  obtain⟨y26,ky26,y260,y261,T,hy26⟩:=nx (R:=R) (N:=N) (t:=t) (o:=o) A 3 (by omega) (by omega) ky24 O
  obtain⟨y28,ky28,y280,y281,U,hy28⟩:=nx (R:=R) (N:=N) (t:=t) (o:=o) A 2 (by omega) (by omega) ky26 T
  obtain⟨y30,ky30,y300,y301,V,hy30⟩:=nx (R:=R) (N:=N) (t:=t) (o:=o) A 30 (by omega) (by omega) ky28 U
  obtain⟨y32,ky32,y320,y321,Y,hy32⟩:=nx (R:=R) (N:=N) (t:=t) (o:=o) A 30 (by omega) (by omega) ky30 V
  obtain⟨y34,ky34,y340,y341,hky34,hy34⟩:=nx (R:=R) (N:=N) (t:=t) (o:=o) A 4 (by omega) (by omega) ky32 Y
  obtain⟨y36,ky36,y360,y361,hky36,hy36⟩:=nx (R:=R) (N:=N) (t:=t) (o:=o) A 8 (by omega) (by omega) ky34 hky34
  obtain⟨y38,ky38,y380,y381,hky38,hy38⟩:=nx (R:=R) (N:=N) (t:=t) (o:=o) A 4 (by omega) (by omega) ky36 hky36
  obtain⟨B,kB,b1,b2,hkB,hB⟩:=uA (R:=R) (N:=N) (t:=t) (o:=o) A H hH.1 (by omega) ky38 hky38
  obtain⟨y43,ky43,y430,y431,hky43,hy43⟩:=nx (R:=R) (N:=N) (t:=t) (o:=o) A (2+y28) (by omega) (by omega) kB hkB
  obtain⟨y46,ky46,y460,y461,C,hy46⟩:=nx (R:=R) (N:=N) (t:=t) (o:=o) A 4 (by omega) (by omega) ky43 hky43
  have i43:Ad y43 3=true:=Aok y430 (by omega)
  obtain⟨x45,hx45,hst⟩:∃ x45:Int,(∀ f:Int→Option R,Ao .i64 (List.drop (0+((Int.toNat y43)*1)) [(.int .i64 (0:Int)),(.int .i64 (2:Int)),(.int .i64 (1:Int))]) f=f x45)∧(x45=0∨x45=2∨(x45=1∧y28=1)):=by
   have e:[(.int .i64 (0:Int)),(.int .i64 (2:Int)),(.int .i64 (1:Int))]=Av [0,2,1]:=rfl
   refine⟨([0,2,1]:List Int).getD y43.toNat 0,fun f=>by rw[e,A8e (by simp;omega)],?_⟩
   have:y43=0∨y43=1∨y43=2:=by omega
   rcases this with rfl | rfl | rfl
   ·left;rfl
   ·right;left;rfl
   ·right;right;exact⟨rfl,by omega⟩
  have wM:IntKind.wrap .i64 (IntKind.wrap .i64 (M - mn)+1)=M - mn+1:=by rw[Ql (a:=M - mn) (by omega),Ql (by omega)]
  have head:∀ K:List AV→Int→Option R,Fd N K H (Av l) l.length t o [117,Bdk.getD i 0] bus mn noLoad (fuel+1) p ((0:Nat):Int) (k:Int) M S.length (S.flatMap SegD.av) =
    M0 N K (Av l) l.length t o (ky46:Int) [117,Bdk.getD i 0] bus mn M S.length noLoad y16 y18 y24 y26 y28 y30 y34 y36 y38 B.length x45 (S.flatMap SegD.av) (Av B) (mn+y20) (mn+y22) (y30+y32) (cond (x45==1) 1 (1+y46)):=fun K=>by
   rw[Fd];unfold Qc
   rw[show decide (((0:Nat):Int)>0)=false from rfl,cf,wM,hy16,hy18,hy20,hy22,hy24,hy26,hy28,hy30,hy32,hy34,hy36,hy38,hB,Ql (a:=2+y28) (by omega),hy43,i43,ct,hx45,hy46,Ql (a:=mn+y20) (by omega),Ql (a:=mn+y22) (by omega),Ql (a:=y30+y32) (by omega),Ql (a:=1+y46) (by omega)]
   cases x45==1<;>rfl
  have hhr:1≤(cond (x45==1) (1:Int) (1+y46))∧(cond (x45==1) (1:Int) (1+y46))≤4:=by cases x45==1<;>simp<;>omega
  have hst1:x45=1→cond (x45==1) (1:Int) (1+y46)=1:=by intro e;subst e;rfl
  have sall:S.all Gh=true:=by rw[List.all_eq_true];exact fun x hx=>(hp x hx).2
  have ssum:(VV 0 S==IntKind.wrap .i64 (M - mn))=true:=by rw[Ql (a:=M - mn) (by omega),hw];simp
  have starting:(x45 != 1||y28 != 0)=true:=by
   rcases hst with h | h | ⟨h,h'⟩
   ·rw[h];rfl
   ·rw[h];rfl
   ·rw[h,h'];rfl
  have started:(x45 != 1||decide ((cond (x45==1) (1:Int) (1+y46))≤y28))=true:=by
   rcases hst with h | h | ⟨h,h'⟩
   ·rw[h];rfl
   ·rw[h];rfl
   ·rw[h,h'];rfl
  have stR:Fj 0 2 x45=true:=Ip (by omega)
  by_cases D:x45=2
  ·obtain⟨y48,ky48,y480,y481,hky48,hy48⟩:=nx (R:=R) (N:=N) (t:=t) (o:=o) A (M - mn+1) (by omega) (by omega) ky46 C
   refine⟨⟨[117,Bdk.getD i 0],bus,mn,M,.of S false false,noLoad,y16,y18,mn+y20,mn+y22,y24,y26,y28,y30,y30+y32,y34,y36,y38,.of B false false,x45,cond (x45==1) 1 (1+y46),mn+y48⟩,ky48,
    ⟨rfl,hb,Ip (by simp only;omega),Ip (by simp only;omega),by simp only[Sl.l];omega,sall,ho,ssum,Ip (by simp only;omega),Ip (by simp only;omega),Ip (by simp only;omega),Ip (by simp only;omega),Ip (by simp only;omega),Ip (by simp only;omega),Ip (by simp only;omega),Ip (by simp only;omega),Ip (by simp only;omega),Ip (by simp only;omega),Ip (by simp only;omega),Ip (by simp only;omega),Ip (by simp only;omega),b1,b2,stR,starting,Ip (by simp only;omega),started,?_⟩,hky48,fun K=>?_⟩
   ·have:(x45==2)=true:=by simpa using D
    simp only[this,cond_true];exact Ip (by omega)
   ·rw[head];unfold M0
    have:(x45==2)=true:=by simpa using D
    rw[this,ct,wM,hy48,Ql (a:=mn+y48) (by omega),uB rfl,W3]
    rfl
  ·refine⟨⟨[117,Bdk.getD i 0],bus,mn,M,.of S false false,noLoad,y16,y18,mn+y20,mn+y22,y24,y26,y28,y30,y30+y32,y34,y36,y38,.of B false false,x45,cond (x45==1) 1 (1+y46),0⟩,ky46,
    ⟨rfl,hb,Ip (by simp only;omega),Ip (by simp only;omega),by simp only[Sl.l];omega,sall,ho,ssum,Ip (by simp only;omega),Ip (by simp only;omega),Ip (by simp only;omega),Ip (by simp only;omega),Ip (by simp only;omega),Ip (by simp only;omega),Ip (by simp only;omega),Ip (by simp only;omega),Ip (by simp only;omega),Ip (by simp only;omega),Ip (by simp only;omega),Ip (by simp only;omega),Ip (by simp only;omega),b1,b2,stR,starting,Ip (by simp only;omega),started,?_⟩,C,fun K=>?_⟩
   ·have:(x45==2)=false:=by simpa using D
    simp only[this,cond_false];exact Ip (by omega)
   ·rw[head];unfold M0
    have:(x45==2)=false:=by simpa using D
    rw[this,cf,uB rfl,W3]
    rfl
 | n+1,fuel+1,p,k,M,S,hf,hk,hS,hS1,hp,ho,hw,hM0,hM1,hp0,hp1=>by
  obtain⟨y12,ky12,y120,y121,hky12,hy12⟩:=nx (R:=R) (N:=N) (t:=t) (o:=o) A 15 (by omega) (by omega) k hk
  obtain⟨y14,ky14,y140,y141,hky14,hy14⟩:=nx (R:=R) (N:=N) (t:=t) (o:=o) A 10 (by omega) (by omega) ky12 hky12
  obtain⟨u,k',g1,g2,g3⟩:=Aop (N:=N) (t:=t) (o:=o) (i:=i) (nb:=nb) (H:=H) (bus:=bus) (mn:=mn) (noLoad:=noLoad) A hb hmn hno hH n fuel (p+y14) ky14 (M+(1+y12)) (S++[(⟨1+y12,p⟩:SegD)]) (by omega) hky14 (by simp;omega) (by simp;omega) (by
   intro x hx
   rcases List.mem_append.1 hx with h | h
   ·have:=hp x h;exact⟨by omega,this.2⟩
   ·simp at h;subst h
    refine⟨by simp only;omega,?_⟩
    unfold Gh;rw[Ip (by simp only;omega),Ip (by simp only;omega)];rfl) (Aon ho (fun x hx=>(hp x hx).1)) (by rw[Aoo,hw,Ql (by simp only;omega)];simp only;omega) (by omega) (by simp;omega) (by omega) (by simp;omega)
  refine⟨u,k',g1,g2,fun K=>?_⟩
  rw[Fd];unfold Qc
  have c3:(Nat.ble (S.length+1) 140737488355328&&Nat.ble ((S.length+1)*16) 140737488355328)=true:=by rw[E9,E9];simp;omega
  have c5:List.take (S.length*2) (S.flatMap SegD.av)++[.int .i64 (1+y12),.int .i64 p]=(S++[(⟨1+y12,p⟩:SegD)]).flatMap SegD.av:=by rw[uB rfl];simp[SegD.av]
  have wn:IntKind.wrap .i64 (((n+1:Nat):Int) - 1)=(n:Int):=Ah5 (by omega)
  rw[show decide (((n+1:Nat):Int)>0)=true from decide_eq_true (by omega),ct,hy12,c3,ct,hy14,Ql (a:=1+y12) (by omega),Ql (a:=p+y14) (by omega),wn,Ql (a:=M+(1+y12)) (by omega),c5]
  have:=g3 K
  rw[List.length_append] at this
  exact this
theorem A56 {N:Nat} {l:List Int} {t o:Bool} (hN:8≤N) (B:l.length≤9223372036854775807) {i:Nat} (hi:i<16) {nb H:Int} (T:1≤nb∧nb≤1000) (hH:1≤H∧H≤24) (k:Nat) (U:k≤l.length) :
  ∃ (u:UnitD) (k':Nat),UnitG i nb H u∧k'≤l.length∧∀ K:List AV→Int→Option R,Qd N (i:Int) nb H (Av l) l.length t o (k:Int) K=K u.av (k':Int):=by
 obtain⟨y2,ky2,y20,y21,C,L⟩:=nx (R:=R) (N:=N) (t:=t) (o:=o) B nb (by omega) (by omega) k U
 obtain⟨y4,ky4,y40,y41,D,M⟩:=nx (R:=R) (N:=N) (t:=t) (o:=o) B 8 (by omega) (by omega) ky2 C
 obtain⟨y6,ky6,y60,y61,F,O⟩:=nx (R:=R) (N:=N) (t:=t) (o:=o) B 20 (by omega) (by omega) ky4 D
 obtain⟨y8,ky8,y80,y81,G,S⟩:=nx (R:=R) (N:=N) (t:=t) (o:=o) B 20 (by omega) (by omega) ky6 F
 obtain⟨y10,ky10,y100,y101,A,I⟩:=nx (R:=R) (N:=N) (t:=t) (o:=o) B 2 (by omega) (by omega) ky8 G
 obtain⟨n,hn⟩:∃ n:Nat,1+y10=(n:Int):=⟨(1+y10).toNat,by omega⟩
 obtain⟨u,k',V,Y,g3⟩:=Aop (R:=R) (N:=N) (l:=l) (t:=t) (o:=o) B (i:=i) (nb:=nb) (H:=H) (bus:=y2) (mn:=y4) (noLoad:=y6) ⟨y20,y21⟩ ⟨y40,y41⟩ ⟨y60,y61⟩ hH n N (y8 - 2) ky10 y4 [] (by omega) A (by simp;omega) (by simp;omega) (by simp) Aw6 (by simp[VV]) (by omega) (by simp) (by omega) (by simp;omega)
 refine⟨u,k',V,Y,fun K=>?_⟩
 rw[QI];unfold Xw
 rw[Tx hi,L,M,O,S,I,Ql (a:=y8 - 2) (by omega),Ql (a:=1+y10) (by omega),hn]
 simpa using g3 K
structure OutG (i:Nat) (nl nu:Nat) (x:OutD):Prop where
 name:x.name=[111,Bdk.getD i 0]
 ll:x.lines.l.length=1∨x.lines.l.length=2
 lr:∀ y ∈ x.lines.l,0≤y∧y<(nl:Int)
 la:Aim x.lines.l=true
 ml:x.moves.l.length≤nu
 mc:((x.moves.l.length:Int)==0||x.corr)=true
 mr:∀ m ∈ x.moves.l,0≤m.unit∧m.unit<(nu:Int)
 ma:Aim (x.moves.l.map (·.unit))=true
 mi:x.moves.l.all A51=true
theorem Axd {s:Int}:∀ {S:List Int},Aim S=true→(∀ x ∈ S,x<s)→Aim (S++[s])=true
 | [],_,_=>rY s
 | [a],_,h=>by
  rw[List.cons_append,List.nil_append,RY,rY]
  have:=h a (by simp);simp;omega
 | a::b::r,k,h=>by
  rw[RY] at k
  simp only[Bool.and_eq_true] at k
  rw[List.cons_append,List.cons_append,RY,k.1]
  have:=Axd (S:=b::r) k.2 (fun x B=>h x (by rcases List.mem_cons.1 B with A | A<;>simp[A]))
  simpa using this
theorem A8k (S:List MoveD):(S.flatMap MoveD.av).length=S.length*3:=by
 induction S with
 | nil=>rfl
 | cons e r k=>rw[List.flatMap_cons,List.length_append,k,Qk];simp;omega
theorem uC {N:Nat} {l:List Int} {t o:Bool} (I:l.length≤9223372036854775807) {i nl nu:Nat} (L:nu≤16) {B:List Int} (hB1:B.length=1∨B.length=2) (hB2:∀ y ∈ B,0≤y∧y<(nl:Int)) (hB3:Aim B=true):∀ (m j fuel:Nat) (k:Nat) (S:List MoveD),j+m=nu→m<fuel→k≤l.length→S.length≤j→(∀ x ∈ S,0≤x.unit∧x.unit<(j:Int))→Aim (S.map (·.unit))=true→S.all A51=true →
  ∃ (x:OutD) (k':Nat),OutG i nl nu x∧k'≤l.length∧∀ K:List AV→Int→Option R,Ez N K (nu:Int) (Av l) l.length t o [111,Bdk.getD i 0] B.length (Av B) fuel (j:Int) (k:Int) S.length (S.flatMap MoveD.av)=K x.av (k':Int)
 | 0,j,fuel+1,k,S,hj,_,U,hS,hr,T,hi=>by
  have V:j=nu:=by omega
  subst V
  refine⟨⟨[111,Bdk.getD i 0],.of B false false,true,.of S false false⟩,k,⟨rfl,hB1,hB2,hB3,hS,by simp,hr,T,hi⟩,U,fun K=>?_⟩
  rw[Ez];unfold H2
  rw[Lb (Nat.le_refl _),cf,W3,List.take_of_length_le (by rw[A8k];exact Nat.le_refl _)]
  rfl
 | m+1,j,fuel+1,k,S,hj,hf,U,hS,hr,T,hi=>by
  obtain⟨y10,ky10,y100,y101,A,C⟩:=nx (R:=R) (N:=N) (t:=t) (o:=o) I 2 (by omega) (by omega) k U
  by_cases h1:y10=1
  ·obtain⟨y12,ky12,y120,y121,D,M⟩:=nx (R:=R) (N:=N) (t:=t) (o:=o) I 8 (by omega) (by omega) ky10 A
   obtain⟨y14,ky14,y140,y141,F,O⟩:=nx (R:=R) (N:=N) (t:=t) (o:=o) I 8 (by omega) (by omega) ky12 D
   obtain⟨x,k',Y,g2,g3⟩:=uC (N:=N) (t:=t) (o:=o) (i:=i) (nl:=nl) (nu:=nu) I L hB1 hB2 hB3 m (j+1) fuel ky14 (S++[(⟨j,y12,y14⟩:MoveD)]) (by omega) (by omega) F (by simp;omega) (by
    intro x G
    rcases List.mem_append.1 G with h | h
    ·have:=hr x h;omega
    ·simp at h;subst h;simp only;omega) (by
    rw[List.map_append];exact Axd T (by
     intro x G
     simp only[List.mem_map] at G
     obtain⟨y,hy,rfl⟩:=G
     exact(hr y hy).2)) (by
    rw[List.all_append,hi]
    simp only[List.all_cons,List.all_nil,Bool.and_true,Bool.true_and]
    unfold A51;rw[Ip (by simp only;omega),Ip (by simp only;omega)];rfl)
   refine⟨x,k',Y,g2,fun K=>?_⟩
   rw[Ez];unfold H2
   have e1:(y10==1)=true:=by simpa using h1
   have c3:(Nat.ble (S.length+1) 140737488355328&&Nat.ble ((S.length+1)*24) 140737488355328)=true:=by rw[E9,E9];simp;omega
   have c5:List.take (S.length*3) (S.flatMap MoveD.av)++[.int .i64 (j:Int),.int .i64 y12,.int .i64 y14]=(S++[(⟨j,y12,y14⟩:MoveD)]).flatMap MoveD.av:=by
    rw[List.take_of_length_le (by rw[A8k];exact Nat.le_refl _)];simp[MoveD.av]
   rw[Jp (by omega),ct,C,e1,ct,M,O,c3,ct,c5,Fi (by omega)]
   have:=g3 K
   rw[List.length_append] at this
   exact this
  ·obtain⟨x,k',Y,g2,g3⟩:=uC (N:=N) (t:=t) (o:=o) (i:=i) (nl:=nl) (nu:=nu) I L hB1 hB2 hB3 m (j+1) fuel ky10 S (by omega) (by omega) A (by omega) (by intro x G;have:=hr x G;omega) T hi
   refine⟨x,k',Y,g2,fun K=>?_⟩
   rw[Ez];unfold H2
   have e1:(y10==1)=false:=by simpa using h1
   rw[Jp (by omega),ct,C,e1,cf,Fi (by omega),g3]
theorem Aoq {N:Nat} {l:List Int} {t o:Bool} (hN:64≤N) (F:l.length≤9223372036854775807) {i nl nu:Nat} (D:nu≤16) {B:List Int} (hB1:B.length=1∨B.length=2) (hB2:∀ y ∈ B,0≤y∧y<(nl:Int)) (hB3:Aim B=true) (k:Nat) (I:k≤l.length) :
  ∃ (x:OutD) (k':Nat),OutG i nl nu x∧k'≤l.length∧∀ K:List AV→Int→Option R,E1 N K (nu:Int) (Av l) l.length t o [111,Bdk.getD i 0] (k:Int) B.length (Av B)=K x.av (k':Int):=by
 obtain⟨y8,ky8,y80,y81,A,C⟩:=nx (R:=R) (N:=N) (t:=t) (o:=o) F 2 (by omega) (by omega) k I
 by_cases G:y8=1
 ·obtain⟨x,k',L,M,O⟩:=uC (R:=R) (N:=N) (t:=t) (o:=o) (i:=i) (nl:=nl) (nu:=nu) F D hB1 hB2 hB3 nu 0 N ky8 [] (by omega) (by omega) A (by simp) (by simp) Asi rfl
  refine⟨x,k',L,M,fun K=>?_⟩
  unfold E1 Lz
  have e1:(y8==1)=true:=by simpa using G
  rw[C,e1,ct]
  simpa using O K
 ·refine⟨⟨[111,Bdk.getD i 0],.of B false false,false,.of [] false false⟩,ky8,⟨rfl,hB1,hB2,hB3,by simp[Sl.l],by simp[Sl.l],by simp[Sl.l],Asi,rfl⟩,A,fun K=>?_⟩
  unfold E1 Lz
  have e1:(y8==1)=false:=by simpa using G
  rw[C,e1,cf,W3]
  rfl
theorem Axe {N:Nat} {l:List Int} {t o:Bool} (hN:64≤N) (G:l.length≤9223372036854775807) {i nl nu:Nat} (hi:i<16) (hnl:1≤nl∧nl≤1000) (I:nu≤16) (k:Nat) (hk:k≤l.length) :
  ∃ (x:OutD) (k':Nat),OutG i nl nu x∧k'≤l.length∧∀ K:List AV→Int→Option R,K3 N (i:Int) (nl:Int) (nu:Int) (Av l) l.length t o (k:Int) K=K x.av (k':Int):=by
 obtain⟨y2,ky2,y20,y21,L,D⟩:=nx (R:=R) (N:=N) (t:=t) (o:=o) G (nl:Int) (by omega) (by omega) k hk
 obtain⟨y4,ky4,y40,y41,A,F⟩:=nx (R:=R) (N:=N) (t:=t) (o:=o) G (nl:Int) (by omega) (by omega) ky2 L
 have one:∀ k0,k0≤l.length→∃ (x:OutD) (k':Nat),OutG i nl nu x∧k'≤l.length∧∀ K:List AV→Int→Option R,E1 N K (nu:Int) (Av l) l.length t o [111,Bdk.getD i 0] (k0:Int) 1 [.int .i64 y2]=K x.av (k':Int):=fun k0 V =>
  Aoq (i:=i) (nl:=nl) hN G I (B:=[y2]) (.inl rfl) (by intro y M;simp at M;subst M;exact⟨y20,y21⟩) (rY _) k0 V
 by_cases Y:y4>y2
 ·obtain⟨y6,ky6,y60,y61,C,O⟩:=nx (R:=R) (N:=N) (t:=t) (o:=o) G 3 (by omega) (by omega) ky4 A
  by_cases h2:y6=2
  ·obtain⟨x,k',S,T,U⟩:=Aoq (R:=R) (N:=N) (t:=t) (o:=o) (i:=i) (nl:=nl) (nu:=nu) hN G I (B:=[y2,y4]) (.inr rfl) (by intro y M;simp at M;rcases M with rfl | rfl<;>omega) (by rw[RY,rY];simp;omega) ky6 C
   refine⟨x,k',S,T,fun K=>?_⟩
   rw[L0];unfold Iy
   have e1:decide (y4>y2)=true:=by simpa using Y
   have e2:(y6==2)=true:=by simpa using h2
   rw[Tx hi,D,F,e1,O,e2]
   simpa[Av] using U K
  ·obtain⟨x,k',S,T,U⟩:=one ky6 C
   refine⟨x,k',S,T,fun K=>?_⟩
   rw[L0];unfold Iy
   have e1:decide (y4>y2)=true:=by simpa using Y
   have e2:(y6==2)=false:=by simpa using h2
   rw[Tx hi,D,F,e1,O,e2]
   exact U K
 ·obtain⟨x,k',S,T,U⟩:=one ky4 A
  refine⟨x,k',S,T,fun K=>?_⟩
  rw[L0];unfold Iy
  have e1:decide (y4>y2)=false:=by simpa using Y
  rw[Tx hi,D,F,e1]
  exact U K
end
end Gx.Cf

namespace Gx.Cf
open Go Go.Proofs
section
variable {R:Type}
def Ak7 (f:Bool) (H:Nat) (res:List Int) (bs:List BusD) (ls:List LineD) (us:List UnitD) (ss:List StoreD) (ts:List TieD) (os:List OutD):CaseD :=
 ⟨(H:Int),.of res false f,.of bs false f,.of ls false f,.of us false f,.of ss false f,.of ts false f,.of os false f⟩
structure BusG (i H:Nat) (b:BusD):Prop where
 name:b.name=[98,Bdk.getD i 0]
 dl:b.demand.l.length=H
 dr:∀ x ∈ b.demand.l,0≤x∧x<14
 shed:0≤b.shed∧b.shed<300
structure StoreG (nb:Nat) (x:StoreD):Prop where
 name:x.name=[115,48]
 bus:0≤x.bus∧x.bus<(nb:Int)
 cap:0≤x.capacity∧x.capacity<20
 ini:0≤x.initial∧x.initial≤x.capacity
 fin:0≤x.final∧x.final≤x.capacity
 ch:0≤x.charge∧x.charge<8
 dis:0≤x.discharge∧x.discharge<8
 eff:1≤x.eff.num∧x.eff.num≤4∧x.eff.den=4
structure TieG (nb H:Nat) (x:TieD):Prop where
 name:x.name=[116,48]
 bus:0≤x.bus∧x.bus<(nb:Int)
 il:x.imp.l.length=H
 ir:∀ y ∈ x.imp.l,0≤y∧y<12
 el:x.exp.l.length=H
 er:∀ y ∈ x.exp.l,0≤y∧y<12
 pl:x.price.l.length=H
 pr:∀ y ∈ x.price.l,0≤y∧y<40
structure LineH (nb:Nat) (i:Nat) (H:Int) (x:LineD):Prop where
 g:LineG i x.fr x.to H x
 fr:0≤x.fr∧x.fr<(nb:Int)
 to:0≤x.to∧x.to<(nb:Int)
 ne:x.fr≠x.to
structure BaseG (H:Nat) (res:List Int) (bs:List BusD) (ls:List LineD) (us:List UnitD) (ss:List StoreD) (ts:List TieD):Prop where
 h:1≤H∧H≤3
 rl:res.length=H
 rr:∀ x ∈ res,0≤x∧x<5
 bl:1≤bs.length∧bs.length≤4
 bg:∀ i (h:i<bs.length),BusG i H bs[i]
 ll:ls.length≤7
 lg:∀ i (h:i<ls.length),LineH bs.length i H ls[i]
 ul:1≤us.length∧us.length≤3
 ug:∀ i (h:i<us.length),UnitG i bs.length H us[i]
 sl:ss.length≤1
 sg:∀ x ∈ ss,StoreG bs.length x
 tl:ts.length≤1
 tg:∀ x ∈ ts,TieG bs.length H x
structure OutsG (nl nu:Nat) (os:List OutD):Prop where
 l:os.length≤3
 g:∀ i (h:i<os.length),OutG i nl nu os[i]
theorem A57 {N:Nat} (hN:4096≤N) {f:Bool} {H:Nat} {res:List Int} {bs:List BusD} {ls:List LineD} {us:List UnitD} {ss:List StoreD} {ts:List TieD} {os:List OutD} (b:BaseG H res bs ls us ss ts) (g:OutsG ls.length us.length os):Small (Ak7 f H res bs ls us ss ts os) N:=by
 have h:=b.h;have rl:=b.rl;have bl:=b.bl;have ll:=b.ll;have ul:=b.ul;have sl:=b.sl;have tl:=b.tl;have ol:=g.l
 have fit:∀ n:Nat,n≤100→S5 n N:=fun n hn=>⟨by omega,by omega⟩
 refine⟨by omega,fit _ (by simp only[Ak7,Sl.l];omega),fit _ (by simp only[Ak7,Sl.l];omega),fit _ (by simp only[Ak7,Sl.l];omega),fit _ (by simp only[Ak7,Sl.l];omega),fit _ (by simp only[Ak7,Sl.l];omega),fit _ (by simp only[Ak7,Sl.l];omega),fit _ (by simp only[Ak7,Sl.l];omega),
  fun x k=>?_,fun x k=>?_,fun x k=>?_,fun x k=>?_,fun x k=>?_,fun x k=>?_,fun x k=>?_,fun x k=>?_,fun x k=>?_,fun x k=>?_,by simp only[Ak7,Sl.l];omega⟩
 all_goals simp only[Ak7,Sl.l] at k
 ·obtain⟨i,hi,rfl⟩:=List.getElem_of_mem k;have:=(b.bg i hi).dl;exact fit _ (by omega)
 ·obtain⟨i,hi,rfl⟩:=List.getElem_of_mem k;have:=(b.lg i hi).g.aw;exact fit _ (by omega)
 ·obtain⟨i,hi,rfl⟩:=List.getElem_of_mem k;have:=(b.ug i hi).sl;exact fit _ (by omega)
 ·obtain⟨i,hi,rfl⟩:=List.getElem_of_mem k;have:=(b.ug i hi).aw;exact fit _ (by omega)
 ·have:=(b.tg x k).il;exact fit _ (by omega)
 ·have:=(b.tg x k).el;exact fit _ (by omega)
 ·have:=(b.tg x k).pl;exact fit _ (by omega)
 ·obtain⟨i,hi,rfl⟩:=List.getElem_of_mem k;have:=(g.g i hi).ll;exact fit _ (by omega)
 ·obtain⟨i,hi,rfl⟩:=List.getElem_of_mem k;have:=(g.g i hi).ml;exact fit _ (by omega)
 ·obtain⟨i,hi,rfl⟩:=List.getElem_of_mem k;have:=(g.g i hi).ml;omega
theorem A8l {α:Type} {e:α→List AV} {sz:Nat} (k:∀ a,(e a).length=sz) (l:List α):(l.flatMap e).length=l.length*sz:=by
 induction l with
 | nil=>simp
 | cons a r A=>rw[List.flatMap_cons,List.length_append,A,k,List.length_cons,Nat.add_mul];omega
theorem Ce {α:Type} {e:α→List AV} {sz n:Nat} (k:∀ a,(e a).length=sz) (l:List α) (hn:n=l.length):List.take (n*sz) (l.flatMap e)=l.flatMap e:=List.take_of_length_le (by rw[A8l k,hn];exact Nat.le_refl _)
theorem Pr {B:List Int} {n:Nat} (h:n=B.length):List.take (n*1) (Av B)=B.flatMap AE:=by rw[h];exact W3
theorem fc {α:Type} {P:Nat→α→Prop} {l:List α} {x:α} (h:∀ i (h:i<l.length),P i l[i]) (A:P l.length x):∀ i (h:i<(l++[x]).length),P i (l++[x])[i]:=by
 intro i hi
 by_cases k:i<l.length
 ·rw[List.getElem_append_left k];exact h i k
 ·have:i=l.length:=by simp at hi;omega
  subst this
  simpa using A
theorem A1i {p:J5} (h:(Ii p==0)=true):p=none:=by
 rcases p with _ | ⟨x,e,k⟩
 ·rfl
 ·simp[Ii] at h;exact absurd h k
theorem Asp {N:Nat} {l:List Int} {o:Bool} (hN:4096≤N) (D:l.length≤9223372036854775807) {H:Nat} {res:List Int} {bs:List BusD} {ls:List LineD} {us:List UnitD} {ss:List StoreD} {ts:List TieD} (b:BaseG H res bs ls us ss ts):∀ (n fuel k:Nat) (os:List OutD),n<fuel→k≤l.length→os.length+n≤3→OutsG ls.length us.length os→(os=[]∨fb (Ak7 true H res bs ls us ss ts os)=none) →
  ∃ os',OutsG ls.length us.length os'∧(os'=[]∨fb (Ak7 true H res bs ls us ss ts os')=none)∧∀ K:List AV→Option R,H7 N K (Av l) l.length o (H:Int) res.length bs.length ls.length us.length ss.length ts.length (Av res) (bs.flatMap BusD.av) (ls.flatMap LineD.av) (us.flatMap UnitD.av) (ss.flatMap StoreD.av) (ts.flatMap TieD.av) fuel (n:Int) (k:Int) os.length (os.flatMap OutD.av)=K (Ak7 false H res bs ls us ss ts os').av
 | 0,fuel+1,k,os,_,G,_,g,B=>by
  refine⟨os,g,B,fun K=>?_⟩
  rw[H7];unfold Zk
  rw[show decide (((0:Nat):Int)>0)=false from rfl,Pr rfl,Ce R_ _ rfl,Ce Hm _ rfl,Ce Qj _ rfl,Ce Pn _ rfl,Ce Zy _ rfl,Ce Po _ rfl]
  rfl
 | n+1,fuel+1,k,os,U,G,hn,g,B=>by
  by_cases I:ls.length=0
  ·refine⟨os,g,B,fun K=>?_⟩
   rw[H7];unfold Zk
   rw[show decide ((ls.length:Int)>0)=false from decide_eq_false (by omega),show decide (((n+1:Nat):Int)>0)=true from decide_eq_true (by omega),Pr rfl,Ce R_ _ rfl,Ce Hm _ rfl,Ce Qj _ rfl,Ce Pn _ rfl,Ce Zy _ rfl,Ce Po _ rfl]
   rfl
  ·have L:=b.ul;have M:=b.ll
   obtain⟨x,C,gx,A,O⟩:=Axe (R:=R) (N:=N) (t:=false) (o:=o) (by omega) D (i:=os.length) (nl:=ls.length) (nu:=us.length) (by omega) (by omega) (by omega) k G
   have g':OutsG ls.length us.length (os++[x]):=⟨by simp;omega,fc g.g gx⟩
   have sm:=A57 (f:=true) hN b g'
   have wn:IntKind.wrap .i64 (((n+1:Nat):Int) - 1)=(n:Int):=Ah5 (by omega)
   have step:∀ K:List AV→Option R,H7 N K (Av l) l.length o (H:Int) res.length bs.length ls.length us.length ss.length ts.length (Av res) (bs.flatMap BusD.av) (ls.flatMap LineD.av) (us.flatMap UnitD.av) (ss.flatMap StoreD.av) (ts.flatMap TieD.av) (fuel+1) ((n+1:Nat):Int) (k:Int) os.length (os.flatMap OutD.av) =
     cond (Ii (fb (Ak7 true H res bs ls us ss ts (os++[x])))==0)
      (H7 N K (Av l) l.length o (H:Int) res.length bs.length ls.length us.length ss.length ts.length (Av res) (bs.flatMap BusD.av) (ls.flatMap LineD.av) (us.flatMap UnitD.av) (ss.flatMap StoreD.av) (ts.flatMap TieD.av) fuel (n:Int) (C:Int) (os++[x]).length ((os++[x]).flatMap OutD.av))
      (H7 N K (Av l) l.length o (H:Int) res.length bs.length ls.length us.length ss.length ts.length (Av res) (bs.flatMap BusD.av) (ls.flatMap LineD.av) (us.flatMap UnitD.av) (ss.flatMap StoreD.av) (ts.flatMap TieD.av) fuel (n:Int) (C:Int) os.length (os.flatMap OutD.av)):=fun K=>by
    rw[H7];unfold Zk VL
    have c1:(Nat.ble (0+os.length) 140737488355328&&Nat.ble ((0+os.length)*72) 140737488355328)=true:=by rw[E9,E9];simp;omega
    have S:(Nat.ble ((0+os.length)+1) 140737488355328&&Nat.ble (((0+os.length)+1)*72) 140737488355328)=true:=by rw[E9,E9];simp;omega
    have c3:List.take ((0+os.length)*4) (List.take (os.length*4) (os.flatMap OutD.av))++List.take 4 (setCells [(.str ([]:List UInt8)),.nsl,(.bool false),.nsl] 0 (List.take 4 x.av))=(os++[x]).flatMap OutD.av:=by
     rw[Nat.zero_add,Ce Po _ rfl,Ce Po _ rfl]
     simp only[List.flatMap_append,List.flatMap_cons,List.flatMap_nil,List.append_nil]
     rfl
    have c4:List.take (((0+os.length)+1)*4) ((os++[x]).flatMap OutD.av)=(os++[x]).flatMap OutD.av:=Ce Po _ (by simp)
    have T:(0+os.length)+1=(os++[x]).length:=by simp
    rw[show decide ((ls.length:Int)>0)=true from decide_eq_true (by omega),show decide (((n+1:Nat):Int)>0)=true from decide_eq_true (by omega)]
    simp only[beq_self_eq_true,cond_true]
    rw[O,show((Nat.beq 0 0)&&((Nat.beq (List.length x.av) 4)&&(Nat.beq 4 4)))=true from rfl,ct,c1,ct,show Nat.ble 4 (List.length x.av)=true from rfl,ct,show((Nat.beq (List.length (List.take 4 x.av)) 4)&&(Nat.ble 4 4))=true from rfl,ct,S,ct,c3,c4,T,Pr rfl,Ce R_ _ rfl,Ce Hm _ rfl,Ce Qj _ rfl,Ce Pn _ rfl,Ce Zy _ rfl]
    refine Eq.trans (Aih (R:=R) (N:=N) (c:=Ak7 true H res bs ls us ss ts (os++[x])) (o:=true) sm hN) ?_
    rw[Bb6,show((Nat.beq 3 3)&&((Nat.ble 3 3)&&(!false)))=true from rfl,ct,wn]
   cases F:Ii (fb (Ak7 true H res bs ls us ss ts (os++[x])))==0 with
   | true =>
    obtain⟨os',a1,a2,a3⟩:=Asp hN D b n fuel C (os++[x]) (by omega) A (by simp;omega) g' (.inr (A1i F))
    exact⟨os',a1,a2,fun K=>by rw[step,F,ct,a3]⟩
   | false =>
    obtain⟨os',a1,a2,a3⟩:=Asp hN D b n fuel C os (by omega) A (by omega) g B
    exact⟨os',a1,a2,fun K=>by rw[step,F,cf,a3]⟩
end
end Gx.Cf
